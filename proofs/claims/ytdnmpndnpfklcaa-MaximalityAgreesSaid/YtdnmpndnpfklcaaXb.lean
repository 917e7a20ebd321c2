/- Problems in memory; maps from states to slices of edges; walk: maximality.into. -/
import Derived.Test.YtdnmpndnpfklcaaIb
import Derived.Test.YtdnmpndnpfklcaaUx
import Derived.Test.YtdnmpndnpfklcaaIu
import Derived.Maps.Own
import Derived.Maps.OwnSet

namespace Go.Proofs.Ytdnmpndnpfklcaa
open Go.RowKit Go Go.Maps
abbrev Hd:=Nat × Nat × Nat
def hvl:Option Hd → Value
 | none=>.slice none 0 0
 | some h=>.slice (some ⟨h.1,0,none⟩) h.2.1 h.2.2
def hdR:Value → Option (DataW Unit × List MemPlace)
 | .slice none 0 0=>some (.agg [],[])
 | .slice (some ⟨b,0,none⟩) n c=>some (.agg [.lit (.int .i64 (b:Int)),.lit (.int .i64 (n:Int)),.lit (.int .i64 (c:Int))],[])
 | _=>none
def datH:Option Hd → DataW Unit
 | none=>.agg []
 | some h=>.agg [.lit (.int .i64 (h.1:Int)),.lit (.int .i64 (h.2.1:Int)),.lit (.int .i64 (h.2.2:Int))]
theorem hdR_hvl (o:Option Hd):hdR (hvl o) = some (datH o,[]):=by cases o <;> rfl
theorem hdR_inv {v:Value} {o:Option Hd} {ps:List MemPlace} (h:hdR v = some (datH o,ps)):v = hvl o:=by
 unfold hdR at h
 split at h
 ·injection h with h
  injection h with h _
  cases o with
  | none=>rfl
  | some x=>unfold datH at h;injection h with h;cases h
 ·rename_i b n c
  injection h with h
  injection h with h _
  cases o with
  | none=>unfold datH at h;injection h with h;cases h
  | some x =>
   obtain ⟨x1,x2,x3⟩:=x
   unfold datH at h
   simp only [DataW.agg.injEq,List.cons.injEq,DataW.lit.injEq,Lit.int.injEq,true_and,and_true] at h
   obtain ⟨h1,h2,h3⟩:=h
   unfold hvl
   dsimp only
   rw [show b = x1 by omega,show n = x2 by omega,show c = x3 by omega]
 ·cases h
def TabH {α:Type} (P:Program) (K:TypeId) (key:α → Value) (w:World) (b n:Nat) (g:α → Option Hd):Prop :=
 ∃ D:DataW Unit,w.ownsMap P K hdR b n D∧∀ (a:α) (kl:Lit),keyOf P K (key a) = some kl → Maps.has D kl = (g a).isSome∧D.atKey kl (datH none) = datH (g a)
section
variable {α:Type} {P:Program} {K E:TypeId} {key:α → Value} {w w':World} {b n:Nat} {g:α → Option Hd}
theorem TabH.lt (h:TabH P K key w b n g):b < w.heap.size:=by
 obtain ⟨D,h1,h2⟩:=h
 exact h1.lt
theorem TabH.kept (h:TabH P K key w b n g) {row:Option Nat} (hg:w.grownBy w' row) (hne:some b ≠ row):TabH P K key w' b n g:=by
 obtain ⟨D,h1,h2⟩:=h
 exact ⟨D,h1.kept hg hne,h2⟩
theorem TabH.block (h:TabH P K key w b n g) (he:w'.heap[b]? = w.heap[b]?):TabH P K key w' b n g:=by
 obtain ⟨D,⟨es,clock,hb,F,hs,hD⟩,h2⟩:=h
 exact ⟨D,⟨es,clock,he.trans hb,F,hs,hD⟩,h2⟩
theorem TabH.below (h:TabH P K key w b n g) (hb:Below w.heap.size w w'):TabH P K key w' b n g:=h.block (hb.block b h.lt)
theorem TabH.made (w:World) (P:Program) (K:TypeId) (key:α → Value):TabH P K key (w.alloc (.map #[] 0)) w.heap.size 0 (fun _=>none) :=
 ⟨_,World.ownsMap_made _ _ _ _,fun a kl _=>⟨by simp [Maps.has_eq],rfl⟩⟩
theorem TabH.ne {base:Nat} {e:TypeId} {size m:Nat} {v:Value} {xs:List Value} (h:TabH P K key w b n g) (ho:w.ownsRow base e size v m xs):some b ≠ v.ownBlock:=by
 obtain ⟨D,⟨es,clock,hb,_⟩,_⟩:=h
 intro e
 rcases ho.2 with ⟨rfl,_⟩ | ⟨q,cap,cur,rfl,_,hq,_⟩
 ·cases e
 ·injection e with e
  subst e
  rw [show w.heap[b]? = some (.map es clock) from hb] at hq
  cases hq
theorem TabH.neB {t:TypeId} {vs:List Value} {q:Nat} (h:TabH P K key w b n g) (hk:Blk w q t vs):b ≠ q:=by
 obtain ⟨D,⟨es,clock,hb,_⟩,_⟩:=h
 rintro rfl
 have:=hk.symm.trans hb
 cases this
theorem TabH.look (h:TabH P K key w b n g) {t:TypeId} (KK:Keyed P K) (ht:P.underlying t = some (.map K E)) (hz:(zeroValue E).run P w = .ok (.slice none 0 0) w)
  (c:α) (hk:∃ kl,keyOf P K (key c) = some kl):(Instr.lookup t (.map (some b)) (key c) false).run P w = .ok (hvl (g c)) w:=by
 obtain ⟨D,h1,h2⟩:=h
 obtain ⟨kl,hkl⟩:=hk
 obtain ⟨h3,h4⟩:=h2 c kl hkl
 obtain ⟨v,ps,hrun,hv⟩:=h1.lookup KK ht hz (show hdR (.slice none 0 0) = some (datH none,[]) from rfl) hkl
 rw [h4] at hv
 rw [hrun,hdR_inv hv]
theorem TabH.put (h:TabH P K key w b n g) {t:TypeId} (KK:Keyed P K) (ht:P.underlying t = some (.map K E)) (hn:n ≤ 1000000000) (c:α) (hk:∃ kl,keyOf P K (key c) = some kl) (y:Hd)
  (g':α → Option Hd) (hg1:∀ d,key d = key c → g' d = some y) (hg2:∀ d,key d ≠ key c → g' d = g d) :
  ∃ w',(Instr.mapUpdate t (.map (some b)) (key c) (hvl (some y))).run P w = .ok () w'∧TabH P K key w' b (n + 1) g'∧w.grownBy w' (some b):=by
 obtain ⟨D,h1,h2⟩:=h
 obtain ⟨kl,hkl⟩:=hk
 obtain ⟨w',hrun,q1,q2⟩:=h1.update KK ht (by unfold maxLen;omega) hkl (hdR_hvl (some y))
 refine ⟨w',hrun,⟨_,q1,fun d kd hkd=>?_⟩,q2⟩
 by_cases hd:key d = key c
 ·have:kd = kl:=by rw [hd,hkl] at hkd;injection hkd with e;exact e.symm
  subst this
  rw [hg1 d hd]
  exact ⟨Maps.has_put_same h1.isMap (KK.key hkl) _,Maps.atKey_put_same h1.isMap (KK.key hkl) _ _⟩
 ·have hne:kd ≠ kl:=fun e=>hd (KK.inj (by rw [← e];exact hkd) hkl)
  rw [hg2 d hd,Maps.has_put_other hne,Maps.atKey_put_other hne]
  exact h2 d kd hkd
end
theorem zeroEds (w:World):(zeroValue 30).run Try.prog w = .ok (.slice none 0 0) w:=by kernel_rfl
structure InM (B:Nat) (w0 w:World) (o n:Nat) (es:List Ed) (g:Int → Option Hd):Prop where
 bel:Below B w0 w
 siz:B ≤ w.heap.size
 tab:TabH Try.prog 3 (Value.int .i64) w o n g
 lt:B ≤ o
 row:∀ t,w.ownsRow B 67 3 (hvl (g t)) (preL es t).length ((preL es t).flatMap edc)
 apt:∀ t u h k,g t = some h → g u = some k → h.1 = k.1 → t = u
section
variable {B:Nat} {w0 w w':World} {o n:Nat} {es:List Ed} {g:Int → Option Hd}
theorem InM.start (w:World):InM w.heap.size w (w.alloc (.map #[] 0)) w.heap.size 0 [] (fun _=>none) :=
 ⟨(Below.refl _ _).alloc (Nat.le_refl _) _,by simp,TabH.made _ _ _ _,Nat.le_refl _,fun t=>World.ownsRow_nil _ _ _ _,fun t u h k e=>by cases e⟩
theorem InM.quiet (h:InM B w0 w o n es g) (hb:Below w.heap.size w w'):InM B w0 w' o n es g :=
 ⟨h.bel.trans (hb.mono h.siz),Nat.le_trans h.siz hb.size,h.tab.below hb,h.lt,fun t=>own_below (h.row t) hb,h.apt⟩
theorem preL_snoc (es:List Ed) (x:Ed) (t:Int):preL (es ++ [x]) t = if x.t = t then preL es t ++ [x] else preL es t:=by
 unfold preL
 rw [List.filter_append]
 by_cases h:x.t = t
 ·rw [if_pos h];simp [h]
 ·rw [if_neg h];simp [h]
theorem InM.step (h:InM B w0 w o n es g) {x:Ed} {gb c:Nat} {w1 w2:World}
  (ho:w1.ownsRow B 67 3 (.slice (some ⟨gb,0,none⟩) ((preL es x.t).length + 1) c) ((preL es x.t).length + 1) ((preL es x.t).flatMap edc ++ edc x)) (hg:w.grownBy w1 (hvl (g x.t)).ownBlock)
  (hgb:(hvl (g x.t)).ownBlock = some gb ∨ w.heap.size ≤ gb)
  (ht:TabH Try.prog 3 (Value.int .i64) w2 o (n + 1) (fun u=>if u = x.t then some (gb,(preL es x.t).length + 1,c) else g u)) (hg2:w1.grownBy w2 (some o)) :
  InM B w0 w2 o (n + 1) (es ++ [x]) (fun u=>if u = x.t then some (gb,(preL es x.t).length + 1,c) else g u):=by
 have htab1:=h.tab.kept hg (h.tab.ne (h.row x.t))
 have hb1:Below B w0 w1:=h.bel.grown hg h.siz (fun j hj=>((h.row x.t).lt j hj).1)
 have hs1:=Nat.le_trans h.siz hg.size
 refine ⟨hb1.grown hg2 hs1 (fun j hj=>by injection hj with hj;have:=h.lt;omega),Nat.le_trans hs1 hg2.size,ht,h.lt,fun t=>?_,?_⟩
 ·rw [preL_snoc]
  by_cases hx:x.t = t
  ·subst hx
   rw [if_pos rfl,if_pos rfl,List.flatMap_append,List.length_append]
   have:=ho.kept hg2 (.inr (fun e=>htab1.ne ho e.symm))
   simpa [hvl] using this
  ·have hx':¬ t = x.t:=fun e=>hx e.symm
   rw [if_neg hx,if_neg hx']
   have h1:w1.ownsRow B 67 3 (hvl (g t)) (preL es t).length ((preL es t).flatMap edc):=by
    refine (h.row t).kept hg ?_
    cases hgt:g t with
    | none=>exact .inl rfl
    | some k =>
     refine .inr ?_
     intro e
     cases hgx:g x.t with
     | none=>rw [hgx] at e;cases e
     | some k2 =>
      rw [hgx] at e
      have:k.1 = k2.1:=by simpa [hvl,Value.ownBlock] using e
      exact hx (h.apt _ _ _ _ hgt hgx this).symm
   exact h1.kept hg2 (.inr (fun e=>htab1.ne h1 e.symm))
 ·have key:∀ u k,u ≠ x.t → g u = some k → k.1 ≠ gb:=by
   intro u k hu hk e
   rcases hgb with h9 | h9
   ·cases hgx:g x.t with
    | none=>rw [hgx] at h9;cases h9
    | some k2 =>
     rw [hgx] at h9
     have:k2.1 = gb:=by simpa [hvl,Value.ownBlock] using h9
     exact hu (h.apt _ _ _ _ hk hgx (by omega))
   ·have h8:=h.row u
    rw [hk] at h8
    have:=(h8.lt k.1 rfl).2
    omega
  intro t u h1 k1 e1 e2 e3
  by_cases ht1:t = x.t
  ·rw [if_pos ht1] at e1
   by_cases hu1:u = x.t
   ·rw [ht1,hu1]
   ·rw [if_neg hu1] at e2
    injection e1 with e1
    subst e1
    exact absurd e3.symm (key u k1 hu1 e2)
  ·rw [if_neg ht1] at e1
   by_cases hu1:u = x.t
   ·rw [if_pos hu1] at e2
    injection e2 with e2
    subst e2
    exact absurd e3 (key t h1 ht1 e1)
   ·rw [if_neg hu1] at e2
    exact h.apt _ _ _ _ e1 e2 e3
theorem InM.base {w9:World} (h:InM B w0 w o n es g) (hb:Below w9.heap.size w9 w0) (hB:w9.heap.size ≤ B):InM w9.heap.size w9 w o n es g :=
 ⟨hb.trans (h.bel.mono hB),Nat.le_trans hB h.siz,h.tab,Nat.le_trans hB h.lt,fun t=>own_base (h.row t) hB,h.apt⟩
theorem InM.rdx (h:InM B w0 w o n es g) (t:Int):∃ (A:Option Addr) (c:Nat),hvl (g t) = .slice A (preL es t).length c∧RdX w w.heap.size A (preL es t):=by
 have h1:=h.row t
 obtain ⟨A,c,e⟩:=own_shape h1
 rw [e] at h1
 exact ⟨A,c,e,RdR.of_own (by omega) (fun _ _=>rfl) h1⟩
end
def RetInto (ed:List Ed) (w:World) (e:Ending) (w':World):Prop:=∃ (o m:Nat) (g:Int → Option Hd),e = .returned (.map (some o))∧InM w.heap.size w w' o m ed g
set_option maxRecDepth 100000 in
set_option maxHeartbeats 1600000 in
theorem max_into (x:AV) (w:World) (hx:x.ok w w.heap.size) (hw:WF x.a) :
  Calls Try.prog 37 #[.agg #[.slice x.A x.na x.ca,.int .i64 x.a.st,.slice x.M x.nm x.cm,.slice x.E x.ne x.ce]] w (RetInto x.a.ed w):=by
 obtain ⟨A,na,ca,M,nm,cm,E,ne,ce,a⟩:=x
 dsimp only at hw ⊢
 have hb1:=box_below w (.cells #[.slice A na ca,.int .i64 a.st,.slice M nm cm,.slice E ne ce] 32)
 obtain ⟨w1,hw9⟩:∃ w1,w1 = w.alloc (.cells #[.slice A na ca,.int .i64 a.st,.slice M nm cm,.slice E ne ce] 32):=⟨_,rfl⟩
 have kx:Blk w1 w.heap.size 32 [.slice A na ca,.int .i64 a.st,.slice M nm cm,.slice E ne ce]:=by rw [hw9];exact Blk.new _ _ [_,_,_,_]
 rw [← hw9] at hb1
 have HRE:=Lib.hid (fun (W:World) (hb:Below w1.heap.size w1 W)=>((AutR.more (AutR.below hx (hb1.trans (hb.mono hb1.size))) (hb1.trans (hb.mono hb1.size)).size)).re)
 have HLE:=Lib.hid hx.le
 have HER:=Lib.hid (fun (x:Ed) (h:x ∈ a.ed)=>hw.ev_rng h)
 have hst1:=hw.st1
 have hedl:=hw.ed_le
 rw [HLE.out] at hedl
 obtain ⟨sv,hsv⟩:∃ z,a.st = z:=⟨_,rfl⟩
 rw [hsv] at hw9 kx HER hst1 ⊢
 obtain ⟨a0,a1,a2,a3⟩:=Blk.c4 kx
 have hs1:w1.heap.size = w.heap.size + 1:=by rw [hw9];simp
 have hI0:InM w1.heap.size w1 (w1.alloc (.map #[] 0)) (w.heap.size + 1) 0 (a.ed.take 0) (fun _=>none):=by
  have:=InM.start w1
  rw [hs1] at this ⊢
  exact this
 obtain ⟨w2,hw2⟩:∃ w2,w2 = w1.alloc (.map #[] 0):=⟨_,rfl⟩
 rw [← hw2] at hI0
 have HI0:=Lib.hid hI0
 have HS1:=Lib.hid hs1
 have HB1:=Lib.hid hb1
 have c3:w2.cell? ⟨w.heap.size,3,none⟩ = some (.slice E ne ce):=(hI0.bel.cell (p:=⟨w.heap.size,3,none⟩) kx.lt).trans a3
 have hw2':(w.alloc (.cells #[.slice A na ca,.int .i64 sv,.slice M nm cm,.slice E ne ce] 32)).alloc (.map #[] 0) = w2:=by rw [hw2,hw9]
 have HW2:=Lib.hid hw2'
 have hmm:=@run_makeMap Try.prog
 clear hx hw kx hb1 hw9 hw2 hw2' hI0 hsv a0 a1 a2 a3 hs1
 go_enter Try.func37,Try.ntmps37
 go_upto_region 2 with fail
 rw [HW2.out]
 clear hmm
 go_wp2
 clear c3
 go_loopw [5,10] (fun s5 s10 wr=>∃ (k:Nat) (v5:Value) (g:Int → Option Hd),s5 = v5∧s10 = .int .i64 k∧k ≤ ne∧Hid (InM w1.heap.size w1 wr (w.heap.size + 1) k (a.ed.take k) g)) (fun _ s10 _=>ne - (intOf s10).toNat)
 case atStart=>exact ⟨0,_,_,rfl,rfl,Nat.zero_le _,HI0⟩
 case round =>
  clear HI0
  obtain ⟨k,v5,g,rfl,rfl,hk,HI⟩:=hrel
  by_cases hlt:k < ne
  ·obtain ⟨ad,x,rfl,hab,hx,g0,g1,g2⟩:=(HRE.out wr HI.out.bel).at_ (k:=k) (by rw [HLE.out];exact hlt)
   have r1:wr.cell? ⟨(ad.add (k * 3)).block,(ad.add (k * 3)).off + 1,none⟩ = some (.int .i64 x.e):=st_cells (j:=0) g1
   have r2:wr.cell? ⟨(ad.add (k * 3)).block,(ad.add (k * 3)).off + 2,none⟩ = some (.int .i64 x.t):=st_cells (j:=1) g2
   have b1:(k:Int) < (ne:Int):=by omega
   have hxr:=HER.out x (List.mem_of_getElem? hx)
   have hkw:(Lit.int .i64 x.t).wf = true:=WalkArith.wf_i64 (by omega)
   have HTK:=Lib.hid (take_snoc' hx)
   have HKW:=Lib.hid (intKey x.t hkw)
   have hbx:=box_below wr (.cells #[.int .i64 x.f,.int .i64 x.e,.int .i64 x.t] 67)
   have ke:Blk (wr.alloc (.cells #[.int .i64 x.f,.int .i64 x.e,.int .i64 x.t] 67)) wr.heap.size 67 [.int .i64 x.f,.int .i64 x.e,.int .i64 x.t]:=Blk.new _ _ [_,_,_]
   have HI5:=Lib.hid (HI.out.quiet hbx)
   have hlo:w.heap.size + 1 ≠ wr.heap.size:=by have:=HI.out.tab.lt;omega
   have HLO:=Lib.hid hlo
   have HNB:=Lib.hid (fun (gq:Nat) (e:(hvl (g x.t)).ownBlock = some gq)=>((HI.out.row x.t).lt gq e).2)
   have hpl:(preL (a.ed.take k) x.t).length ≤ 1000000:=Nat.le_trans (List.length_filter_le _ _) (by rw [List.length_take];omega)
   clear hx hab hxr hkw hbx HI hlo
   go_upto_region 5 with fail
   clear g0 g1 g2 r1 r2
   generalize wr.heap.size = bx at ke HLO HNB ⊢
   generalize wr.alloc (.cells #[.int .i64 x.f,.int .i64 x.e,.int .i64 x.t] 67) = w5 at ke HI5 ⊢
   refine wp_region_U (fun W=>W.cell? ⟨bx,0,none⟩ = some (.int .i64 x.f)∧W.cell? ⟨bx,1,none⟩ = some (.int .i64 x.e)∧W.cell? ⟨bx,2,none⟩ = some (.int .i64 x.t)) (fun W=>TabH Try.prog 3 (Value.int .i64) W (w.heap.size + 1) k g) 10 (by kernel_rfl) ?_
   change anyU _ _ _ _ _ _ _ 11 _ _ _
   have HI6:=Lib.hid (HI5.out.quiet (below_dr w5))
   have k6:=ke.below (below_dr w5) ke.lt
   clear ke HI5
   generalize w5.drew = wd at HI6 k6 ⊢
   have hA0:wd.cell? ⟨bx,0,none⟩ = some (.int .i64 x.f)∧wd.cell? ⟨bx,1,none⟩ = some (.int .i64 x.e)∧wd.cell? ⟨bx,2,none⟩ = some (.int .i64 x.t):=⟨k6.cell (j:=0) rfl,k6.cell (j:=1) rfl,k6.cell (j:=2) rfl⟩
   have hB0:=HI6.out.tab
   have HLK:=Lib.hid (fun (W:World) (h:TabH Try.prog 3 (Value.int .i64) W (w.heap.size + 1) k g)=>h.look (t:=85) intLaw Try.underlying85 (zeroEds W) x.t HKW.out)
   (refine uA 0 ?_ rfl hA0 hB0 (fun W hA=>?_) ?_;rotate_left;(· (go_simp;try with_reducible rfl));refine uA 1 ?_ rfl hA0 hB0 (fun W hA=>?_) ?_;rotate_left;(· (go_simp;try with_reducible rfl));(try simp only [Act.put,List.setIfInBounds_toArray,List.set_cons_zero,List.set_cons_succ]))
   (refine uA 2 ?_ rfl hA0 hB0 (fun W hA=>?_) ?_;rotate_left;(· (obtain ⟨a0,a1,a2⟩:=hA;go_simp;try with_reducible rfl));(try simp only [Act.put,List.setIfInBounds_toArray,List.set_cons_zero,List.set_cons_succ]))
   (refine uA 3 ?_ rfl hA0 hB0 (fun W hA=>?_) ?_;rotate_left;(· (go_simp;try with_reducible rfl));refine uA 4 ?_ rfl hA0 hB0 (fun W hA=>?_) ?_;rotate_left;(· (go_simp;try with_reducible rfl));(try simp only [Act.put,List.setIfInBounds_toArray,List.set_cons_zero,List.set_cons_succ]))
   (refine uA 5 ?_ rfl hA0 hB0 (fun W hA=>?_) ?_;rotate_left;(· (obtain ⟨a0,a1,a2⟩:=hA;go_simp;try with_reducible rfl));(try simp only [Act.put,List.setIfInBounds_toArray,List.set_cons_zero,List.set_cons_succ]))
   (refine uB 6 ?_ rfl hA0 hB0 (fun W hA hB=>?_) ?_;rotate_left;(· (have hlk:=HLK.out W hB;go_simp;try with_reducible rfl));(try simp only [Act.put,List.setIfInBounds_toArray,List.set_cons_zero,List.set_cons_succ]))
   (refine uA 7 ?_ rfl hA0 hB0 (fun W hA=>?_) ?_;rotate_left;(· (obtain ⟨a0,a1,a2⟩:=hA;go_simp;try with_reducible rfl));(try simp only [Act.put,List.setIfInBounds_toArray,List.set_cons_zero,List.set_cons_succ]))
   refine uOne (i:=8) rfl (by kernel_rfl) (fun K hK=>?_)
   go_simp
   have hbx7:=box_below wd (.cells #[.int .i64 x.f,.int .i64 x.e,.int .i64 x.t] 67)
   have HI7:=Lib.hid (HI6.out.quiet hbx7)
   have k7:=k6.below hbx7 k6.lt
   have kn:Blk (wd.alloc (.cells #[.int .i64 x.f,.int .i64 x.e,.int .i64 x.t] 67)) wd.heap.size 67 [.int .i64 x.f,.int .i64 x.e,.int .i64 x.t]:=Blk.new _ _ [_,_,_]
   clear hbx7 k6 HI6 hA0 hB0
   generalize wd.heap.size = qb at kn ⊢
   generalize wd.alloc (.cells #[.int .i64 x.f,.int .i64 x.e,.int .i64 x.t] 67) = w7 at HI7 k7 kn ⊢
   have hA0:w7.cell? ⟨bx,0,none⟩ = some (.int .i64 x.f)∧w7.cell? ⟨bx,1,none⟩ = some (.int .i64 x.e)∧w7.cell? ⟨bx,2,none⟩ = some (.int .i64 x.t):=⟨k7.cell (j:=0) rfl,k7.cell (j:=1) rfl,k7.cell (j:=2) rfl⟩
   have hB0:=HI7.out.tab
   (refine hK _ _ ⟨hA0,fun _=>hB0⟩ ?_;clear hK K;(try simp only [Act.put,List.setIfInBounds_toArray,List.set_cons_zero,List.set_cons_succ]))
   refine uOne (i:=9) rfl (by kernel_rfl) (fun K hK=>?_)
   obtain ⟨i0,hi0,hz0,hz1,hz2⟩:=info_parts edge_info
   refine step_append_lies w7 rfl (.tmp 20) (.tmp 22) 30 rfl w1.heap.size 67 i0 (.agg #[.int .i64 0,.int .i64 0,.int .i64 0]) 3 24 Try.underlying30 hi0 hz0 hz1 hz2 rfl (by decide) (hvl (g x.t)) _ _ rfl (HI7.out.row x.t) ⟨qb,0,none⟩ 1 1 [.int .i64 x.f,.int .i64 x.e,.int .i64 x.t] rfl rfl (fun j u hu=>by rw [add_lit0];exact kn.cell hu) (fun u hu=>by simp at hu;rcases hu with rfl | rfl | rfl <;> rfl) (by decide) (by unfold maxLen;omega) (by omega) HI7.out.siz _ rfl ?_
   intro gb c8 w8 ho8 hg8 hgb8 _
   have ht8:=HI7.out.tab.kept hg8 (HI7.out.tab.ne (HI7.out.row x.t))
   have k8:=k7.kept hg8 (fun e=>absurd (HNB.out bx e.symm) (Nat.lt_irrefl _))
   obtain ⟨w9,hput,ht9,hg9⟩:=ht8.put (t:=85) intLaw Try.underlying85 (by omega) x.t HKW.out (gb,(preL (a.ed.take k) x.t).length + 1,c8) (fun u=>if u = x.t then some (gb,(preL (a.ed.take k) x.t).length + 1,c8) else g u)
    (fun d hd=>if_pos (by injection hd)) (fun d hd=>if_neg (fun e=>hd (by rw [e])))
   have hput':(Instr.mapUpdate 85 (.map (some (w.heap.size + 1))) (.int .i64 x.t) (.slice (some ⟨gb,0,none⟩) ((preL (a.ed.take k) x.t).length + 1) c8)).run Try.prog w8 = .ok () w9:=hput
   have HI9:=Lib.hid (show InM w1.heap.size w1 w9 (w.heap.size + 1) (k + 1) (a.ed.take (k + 1)) (fun u=>if u = x.t then some (gb,(preL (a.ed.take k) x.t).length + 1,c8) else g u) from by
    rw [HTK.out]
    exact HI7.out.step ho8 hg8 (hgb8.imp id (fun e=>by omega)) ht9 hg9)
   have k9:=k8.kept hg9 (fun e=>HLO.out (by injection e with e;exact e.symm))
   clear hA0 hB0
   have hA0:w8.cell? ⟨bx,0,none⟩ = some (.int .i64 x.f)∧w8.cell? ⟨bx,1,none⟩ = some (.int .i64 x.e)∧w8.cell? ⟨bx,2,none⟩ = some (.int .i64 x.t):=⟨k8.cell (j:=0) rfl,k8.cell (j:=1) rfl,k8.cell (j:=2) rfl⟩
   have hA9:w9.cell? ⟨bx,0,none⟩ = some (.int .i64 x.f)∧w9.cell? ⟨bx,1,none⟩ = some (.int .i64 x.e)∧w9.cell? ⟨bx,2,none⟩ = some (.int .i64 x.t):=⟨k9.cell (j:=0) rfl,k9.cell (j:=1) rfl,k9.cell (j:=2) rfl⟩
   have hB0:=ht8
   clear ho8 hg8 hgb8 ht9 hg9 hput k7 kn HI7
   (refine hK _ _ ⟨hA0,fun _=>hB0⟩ ?_;clear hK K;(try simp only [Act.put,List.setIfInBounds_toArray,List.set_cons_zero,List.set_cons_succ]))
   refine uOne (i:=10) rfl (by kernel_rfl) (fun K hK=>?_)
   go_simp
   (refine hK _ _ ⟨hA9,fun h=>absurd (h.symm.trans (by kernel_rfl:_ = true)) Bool.false_ne_true⟩ ?_;clear hK K;(try simp only [Act.put,List.setIfInBounds_toArray,List.set_cons_zero,List.set_cons_succ]))
   refine anyU_done (by kernel_rfl) ?_ _
   clear hA0 hA9 hB0 ht8 hput' k8 k9
   go_wp2
   go_roundw
   case rel=>exact ⟨k + 1,_,_,rfl,by go_num,by omega,HI9⟩
   case measure=>simp [intOf];omega
  ·obtain rfl:k = ne:=by omega
   have b1:¬ (k:Int) < (k:Int):=by omega
   have HI2:=Lib.hid (show InM w.heap.size w wr (w.heap.size + 1) k a.ed g from by
    have h:=HI.out
    rw [List.take_of_length_le (by rw [HLE.out];exact Nat.le_refl _)] at h
    exact h.base HB1.out HB1.out.size)
   go_wp2
   go_ret
   exact ⟨_,_,_,rfl,HI2.out⟩
end Go.Proofs.Ytdnmpndnpfklcaa
/- Walks: maximality.flags, hard, Check, distances. -/
namespace Go.Proofs.Ytdnmpndnpfklcaa
open Go.RowKit Go Go.Maps
structure PB where
 x:AV
 u:IV
 f:IV
def PB.m (z:PB):Mx:=⟨z.x.a,z.u.l,z.f.l⟩
def pbc (z:PB):List Value:=[.slice z.x.A z.x.na z.x.ca,.int .i64 z.x.a.st,.slice z.x.M z.x.nm z.x.cm,.slice z.x.E z.x.ne z.x.ce,.slice z.u.A z.u.n z.u.c,.slice z.f.A z.f.n z.f.c]
structure PB.ok (w:World) (B:Nat) (z:PB):Prop where
 x:z.x.ok w B
 u:z.u.ok w B
 f:z.f.ok w B
theorem PB.ok.below {w w':World} {B:Nat} {z:PB} (h:z.ok w B) (hb:Below B w w'):z.ok w' B:=⟨AutR.below h.x hb,h.u.below hb,h.f.below hb⟩
theorem PB.ok.more {w:World} {B B':Nat} {z:PB} (h:z.ok w B) (hB:B ≤ B'):z.ok w B':=⟨AutR.more h.x hB,h.u.more hB,h.f.more hB⟩
theorem Blk.c6 {w:World} {b:Nat} {t:TypeId} {v0 v1 v2 v3 v4 v5:Value} {vs:List Value} (h:Blk w b t (v0 :: v1 :: v2 :: v3 :: v4 :: v5 :: vs)):C5 w b v0 v1 v2 v3 v4∧w.cell? ⟨b,5,none⟩ = some v5:=⟨Blk.c5 h,h.cell (j:=5) rfl⟩
set_option maxHeartbeats 800000 in
theorem max_flags (n:Nat) (S:Option Addr) (cs ns:Nat) (set:List Int) (w:World) (hn:n ≤ 4096) (hsl:set.length = ns) (hS:RdI w w.heap.size S set) (hset:∀ s ∈ set,0 ≤ s∧s < (n:Int)) (hs1:ns ≤ cs) (hs2:cs ≤ 9223372036854775807) :
  Calls Try.prog 39 #[.int .i64 (n:Int),.slice S ns cs] w fun e w'=>∃ b,e = .returned (.slice (some ⟨b,0,none⟩) n n)∧Blk w' b 4 (bvl (inF n set))∧w.heap.size ≤ b∧Below w.heap.size w w':=by
 have hm:∀ W:World,(Instr.makeSlice 87 (.int .i64 (n:Int)) (.int .i64 (n:Int))).run Try.prog W = .ok (.slice (some ⟨W.heap.size,0,none⟩) n n) (W.alloc (.cells (madeCells #[.bool false] n) 4)):=fun W=>run_make_row' 87 4 (.bool false) 1 Try.underlying87 bool_info rfl .i64 .i64 n (by omega) (by omega) W
 have HK0:=Lib.hid (show Blk (w.alloc (.cells (madeCells #[.bool false] n) 4)) w.heap.size 4 (bvl (inF n (set.take 0))) from by
  rw [made_bools]
  exact Blk.new _ _ _)
 have HB1:=Lib.hid (box_below w (.cells (madeCells #[.bool false] n) 4))
 have HSS:=Lib.hid hS
 have HSL:=Lib.hid hsl;clear hsl
 have HSET:=Lib.hid hset;clear hset
 clear hS
 go_enter Try.func39,Try.ntmps39
 go_wp2
 clear hm
 go_loopw [7,12] (fun s7 s12 wr=>∃ (k:Nat) (v:Value),s12 = .int .i64 k∧s7 = v∧k ≤ ns∧Hid (Blk wr w.heap.size 4 (bvl (inF n (set.take k))))∧Hid (Below w.heap.size w wr)) (fun _ s12 _=>ns - (intOf s12).toNat)
 case atStart=>exact ⟨0,_,rfl,rfl,Nat.zero_le _,HK0,HB1⟩
 case round =>
  clear HK0 HB1
  obtain ⟨k,v,rfl,rfl,hk,HK,HB⟩:=hrel
  by_cases hlt:k < ns
  ·obtain ⟨sd,s,rfl,hsb,hss,hsc⟩:=(HSS.out.below HB.out).at_ (k:=k) (by have:=HSL.out;omega)
   have b1:(k:Int) < (ns:Int):=by omega
   obtain ⟨s0,s1⟩:=HSET.out s (List.mem_of_getElem? hss)
   obtain ⟨q,hq⟩:∃ q,fl (inF n (set.take k)) s = q:=⟨_,rfl⟩
   have g1:wr.cell? ⟨w.heap.size,s.toNat,none⟩ = some (.bool q):=HK.out.cell (by rw [bvl_get,fl_get hq s0 (by rw [inF_len];exact s1)];rfl)
   have g2:wr.frozen? ⟨w.heap.size,s.toNat,none⟩ = false:=HK.out.free _
   have g3:w.heap.size < wr.heap.size:=HK.out.lt
   have hk2:=HK.out.set (j:=s.toNat) (by rw [bvl_length,inF_len];omega) (.bool true)
   rw [bvl_set] at hk2
   have HK2:=Lib.hid (show Blk (wr.setCell ⟨w.heap.size,s.toNat,none⟩ (.bool true)) w.heap.size 4 (bvl (inF n (set.take (k + 1)))) from by rw [inF_snoc n hss];exact hk2)
   have HB2:=Lib.hid (HB.out.setCell (p:=⟨w.heap.size,s.toNat,none⟩) (Nat.le_refl _) (.bool true))
   clear hss hk2 hq
   go_wp2
   go_roundw
   case rel=>exact ⟨k + 1,_,by go_num,rfl,by omega,HK2,HB2⟩
   case measure=>simp [intOf];omega
  ·obtain rfl:k = ns:=by omega
   have b1:¬ (k:Int) < (k:Int):=by omega
   have hta:set.take k = set:=List.take_of_length_le (by rw [HSL.out];exact Nat.le_refl _)
   rw [hta] at HK
   clear hta
   go_wp2
   go_ret
   exact ⟨w.heap.size,rfl,HK.out,Nat.le_refl _,HB.out⟩
theorem max_hard (z:PB) (w:World) (h:z.ok w w.heap.size) (hm:z.m.ok) :
  Calls Try.prog 38 #[.agg (pbc z).toArray] w fun e w'=>∃ b,e = .returned (.slice (some ⟨b,0,none⟩) 32 32)∧Blk w' b 4 (bvl (inF 32 z.u.l))∧w.heap.size ≤ b∧Below w.heap.size w w':=by
 have hb1:=box_below w (.cells (pbc z).toArray 34)
 have kx:=Blk.new w 34 (pbc z)
 obtain ⟨w1,hw1⟩:∃ w1,w1 = w.alloc (.cells (pbc z).toArray 34):=⟨_,rfl⟩
 rw [← hw1] at hb1 kx
 unfold pbc at kx hw1
 obtain ⟨⟨a0,a1,a2,a3,a4⟩,a5⟩:=Blk.c6 kx
 have hu:=(h.u.below hb1).more hb1.size
 have HC:=Lib.hid (max_flags 32 z.u.A z.u.c z.u.n z.u.l w1 (by omega) hu.la hu.ra (fun s hs=>hm.urng s hs) hu.ac hu.cA)
 have HB:=Lib.hid hb1
 have HW:=Lib.hid hw1
 clear hu h hm kx hb1 hw1
 unfold pbc
 go_enter Try.func38,Try.ntmps38
 go_upto_region 1 with fail
 rw [← HW.out]
 go_wp2_with (first | (go_at_call 39;refine HC.out.mono ?_;rintro e w2 ⟨b,rfl,hk,hlb,hb2⟩) | fail)
 have HK:=Lib.hid hk
 have HB2:=Lib.hid hb2
 go_ret
 exact ⟨b,rfl,HK.out,Nat.le_trans HB.out.size hlb,HB.out.trans (HB2.out.mono HB.out.size)⟩
end Go.Proofs.Ytdnmpndnpfklcaa
