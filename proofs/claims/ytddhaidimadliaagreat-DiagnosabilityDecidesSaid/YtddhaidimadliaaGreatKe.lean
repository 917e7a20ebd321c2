/- Walks: slices.DeleteFunc at ints, with a function that captures one value (as in chapter 45); projection.Alike; steps where there is no state; diagnosability.Model.run. -/
import Derived.Test.YtddhaidimadliaaGreatJy
import Derived.Test.YtddhaidimadliaaGreatNd
import Derived.Lib.SliceRun
import Derived.Deep.Cut
import Derived.BigQuiet
namespace Go.Proofs.YtddhaidimadliaaGreat
open Go.RowKit Go
theorem idxJ_spec {p:Int → Bool}:∀ (l:List Int),(idxJ p l = -1∧l.filter (fun x=>!p x) = l) ∨ ∃ (k:Nat) (x:Int),idxJ p l = (k:Int)∧l[k]? = some x∧p x = true∧(l.take k).filter (fun x=>!p x) = l.take k
 | []=>.inl ⟨rfl,rfl⟩
 | y :: r=>by
  cases hy:p y with
  | true=>exact .inr ⟨0,y,by unfold idxJ;rw [hy];rfl,rfl,hy,rfl⟩
  | false =>
   rcases idxJ_spec (p:=p) r with ⟨h1,h2⟩ | ⟨k,x,h1,h2,h3,h4⟩
   ·refine .inl ⟨by unfold idxJ;rw [hy,h1];rfl,?_⟩
    rw [List.filter_cons_of_pos (by simp [hy]),h2]
   ·refine .inr ⟨k + 1,x,?_,by simpa using h2,h3,?_⟩
    ·unfold idxJ
     rw [hy,h1,if_neg (by simp),if_neg (by omega)]
     omega
    ·rw [List.take_succ_cons,List.filter_cons_of_pos (by simp [hy]),h4]
theorem setCells_grow (b:Nat):∀ (l:List Value) (k:Nat) (w:World),w.grownBy (w.setCells b k l) (some b)
 | [],_,w=>grown_refl w _
 | v :: l,k,w=>(grown_setCell w b k v).trans (setCells_grow b l (k + 1) _)
theorem setCells_mid {b:Nat} {t:TypeId}:∀ (l:List Value) (o:Nat) {vs:List Value} {w:World},Blk w b t vs → o + l.length ≤ vs.length → ∃ vs',Blk (w.setCells b o l) b t vs'∧vs'.length = vs.length∧vs'.take o = vs.take o
 | [],_,vs,_,h,_=>⟨vs,h,rfl,rfl⟩
 | v :: l,o,vs,w,h,hl=>by
  simp only [List.length_cons] at hl
  obtain ⟨vs',h1,h2,h3⟩:=setCells_mid l (o + 1) (h.set (j:=o) (by omega) v) (by rw [List.length_set];omega)
  refine ⟨vs',h1,by rw [h2,List.length_set],?_⟩
  have:=congrArg (List.take o) h3
  rw [List.take_take,List.take_take,Nat.min_eq_left (by omega),List.take_set,List.set_eq_of_length_le (by rw [List.length_take];omega)] at this
  exact this
structure DelM (w0 W:World) (g cap n:Nat) (l:List Int) (p:Int → Bool) (i j:Nat):Prop where
 gr:w0.grownBy W (some g)
 row:∃ cs:List Value,Blk W g 3 cs∧cs.length = cap∧cs.take i = iv ((l.take j).filter fun x=>!p x)∧∀ k,j ≤ k → k < n → cs[k]? = (iv l)[k]?
 len:i = ((l.take j).filter fun x=>!p x).length
theorem take_snocD {l:List Int} {j:Nat} {x:Int} (h:l[j]? = some x):l.take (j + 1) = l.take j ++ [x]:=by
 rw [List.take_add_one,h];rfl
theorem DelM.skip {w0 W:World} {g cap n:Nat} {l:List Int} {p:Int → Bool} {i j:Nat} {x:Int} (h:DelM w0 W g cap n l p i j) (hx:l[j]? = some x) (hp:p x = true):DelM w0 W g cap n l p i (j + 1):=by
 have e:(l.take (j + 1)).filter (fun x=>!p x) = (l.take j).filter fun x=>!p x:=by
  rw [take_snocD hx,List.filter_append,List.filter_cons_of_neg (by simp [hp])];simp
 obtain ⟨cs,h1,h2,h3,h4⟩:=h.row
 exact ⟨h.gr,⟨cs,h1,h2,by rw [e];exact h3,fun k hk hn=>h4 k (by omega) hn⟩,by rw [e];exact h.len⟩
theorem DelM.keep {w0 W:World} {g cap n:Nat} {l:List Int} {p:Int → Bool} {i j:Nat} {x:Int} (h:DelM w0 W g cap n l p i j) (hx:l[j]? = some x) (hp:p x = false) (hij:i ≤ j) (hc:j < cap):DelM w0 (W.setCell ⟨g,i,none⟩ (.int .i64 x)) g cap n l p (i + 1) (j + 1):=by
 have e:(l.take (j + 1)).filter (fun x=>!p x) = (l.take j).filter (fun x=>!p x) ++ [x]:=by
  rw [take_snocD hx,List.filter_append,List.filter_cons_of_pos (by simp [hp])];rfl
 obtain ⟨cs,h1,h2,h3,h4⟩:=h.row
 have hi:i < cs.length:=by omega
 refine ⟨⟨h.gr.os,h.gr.tape,h.gr.output,by simpa [World.setCell] using h.gr.size,fun k hk hne=>?_⟩,⟨cs.set i (.int .i64 x),h1.set hi _,by rw [List.length_set];exact h2,?_,fun k hk hn=>?_⟩,by rw [e,List.length_append,← h.len];rfl⟩
 ·have hs:=h.gr.size
  rw [← h.gr.block k hk hne]
  exact (grown_setCell W g i (.int .i64 x)).block k (by omega) hne
 ·rw [e,iv_append,← h3,List.take_add_one,List.take_set,List.getElem?_set_self hi]
  rw [List.set_eq_of_length_le (by rw [List.length_take];omega)]
  rfl
 ·rw [List.getElem?_set_ne (by omega)]
  exact h4 k (by omega) hn
theorem DelM.cell {w0 W:World} {g cap n:Nat} {l:List Int} {p:Int → Bool} {i j:Nat} {x:Int} (h:DelM w0 W g cap n l p i j) (hx:l[j]? = some x) (hn:j < n):W.cell? ⟨g,j,none⟩ = some (.int .i64 x):=by
 obtain ⟨cs,h1,_,_,h4⟩:=h.row
 refine h1.cell ?_
 rw [h4 j (Nat.le_refl _) hn,iv_get,hx]
 rfl
def RetDel (g cap:Nat) (r:List Int) (w:World) (e:Ending) (w':World):Prop:=∃ m,m = r.length∧e = .returned (.slice (some ⟨g,0,none⟩) m cap)∧w.grownBy w' (some g)∧∃ cs',Blk w' g 3 cs'∧cs'.length = cap∧cs'.take m = iv r
set_option maxRecDepth 100000 in
set_option maxHeartbeats 800000 in
theorem slices_DeleteFunc (g cap n:Nat) (cs:List Value) (l:List Int) (gf:Nat) (cv:Value) (p:Int → Bool) (w:World) (hk:Blk w g 3 cs) (hcs:cs.length = cap) (hc:cs.take n = iv l) (hl:l.length = n) (hn:n ≤ cap) (hcap:cap ≤ 9223372036854775807)
  (eg:∀ args w,(callFunc gf args).run Tryz.prog w = .ok (.enter gf args) w)
  (hp:∀ (x:Int) W,w.grownBy W (some g) → Calls Tryz.prog gf #[.int .i64 x,cv] W fun e W'=>e = .returned (.bool (p x))∧W = W') :
  Calls Tryz.prog 65 #[.slice (some ⟨g,0,none⟩) n cap,.func (.func gf) #[] #[cv]] w (RetDel g cap (l.filter fun x=>!p x) w):=by
 have hrd:RdI w w.heap.size (some ⟨g,0,none⟩) l:=fun k u hu=>⟨_,rfl,hk.lt,by
  rw [Addr.add_lit,Nat.zero_add]
  refine hk.cell ?_
  rw [← hc,List.getElem?_take] at hu
  split at hu
  ·exact hu
  ·cases hu⟩
 have HI:=Lib.hid (ints_IndexFunc (some ⟨g,0,none⟩) cap n l gf cv p w hl hrd (by omega) eg (fun x=>hp x w (grown_refl w _)))
 have hat:∀ k,k < n → cs[k]? = (iv l)[k]?:=fun k hk'=>by rw [← hc,List.getElem?_take,if_pos hk']
 have HP:=Lib.hid hp;clear hp
 have HL:=Lib.hid hl;clear hl
 rcases idxJ_spec (p:=p) l with ⟨e1,e2⟩ | ⟨k0,x0,e1,hx0,hp0,e2⟩
 ·rw [e1] at HI
  have HK:=Lib.hid hk
  have HC:=Lib.hid hc
  have HE:=Lib.hid e2
  clear hk hc hrd hat e1 e2
  go_enter Tryz.func65,Tryz.ntmps65
  go_wp2_with fail
  refine HI.out.mono ?_
  rintro e w' ⟨rfl,rfl⟩
  go_wp2
  go_ret
  exact ⟨n,by rw [HE.out,HL.out],rfl,grown_refl w _,cs,HK.out,hcs,by rw [HE.out];exact HC.out⟩
 ·have hk0:k0 < n:=by have:=(List.getElem?_eq_some_iff.1 hx0).1;have:=HL.out;omega
  have b0:((k0:Int) == -1) = false:=beq_eq_false_iff_ne.2 (by omega)
  have hD0:DelM w w g cap n l p k0 k0:=⟨grown_refl w _,⟨cs,hk,hcs,by
   rw [e2]
   have:cs.take k0 = (cs.take n).take k0:=by rw [List.take_take,Nat.min_eq_left (by omega)]
   rw [this,hc];simp [iv,List.map_take],fun k _ hk'=>hat k hk'⟩,by rw [e2,List.length_take];have:=HL.out;omega⟩
  have HD:=Lib.hid (hD0.skip hx0 hp0)
  rw [e1] at HI
  clear hk hc hrd hat e1 e2 hD0 hx0 hp0
  go_enter Tryz.func65,Tryz.ntmps65
  go_wp2_with fail
  refine HI.out.mono ?_
  rintro e w' ⟨rfl,rfl⟩
  go_wp2
  go_loopw [5,6,7] (fun s5 s6 s7 wr=>∃ (i j:Nat) (v7:Value),s5 = .int .i64 i∧s6 = .int .i64 j∧s7 = v7∧i < j∧j ≤ n∧Hid (DelM w wr g cap n l p i j)) (fun _ s6 _ _=>n - (intOf s6).toNat)
  case atStart=>exact ⟨k0,k0 + 1,_,rfl,by go_num,rfl,by omega,by omega,HD⟩
  case round =>
   clear HD b0
   obtain ⟨i,j,v7,rfl,rfl,rfl,hij,hjn,HM⟩:=hrel
   by_cases hlt:j < n
   ·obtain ⟨x,hx⟩:∃ x,l[j]? = some x:=⟨_,List.getElem?_eq_getElem (by have:=HL.out;omega)⟩
    have cj:=HM.out.cell hx hlt
    obtain ⟨csx,hkx,hcx,_,_⟩:=HM.out.row
    have hix:i < csx.length:=by omega
    obtain ⟨u,hu⟩:∃ u,csx[i]? = some u:=⟨_,List.getElem?_eq_getElem hix⟩
    have ci:wr.cell? ⟨g,i,none⟩ = some u:=hkx.cell hu
    have fi:wr.frozen? ⟨g,i,none⟩ = false:=hkx.free _
    have li:g < wr.heap.size:=hkx.lt
    have b1:(j:Int) < (n:Int):=by omega
    have HCL:=Lib.hid (HP.out x wr HM.out.gr)
    have hin:i < n:=by omega
    have HX:=Lib.hid hx
    clear hx hkx hcx hu hix
    cases hq:p x with
    | true =>
     rw [hq] at HCL
     have HM2:=Lib.hid (HM.out.skip HX.out hq)
     go_wp2_with (go_at_fn gf;refine HCL.out.mono ?_;rintro e w' ⟨rfl,rfl⟩)
     go_roundw
     case rel=>exact ⟨i,j + 1,_,rfl,by go_num,rfl,by omega,by omega,HM2⟩
     case measure=>simp [intOf];omega
    | false =>
     rw [hq] at HCL
     have HM2:=Lib.hid (HM.out.keep HX.out hq (by omega) (by omega))
     go_wp2_with (go_at_fn gf;refine HCL.out.mono ?_;rintro e w' ⟨rfl,rfl⟩)
     go_roundw
     case rel=>exact ⟨i + 1,j + 1,_,by go_num,by go_num,rfl,by omega,by omega,HM2⟩
     case measure=>simp [intOf];omega
   ·obtain rfl:j = n:=by omega
    have b1:¬ (j:Int) < (j:Int):=by omega
    have hne:¬ cap = i:=by omega
    have t1:(i:Int) ≤ (cap:Int):=by omega
    have t2:(i:Int) ≤ (j:Int):=by omega
    obtain ⟨csx,hkx,hcx,htk,_⟩:=HM.out.row
    have hta:l.take j = l:=List.take_of_length_le (by rw [HL.out];exact Nat.le_refl _)
    have hlen:=HM.out.len
    rw [hta] at htk hlen
    have hcl:∀ ty,(Builtin.clear_ #[31] ty #[.slice (some ⟨g,i,none⟩) (j - i) (cap - i)]).run Tryz.prog wr = .ok (.tuple #[]) (wr.setCells g i (List.replicate (j - i) (.int .i64 0))):=fun ty =>
     Lib.run_clear_slice wr _ _ ty _ Tryz.underlying31 (fun _=>rfl) rfl rfl g i _ _ (by omega) (fun t ht=>by
      rw [hkx.cell (List.getElem?_eq_getElem (show i + t < csx.length by omega))];rfl) (fun t ht=>hkx.free _)
    obtain ⟨cs2,hk2,hl2,hm2⟩:=setCells_mid (List.replicate (j - i) (.int .i64 0)) i hkx (by rw [List.length_replicate];omega)
    have HF:=Lib.hid (show i = (l.filter fun x=>!p x).length∧w.grownBy (wr.setCells g i (List.replicate (j - i) (.int .i64 0))) (some g)∧∃ cs',Blk (wr.setCells g i (List.replicate (j - i) (.int .i64 0))) g 3 cs'∧cs'.length = cap∧cs'.take i = iv (l.filter fun x=>!p x) from
     ⟨hlen,HM.out.gr.trans (setCells_grow g _ i wr),cs2,hk2,by omega,by rw [hm2];exact htk⟩)
    clear hlen htk hk2 hl2 hm2 hkx hcx
    go_wp2
    go_ret
    obtain ⟨f1,f2⟩:=HF.out
    exact ⟨i,f1,rfl,f2⟩
theorem deleteFunc_own (n:Nat) (v:Value) (l:List Int) (gf:Nat) (cv:Value) (p:Int → Bool) (base:Nat) (w:World) (h:w.ownsRow base 3 1 v n (iv l)) (hl:l.length = n)
  (eg:∀ args w,(callFunc gf args).run Tryz.prog w = .ok (.enter gf args) w)
  (hp:∀ (x:Int) W,w.grownBy W v.ownBlock → Calls Tryz.prog gf #[.int .i64 x,cv] W fun e W'=>e = .returned (.bool (p x))∧W = W') :
  Calls Tryz.prog 65 #[v,.func (.func gf) #[] #[cv]] w fun e w'=>∃ (A:Option Addr) (m c:Nat),e = .returned (.slice A m c)∧(l.filter fun x=>!p x).length = m∧RdI w' w'.heap.size A (l.filter fun x=>!p x)∧m ≤ c∧c ≤ 9223372036854775807∧w.grownBy w' v.ownBlock:=by
 rcases h.2 with ⟨rfl,rfl⟩ | ⟨g,cap,cur,rfl,hb,hg,h1,h2,h3,h4⟩
 ·obtain rfl:l = []:=List.eq_nil_of_length_eq_zero hl
  have HI:=Lib.hid (ints_IndexFunc none 0 0 [] gf cv p w rfl RdV.nil (by omega) eg (fun x=>hp x w (grown_refl w _)))
  go_enter Tryz.func65,Tryz.ntmps65
  go_wp2_with fail
  refine HI.out.mono ?_
  rintro e w' ⟨rfl,rfl⟩
  go_wp2
  go_ret
  exact ⟨none,0,0,rfl,rfl,RdV.nil,Nat.le_refl _,by omega,grown_refl w _⟩
 ·have hk:Blk w g 3 cur.toList:=by show w.heap[g]? = _;rw [hg]
  refine (slices_DeleteFunc g cap n cur.toList l gf cv p w hk (by rw [Array.length_toList,h3,Nat.mul_one]) (by rw [Nat.mul_one] at h4;exact h4) hl h1 (by unfold maxLen at h2;omega) eg hp).mono ?_
  rintro e w' ⟨m,hm,rfl,hgr,cs',hk',hcs',htk⟩
  have hm2:m ≤ n:=by rw [hm,← hl];exact List.length_filter_le _ _
  refine ⟨some ⟨g,0,none⟩,m,cap,rfl,hm.symm,fun k u hu=>⟨_,rfl,hk'.lt,?_⟩,by omega,by unfold maxLen at h2;omega,hgr⟩
  rw [add_lit]
  refine hk'.cell ?_
  rw [← htk,List.getElem?_take] at hu
  split at hu
  ·exact hu
  ·cases hu
end Go.Proofs.YtddhaidimadliaaGreat
/- Walks: projection.Alike; Model.step where there is no state; diagnosability.Model.run. -/
namespace Go.Proofs.YtddhaidimadliaaGreat
open Go.RowKit Go
def prjL (ls l:List Int):List Int:=l.filter fun x=>hasB ls x
theorem alike1_ok (b:Nat) (S:Option Addr) (ns cs:Nat) (ls:List Int) (x:Int) (w:World) (hc:w.cell? ⟨b,0,none⟩ = some (.slice S ns cs)) (hl:ls.length = ns) (hr:RdI w w.heap.size S ls) (hn:ns ≤ cs) (hcs:cs ≤ 9223372036854775807) :
  Calls Tryz.prog 64 #[.int .i64 x,.pointer (some ⟨b,0,none⟩)] w fun e w'=>e = .returned (.bool (!hasB ls x))∧w = w':=by
 obtain ⟨q,hq⟩:∃ q,hasB ls x = q:=⟨_,rfl⟩
 have HC:=Lib.hid (slices_Contains S cs ns ls x q w hl hq hr hn hcs)
 rw [hq]
 clear hq hr
 go_enter Tryz.func64,Tryz.ntmps64
 go_wp2_with fail
 refine HC.out.mono ?_
 rintro e w' ⟨rfl,rfl⟩
 go_wp2
 go_ret
 exact ⟨rfl,rfl⟩
set_option maxRecDepth 100000 in
set_option maxHeartbeats 1600000 in
theorem projection_Alike (S B C:Option Addr) (ns cs nb cb nc cc:Nat) (ls b c:List Int) (q:Bool) (w:World) (hq:eqB (prjL ls b) (prjL ls c) = q)
  (hls:ls.length = ns) (hs:ns ≤ cs) (hcs:cs ≤ 9223372036854775807) (rs:RdI w w.heap.size S ls)
  (hlb:b.length = nb) (hb:nb ≤ 17592186044416) (rb:RdI w w.heap.size B b)
  (hlc:c.length = nc) (hc:nc ≤ 17592186044416) (rc:RdI w w.heap.size C c) :
  Calls Tryz.prog 39 #[.slice S ns cs,.slice B nb cb,.slice C nc cc] w fun e w'=>e = .returned (.bool q)∧Below w.heap.size w w':=by
 have hb1:=box_below w (.cells #[.slice S ns cs] 31)
 obtain ⟨w1,hw1⟩:∃ w1,w1 = w.alloc (.cells #[.slice S ns cs] 31):=⟨_,rfl⟩
 have kx:Blk w1 w.heap.size 31 [.slice S ns cs]:=by rw [hw1];exact Blk.new _ _ [_]
 rw [← hw1] at hb1
 have lx:=kx.lt
 have HRS:=Lib.hid (fun (W:World) (h:Below w1.heap.size w1 W)=>(rs.below (hb1.trans (h.mono hb1.size))).more (hb1.trans (h.mono hb1.size)).size)
 have HRC:=Lib.hid (fun (W:World) (h:Below w1.heap.size w1 W)=>(rc.below (hb1.trans (h.mono hb1.size))).more (hb1.trans (h.mono hb1.size)).size)
 have HF:=Lib.hid (fun (W:World) (h:Below w1.heap.size w1 W) (x:Int)=>alike1_ok w.heap.size S ns cs ls x W ((kx.below h kx.lt).cell (j:=0) rfl) hls (HRS.out W h) hs hcs)
 have HCB:=Lib.hid (slices_Clone_n B cb nb b w1 hlb ((rb.below hb1).more hb1.size) hb)
 have HCC:=Lib.hid (fun (W:World) (h:Below w1.heap.size w1 W)=>slices_Clone_n C cc nc c W hlc (HRC.out W h) hc)
 have hfl:∀ l:List Int,(l.filter fun x=>!(!hasB ls x)) = prjL ls l:=fun l=>by unfold prjL;simp
 have HQ:=Lib.hid hq;clear hq
 have HW1:=Lib.hid hw1;clear hw1
 have HB1:=Lib.hid hb1;clear hb1
 have HFL:=Lib.hid hfl;clear hfl
 clear kx rs rb rc
 go_enter Tryz.func39,Tryz.ntmps39
 go_wp2_with fail
 rw [← HW1.out]
 refine HCB.out.mono ?_
 rintro e w2 ⟨v2,rfl,ho2,hb2⟩
 have HD:=Lib.hid (deleteFunc_own b.length v2 b 64 (.pointer (some ⟨w.heap.size,0,none⟩)) (fun x=>!hasB ls x) w1.heap.size w2 ho2 rfl (fun _ _=>rfl) (fun x W hW=>HF.out W (hb2.grown hW hb2.size (fun k hk=>(ho2.lt k hk).1)) x))
 clear HCB
 go_wp2_with fail
 refine HD.out.mono ?_
 rintro e w3 ⟨A,m,cA,rfl,hm,hrA,hmc,hcA,hg3⟩
 have hb3:=hb2.grown hg3 hb2.size (fun k hk=>(ho2.lt k hk).1)
 clear HD ho2 hg3 hb2
 have HCC3:=Lib.hid (HCC.out w3 hb3)
 have HRA:=Lib.hid hrA;clear hrA
 have HB3:=Lib.hid hb3;clear hb3
 go_wp2_with fail
 refine HCC3.out.mono ?_
 rintro e w4 ⟨v4,rfl,ho4,hb4⟩
 have HD:=Lib.hid (deleteFunc_own c.length v4 c 64 (.pointer (some ⟨w.heap.size,0,none⟩)) (fun x=>!hasB ls x) w3.heap.size w4 ho4 rfl (fun _ _=>rfl) (fun x W hW=>HF.out W (HB3.out.trans ((hb4.grown hW hb4.size (fun k hk=>(ho4.lt k hk).1)).mono HB3.out.size)) x))
 clear HCC3
 go_wp2_with fail
 refine HD.out.mono ?_
 rintro e w5 ⟨A2,m2,cA2,rfl,hm2,hrA2,hmc2,hcA2,hg5⟩
 have hb5:=hb4.grown hg5 hb4.size (fun k hk=>(ho4.lt k hk).1)
 clear HD ho4 hg5 hb4
 rw [HFL.out] at hm hm2 hrA2
 have HRA1:=HRA.out
 rw [HFL.out] at HRA1
 have HE:=Lib.hid (slices_Equal_n A A2 cA cA2 m m2 (prjL ls b) (prjL ls c) q w5 hm hm2 HQ.out ((HRA1.below hb5).more hb5.size) hmc hcA hrA2)
 have HB5:=Lib.hid (HB1.out.trans ((HB3.out.trans (hb5.mono HB3.out.size)).mono HB1.out.size))
 clear hrA2 HRA1 hb5 hm hm2
 go_wp2_with fail
 refine HE.out.mono ?_
 rintro e w6 ⟨rfl,n6,rfl⟩
 go_wp2
 go_ret
 exact ⟨rfl,below_drewN HB5.out _⟩
theorem automaton_checkState_bad (A M E:Option Addr) (na ca nm cm ne ce:Nat) (a:Aut) (s:Int) (w:World) (h:AutR w w.heap.size A na ca M nm cm E ne ce a) (hw:WF a) (h3:0 ≤ s) (h4:a.st ≤ s) :
  Calls Tryz.prog 86 #[.agg #[.slice A na ca,.int .i64 a.st,.slice M nm cm,.slice E ne ce],.int .i64 s] w fun e w'=>e = .returned (.int .i64 2)∧Below w.heap.size w w':=by
 obtain ⟨st,hst⟩:∃ s,a.st = s:=⟨_,rfl⟩
 rw [hst] at h4 ⊢
 have hb1:=box_below w (.cells #[.slice A na ca,.int .i64 st,.slice M nm cm,.slice E ne ce] 34)
 obtain ⟨w1,hw1⟩:∃ w1,w1 = w.alloc (.cells #[.slice A na ca,.int .i64 st,.slice M nm cm,.slice E ne ce] 34):=⟨_,rfl⟩
 have k3:Blk w1 w.heap.size 34 [.slice A na ca,.int .i64 st,.slice M nm cm,.slice E ne ce]:=by rw [hw1];exact Blk.new _ _ [_,_,_,_]
 rw [← hw1] at hb1
 have HC:=Lib.hid (automaton_Check A na ca M nm cm E ne ce a w1 ((h.below hb1).more hb1.size))
 rw [hw.chk,hst] at HC
 have HW1:=Lib.hid hw1;clear hw1
 have HB1:=Lib.hid hb1;clear hb1
 have K3:=Lib.hid k3;clear k3
 clear h hw hst
 go_enter Tryz.func86,Tryz.ntmps86
 go_wp2_with fail
 rw [← HW1.out]
 refine HC.out.mono ?_
 rintro e w2 ⟨rfl,hb2⟩
 have HB2:=Lib.hid (HB1.out.trans (hb2.mono HB1.out.size))
 have c1:=(K3.out.below hb2 K3.out.lt).cell (j:=1) rfl
 have b1:¬ s < 0:=by omega
 have b2:st ≤ s:=by omega
 clear hb2 HC
 go_wp2
 go_ret
 exact ⟨rfl,HB2.out⟩
theorem nxt_out {a:Aut} (hw:WF a) {s v:Int} (h:a.st ≤ s):¬ 0 ≤ nxt a s v:=fun h9=>by
 have:=(hw.nxt_rng (s:=s) (v:=v) (by omega)).2.2.2.2
 omega
set_option maxRecDepth 100000 in
set_option maxHeartbeats 1600000 in
theorem automaton_Step_bad (x:AV) (s v:Int) (w:World) (hx:x.ok w w.heap.size) (hw:WF x.a) (h0:0 ≤ s) (h1:x.a.st ≤ s) :
  Calls Tryz.prog 78 #[.agg #[.slice x.A x.na x.ca,.int .i64 x.a.st,.slice x.M x.nm x.cm,.slice x.E x.ne x.ce],.int .i64 s,.int .i64 v] w fun e w'=>(∃ r,e = .returned (.tuple #[.int .i64 (stpV x.a s v),.bool (decide (0 ≤ nxt x.a s v)),.int .i64 r]))∧Below w.heap.size w w':=by
 have e1:stpV x.a s v = 0:=by unfold stpV;rw [if_neg (nxt_out hw h1)]
 have e2:decide (0 ≤ nxt x.a s v) = false:=decide_eq_false (nxt_out hw h1)
 rw [e1,e2]
 obtain ⟨A,na,ca,M,nm,cm,E,ne,ce,a⟩:=x
 dsimp only at hw h1 ⊢
 have hb1:=box_below w (.cells #[.slice A na ca,.int .i64 a.st,.slice M nm cm,.slice E ne ce] 34)
 obtain ⟨w1,hw9⟩:∃ w1,w1 = w.alloc (.cells #[.slice A na ca,.int .i64 a.st,.slice M nm cm,.slice E ne ce] 34):=⟨_,rfl⟩
 have kx:Blk w1 w.heap.size 34 [.slice A na ca,.int .i64 a.st,.slice M nm cm,.slice E ne ce]:=by rw [hw9];exact Blk.new _ _ [_,_,_,_]
 rw [← hw9] at hb1
 have HG0:=Lib.hid (fun (W:World) (hb:Below w1.heap.size w1 W)=>Blk.c4 (kx.below hb kx.lt))
 have HXK:=Lib.hid (fun (W:World) (hb:Below w1.heap.size w1 W)=>(show AutR W W.heap.size A na ca M nm cm E ne ce a from AutR.more (AutR.below hx (hb1.trans (hb.mono hb1.size))) (hb1.trans (hb.mono hb1.size)).size))
 have HC1:=Lib.hid (automaton_checkState_bad A M E na ca nm cm ne ce a s w1 (HXK.out w1 (Below.refl _ _)) hw h0 h1)
 obtain ⟨sv,hsv⟩:∃ z,a.st = z:=⟨_,rfl⟩
 rw [hsv] at hw9 HG0 HC1 ⊢
 obtain ⟨a0,a1,a2,a3⟩:=HG0.out w1 (Below.refl _ _)
 have HW9:=Lib.hid hw9;clear hw9
 have HB1:=Lib.hid hb1;clear hb1
 have lx:=kx.lt
 clear kx hx hsv hw h1 e1 e2
 go_enter Tryz.func78,Tryz.ntmps78
 go_wp2_with fail
 rw [← HW9.out]
 refine HC1.out.mono ?_
 rintro e w2 ⟨rfl,hb2⟩
 have HB2:=Lib.hid (HB1.out.trans (hb2.mono HB1.out.size))
 clear a0 a1 a2 a3 HC1 hb2
 go_wp2
 refine bodyPost_ret (v:=.tuple #[.int .i64 0,.bool false,.int .i64 2]) (by simp [results,Tryz.results78,go_sem]) rfl ?_
 exact ⟨⟨2,rfl⟩,HB2.out⟩
set_option maxRecDepth 100000 in
set_option maxHeartbeats 1600000 in
theorem dm_step_bad (z:DV) (s v:Int) (w:World) (h:z.ok w w.heap.size) (hw:WF z.x.a) (h0:0 ≤ s) (h1:z.x.a.st ≤ s) :
  Calls Tryz.prog 63 #[.agg (dvc z).toArray,.int .i64 s,.int .i64 v] w fun e w'=>e = .returned (.tuple #[.int .i64 (stpV z.x.a s v),.bool (decide (0 ≤ nxt z.x.a s v))])∧Below w.heap.size w w':=by
 obtain ⟨⟨A,na,ca,M,nm,cm,E,ne,ce,a⟩,V,nv,cv,l⟩:=z
 have hb1:=box_below w (.cells #[.slice A na ca,.int .i64 a.st,.slice M nm cm,.slice E ne ce,.slice V nv cv] 37)
 obtain ⟨w1,hw1⟩:∃ w1,w1 = w.alloc (.cells #[.slice A na ca,.int .i64 a.st,.slice M nm cm,.slice E ne ce,.slice V nv cv] 37):=⟨_,rfl⟩
 have kx:Blk w1 w.heap.size 37 [.slice A na ca,.int .i64 a.st,.slice M nm cm,.slice E ne ce,.slice V nv cv]:=by rw [hw1];exact Blk.new _ _ [_,_,_,_,_]
 rw [← hw1] at hb1
 have HK:=Lib.hid (fun (W:World) (hb:Below w1.heap.size w1 W)=>kx.below hb kx.lt)
 have HOK:=Lib.hid (fun (W:World) (hb:Below w1.heap.size w1 W)=>(h.below (hb1.trans (hb.mono hb1.size))).more (hb1.trans (hb.mono hb1.size)).size)
 have lx:=kx.lt
 clear kx h
 have HC:=Lib.hid (automaton_Step_bad ⟨A,na,ca,M,nm,cm,E,ne,ce,a⟩ s v w1 (HOK.out w1 (Below.refl _ _)).x hw h0 h1)
 dsimp only at HC
 unfold dvc
 dsimp only
 obtain ⟨sv,hsv⟩:∃ s,a.st = s:=⟨_,rfl⟩
 rw [hsv] at hw1 HK HC ⊢
 obtain ⟨to9,ht9⟩:∃ z,stpV a s v = z:=⟨_,rfl⟩
 obtain ⟨ps9,hp9⟩:∃ z,decide (0 ≤ nxt a s v) = z:=⟨_,rfl⟩
 rw [ht9,hp9] at HC ⊢
 have k0:=HK.out w1 (Below.refl _ _)
 have a0:=k0.cell (j:=0) rfl
 have a1:=k0.cell (j:=1) rfl
 have a2:=k0.cell (j:=2) rfl
 have a3:=k0.cell (j:=3) rfl
 clear k0
 have HW1:=Lib.hid hw1;clear hw1
 have HB1:=Lib.hid hb1;clear hb1
 clear hsv hw h1 ht9 hp9
 go_enter Tryz.func63,Tryz.ntmps63
 go_wp2_with fail
 rw [← HW1.out]
 refine HC.out.mono ?_
 rintro e w2 ⟨⟨r9,rfl⟩,hb2⟩
 have HB2:=Lib.hid (HB1.out.trans (hb2.mono HB1.out.size))
 clear a0 a1 a2 a3 HC hb2
 go_wp2
 refine bodyPost_ret (v:=.tuple #[.int .i64 to9,.bool ps9]) (by simp [results,Tryz.results63,go_sem]) rfl ?_
 exact ⟨rfl,HB2.out⟩
theorem dm_step_any (z:DV) (s v:Int) (w:World) (h:z.ok w w.heap.size) (hw:WF z.x.a) (h0:0 ≤ s) :
  Calls Tryz.prog 63 #[.agg (dvc z).toArray,.int .i64 s,.int .i64 v] w fun e w'=>e = .returned (.tuple #[.int .i64 (stpV z.x.a s v),.bool (decide (0 ≤ nxt z.x.a s v))])∧Below w.heap.size w w':=by
 by_cases h1:s < z.x.a.st
 ·exact dm_step z s v w h hw h0 h1
 ·exact dm_step_bad z s v w h hw h0 (by omega)
def RetRn (o:Option (Int × Bool)) (w:World) (e:Ending) (w':World):Prop:=∃ (t:Int) (g p:Bool),e = .returned (.tuple #[.int .i64 t,.bool g,.bool p])∧o = (if p = true then some (t,g) else none)∧Below w.heap.size w w'
theorem runC_one {m:Dm} {c s x:Int} {ws:List Int} {f:Bool} {k:Nat} (hx:ws[k]? = some x):runC m c s (ws.drop k) f = if hasB m.a.al x = true∧0 ≤ nxt m.a s x then runC m c (nxt m.a s x) (ws.drop (k + 1)) (f || m.ft x == c) else none:=by
 obtain ⟨hk,he⟩:=List.getElem?_eq_some_iff.1 hx
 rw [List.drop_eq_getElem_cons hk,he]
 rfl
set_option maxRecDepth 100000 in
set_option maxHeartbeats 1600000 in
theorem dm_run (z:DV) (s0 c:Int) (W:Option Addr) (nw cw:Nat) (ws:List Int) (w:World) (h:z.ok w w.heap.size) (hw:WF z.x.a) (hev:∀ x ∈ z.x.a.al,0 ≤ x∧x < (z.nv:Int)) (hna:z.x.na ≤ 4096) (h0:0 ≤ s0)
  (hl:ws.length = nw) (hcw:nw ≤ cw) (hcw2:cw ≤ 9223372036854775807) (hr:RdI w w.heap.size W ws) :
  Calls Tryz.prog 38 #[.agg (dvc z).toArray,.int .i64 s0,.slice W nw cw,.int .i64 c] w (RetRn (runC z.m c s0 ws false) w):=by
 obtain ⟨⟨A,na,ca,M,nm,cm,E,ne,ce,a⟩,V,nv,cv,l⟩:=z
 dsimp only at hw hev hna ⊢
 have HLL:=Lib.hid h.ll
 have HLA:=Lib.hid h.x.la
 have HEV:=Lib.hid hev
 obtain ⟨w1,hw1⟩:∃ w1,w1 = w.alloc (.cells #[.slice A na ca,.int .i64 a.st,.slice M nm cm,.slice E ne ce,.slice V nv cv] 37):=⟨_,rfl⟩
 have hb1:=box_below w (.cells #[.slice A na ca,.int .i64 a.st,.slice M nm cm,.slice E ne ce,.slice V nv cv] 37)
 have kx:Blk w1 w.heap.size 37 [.slice A na ca,.int .i64 a.st,.slice M nm cm,.slice E ne ce,.slice V nv cv]:=by rw [hw1];exact Blk.new _ _ [_,_,_,_,_]
 rw [← hw1] at hb1
 have HK:=Lib.hid (fun (W:World) (hb:Below w1.heap.size w1 W)=>kx.below hb kx.lt)
 have HOK:=Lib.hid (fun (W:World) (hb:Below w1.heap.size w1 W)=>(h.below (hb1.trans (hb.mono hb1.size))).more (hb1.trans (hb.mono hb1.size)).size)
 have HRW:=Lib.hid (fun (X:World) (hb:Below w1.heap.size w1 X)=>hr.below (hb1.trans (hb.mono hb1.size)))
 have HS:=Lib.hid (fun (W:World) (hb:Below w1.heap.size w1 W) (s v:Int) (g0:0 ≤ s)=>dm_step_any ⟨⟨A,na,ca,M,nm,cm,E,ne,ce,a⟩,V,nv,cv,l⟩ s v W (HOK.out W hb) hw g0)
 have HBL:=Lib.hid (fun (W:World) (hb:Below w1.heap.size w1 W)=>hb1.trans (hb.mono hb1.size))
 unfold dvc at HS ⊢
 dsimp only at HS ⊢
 obtain ⟨mm,hmm⟩:∃ m,DV.m ⟨⟨A,na,ca,M,nm,cm,E,ne,ce,a⟩,V,nv,cv,l⟩ = m:=⟨_,rfl⟩
 rw [hmm]
 have hma:mm.a = a:=by rw [← hmm];rfl
 have HFT:=Lib.hid (fun (j:Nat) (e:Ev) (hj:l[j]? = some e)=>(show mm.ft (j:Int) = e.fault by rw [← hmm];simp [Dm.ft,DV.m,gI,hj]))
 have HCN:=Lib.hid (fun (X:World) (hb:Below w1.heap.size w1 X) (x:Int) (q:Bool) (hq:hasB a.al x = q)=>alphabet_Contains_n A ca na a.al x q X h.x.la hq (HOK.out X hb).x.ra (by omega) hw.inc)
 obtain ⟨sv,hsv⟩:∃ s,a.st = s:=⟨_,rfl⟩
 rw [hsv] at hw1 HK HS ⊢
 obtain ⟨o,ho⟩:∃ o,runC mm c s0 ws false = o:=⟨_,rfl⟩
 rw [ho]
 have HO0:=Lib.hid (show o = runC mm c s0 (ws.drop 0) false from ho.symm)
 have HW1:=Lib.hid hw1;clear hw1
 have HL:=Lib.hid hl;clear hl
 have HMA:=Lib.hid hma;clear hma
 have HSV:=Lib.hid hsv;clear hsv
 clear h kx hb1 hw hev hr hmm ho
 go_enter Tryz.func38,Tryz.ntmps38
 go_upto_region 1 with fail
 rw [← HW1.out]
 go_wp2_with fail
 go_loopw [1,8,9,10,12,15] (fun s1 s8 s9 s10 s12 s15 wr=>∃ (k:Nat) (s:Int) (f:Bool) (v8 v10 v12:Value),s1 = .int .i64 s∧s8 = v8∧s9 = .bool f∧s10 = v10∧s12 = v12∧s15 = .int .i64 k∧k ≤ nw∧0 ≤ s∧Hid (o = runC mm c s (ws.drop k) f)∧Hid (Below w1.heap.size w1 wr)) (fun _ _ _ _ _ s15 _=>nw - (intOf s15).toNat)
 case atStart=>exact ⟨0,s0,false,_,_,_,rfl,rfl,rfl,rfl,rfl,rfl,Nat.zero_le _,h0,HO0,Lib.hid (Below.refl _ _)⟩
 case round =>
  clear HO0
  obtain ⟨k,s,f,v8,v10,v12,rfl,rfl,rfl,rfl,rfl,rfl,hk,hs0,HO,HB⟩:=hrel
  have a0:=(HK.out wr HB.out).cell (j:=0) rfl
  have a1:=(HK.out wr HB.out).cell (j:=1) rfl
  by_cases hlt:k < nw
  ·obtain ⟨x,hx⟩:∃ x,ws[k]? = some x:=⟨_,List.getElem?_eq_getElem (by have:=HL.out;omega)⟩
   obtain ⟨ad,rfl,hab,hcx⟩:=HRW.out wr HB.out k (.int .i64 x) (by simp [iv,hx])
   have b1:(k:Int) < (nw:Int):=by omega
   have ho:=HO.out
   rw [runC_one hx,HMA.out] at ho
   obtain ⟨q,hq⟩:∃ q,hasB a.al x = q:=⟨_,rfl⟩
   have HC:=Lib.hid (HCN.out wr HB.out x q hq)
   clear hx HO hab
   go_wp2_with fail
   refine HC.out.mono ?_
   rintro e w' ⟨rfl,rfl⟩
   clear HC hcx
   cases q with
   | false =>
    rw [if_neg (by rw [hq];simp)] at ho
    have HO2:=Lib.hid ho;clear ho
    clear hq a0 a1
    go_wp2
    refine bodyPost_ret (v:=.tuple #[.int .i64 0,.bool false,.bool false]) (by simp [results,Tryz.results38,go_sem]) rfl ?_
    exact ⟨0,false,false,rfl,HO2.out,HBL.out _ HB.out⟩
   | true =>
    have hxr:=HEV.out x (hasB_mem.1 hq)
    obtain ⟨j,rfl⟩:∃ j:Nat,x = (j:Int):=⟨x.toNat,by omega⟩
    have HSC:=Lib.hid (HS.out wr HB.out s (j:Int) hs0)
    obtain ⟨t9,hto⟩:∃ z,stpV a s (j:Int) = z:=⟨_,rfl⟩
    obtain ⟨ps,hps⟩:∃ z,decide (0 ≤ nxt a s (j:Int)) = z:=⟨_,rfl⟩
    rw [hto,hps] at HSC
    have a2:=(HK.out wr HB.out).cell (j:=2) rfl
    have a3:=(HK.out wr HB.out).cell (j:=3) rfl
    have a4:=(HK.out wr HB.out).cell (j:=4) rfl
    have HTO:=Lib.hid hto;clear hto
    have HPS:=Lib.hid hps;clear hps
    have HO2:=Lib.hid ho;clear ho
    have HQ:=Lib.hid hq;clear hq
    go_wp2_with fail
    refine HSC.out.mono ?_
    rintro e w2 ⟨rfl,hb2⟩
    have HB2:=Lib.hid (HB.out.trans (hb2.mono HB.out.size))
    clear HSC a0 a1 a2 a3 a4 hb2
    cases ps with
    | false =>
     have HO3:=Lib.hid (show o = none by rw [HO2.out,if_neg (by have:=of_decide_eq_false HPS.out;exact fun h9=>this h9.2)])
     go_wp2
     refine bodyPost_ret (v:=.tuple #[.int .i64 0,.bool false,.bool false]) (by simp [results,Tryz.results38,go_sem]) rfl ?_
     exact ⟨0,false,false,rfl,HO3.out,HBL.out _ HB2.out⟩
    | true =>
     have hp:=of_decide_eq_true HPS.out
     have e1:t9 = nxt a s (j:Int):=by rw [← HTO.out];unfold stpV;rw [if_pos hp]
     have ht0:0 ≤ t9:=by rw [e1];exact hp
     have HO3:=Lib.hid (show o = runC mm c t9 (ws.drop (k + 1)) (f || mm.ft (j:Int) == c) by rw [HO2.out,if_pos ⟨HQ.out,hp⟩,e1])
     have a4:=(HK.out w2 HB2.out).cell (j:=4) rfl
     obtain ⟨ev,e,rfl,hvb,hje,hes,q0,q1,q2,q3,q4⟩:=(HOK.out w2 HB2.out).rl.at_ (k:=j) (by have h9:=HLL.out;dsimp only at h9 ⊢;omega)
     have p4':=ev_cells (j:=3) q4
     have b2:(j:Int) < (nv:Int):=by omega
     have HF:=Lib.hid (HFT.out j e hje)
     clear hp e1 q0 q1 q2 q3 hje hes hvb
     cases f with
     | true =>
      go_wp2
      go_roundw
      case rel=>exact ⟨k + 1,t9,true,_,_,_,rfl,rfl,rfl,rfl,rfl,by go_num,by omega,ht0,Lib.hid (by rw [HO3.out];rfl),HB2⟩
      case measure=>simp [intOf];omega
     | false =>
      obtain ⟨fq,hfq⟩:∃ b,(e.fault == c) = b:=⟨_,rfl⟩
      go_wp2
      go_roundw
      case rel=>exact ⟨k + 1,t9,fq,_,_,_,rfl,rfl,rfl,rfl,rfl,by go_num,by omega,ht0,Lib.hid (by rw [HO3.out,HF.out,hfq,Bool.false_or]),HB2⟩
      case measure=>simp [intOf];omega
  ·obtain rfl:k = nw:=by omega
   have b1:¬ (k:Int) < (k:Int):=by omega
   have ho:=HO.out
   rw [List.drop_of_length_le (by have:=HL.out;omega)] at ho
   unfold runC at ho
   rw [HMA.out,HSV.out] at ho
   have HO3:=Lib.hid ho
   clear HO ho
   go_wp2
   go_quiet (fail)
   go_wp2
   refine bodyPost_ret (v:=.tuple #[.int .i64 s,.bool f,.bool (decide (0 < sv))]) (by simp [results,Tryz.results38,go_sem]) rfl ?_
   exact ⟨s,f,decide (0 < sv),rfl,by rw [HO3.out];by_cases h9:0 < sv <;> simp [h9],HBL.out _ (below_drewN HB.out _)⟩
end Go.Proofs.YtddhaidimadliaaGreat
/- Walk: diagnosability.Verify. -/
namespace Go.Proofs.YtddhaidimadliaaGreat
open Go.RowKit Go
def C5 (W:World) (b:Nat) (v0 v1 v2 v3 v4:Value):Prop:=W.cell? ⟨b,0,none⟩ = some v0∧W.cell? ⟨b,1,none⟩ = some v1∧W.cell? ⟨b,2,none⟩ = some v2∧W.cell? ⟨b,3,none⟩ = some v3∧W.cell? ⟨b,4,none⟩ = some v4
theorem Blk.c5 {w:World} {b:Nat} {t:TypeId} {v0 v1 v2 v3 v4:Value} {vs:List Value} (h:Blk w b t (v0 :: v1 :: v2 :: v3 :: v4 :: vs)):C5 w b v0 v1 v2 v3 v4:=⟨h.cell (j:=0) rfl,h.cell (j:=1) rfl,h.cell (j:=2) rfl,h.cell (j:=3) rfl,h.cell (j:=4) rfl⟩
structure IV where
 A:Option Addr
 n:Nat
 c:Nat
 l:List Int
abbrev IV.v (x:IV):Value:=.slice x.A x.n x.c
structure IV.ok (w:World) (B:Nat) (x:IV):Prop where
 la:x.l.length = x.n
 ac:x.n ≤ x.c
 cA:x.c ≤ 9223372036854775807
 ra:RdI w B x.A x.l
theorem IV.ok.below {w w':World} {B:Nat} {x:IV} (h:x.ok w B) (hb:Below B w w'):x.ok w' B:=⟨h.la,h.ac,h.cA,h.ra.below hb⟩
theorem IV.ok.more {w:World} {B B':Nat} {x:IV} (h:x.ok w B) (hB:B ≤ B'):x.ok w B':=⟨h.la,h.ac,h.cA,h.ra.more hB⟩
theorem runC_nn {m:Dm} {c:Int}:∀ {ws:List Int} {s:Int} {f:Bool} {t:Int} {g:Bool},0 ≤ s → runC m c s ws f = some (t,g) → 0 ≤ t
 | [],s,f,t,g,h0,h=>by
  unfold runC at h
  split at h
  ·injection h with h;injection h with h1 h2;omega
  ·cases h
 | x :: r,s,f,t,g,h0,h=>by
  unfold runC at h
  split at h
  ·rename_i h1
   exact runC_nn h1.2 h
  ·cases h
theorem runC_al {m:Dm} {c:Int}:∀ {ws:List Int} {s:Int} {f:Bool} {t:Int} {g:Bool},runC m c s ws f = some (t,g) → ∀ x ∈ ws,x ∈ m.a.al
 | [],s,f,t,g,h,x,hx=>by cases hx
 | y :: r,s,f,t,g,h,x,hx=>by
  unfold runC at h
  split at h
  ·rename_i h1
   rcases List.mem_cons.1 hx with rfl | hx
   ·exact hasB_mem.1 h1.1
   ·exact runC_al h x hx
  ·cases h
theorem prjL_obs {z:DV} (hll:z.l.length = z.nv) {ws:List Int} (h:∀ x ∈ ws,0 ≤ x∧x < (z.nv:Int)):prjL (chsL (selP 3) z.l z.nv) ws = obsW z.m ws:=by
 unfold prjL obsW
 refine List.filter_congr fun x hx=>?_
 obtain ⟨h0,h1⟩:=h x hx
 have hk:x.toNat < z.l.length:=by omega
 have e:z.m.ob x = (z.l[x.toNat]'hk).o:=by simp [Dm.ob,DV.m,fl,hk]
 rw [e]
 have hm:x ∈ chsL (selP 3) z.l z.nv ↔ (z.l[x.toNat]'hk).o = true:=by
  unfold chsL
  rw [List.mem_filter,rngI_mem]
  simp [hk,selP,h0,h1]
 cases hq:(z.l[x.toNat]'hk).o with
 | true=>exact hasB_mem.2 (hm.2 hq)
 | false =>
  cases hh:hasB (chsL (selP 3) z.l z.nv) x with
  | true=>rw [hm.1 (hasB_mem.1 hh)] at hq;cases hq
  | false=>rfl
def verB (m:Dm) (c:Int) (F FC N NC:List Int):Bool :=
 match runC m c 0 F false,runC m c 0 N false with
 | some (a,f),some (b,g)=>match runC m c a FC false,runC m c b NC false with
  | some (x,_),some (y,h)=>a == x && b == y && decide (0 < FC.length) && f && !g && !h && eqB (obsW m F) (obsW m N) && eqB (obsW m FC) (obsW m NC)
  | _,_=>false
 | _,_=>false
def verE (z:DV) (c:Int) (F FC N NC:List Int):Int:=if clsE z c ≠ 0 then clsE z c else if verB z.m c F FC N NC = true then 0 else 24
set_option maxRecDepth 100000 in
set_option maxHeartbeats 3200000 in
theorem dm_Verify (z:DV) (c:Int) (F FC N NC:IV) (r:Int) (w:World) (h:z.ok w w.heap.size) (hF:F.ok w w.heap.size) (hFC:FC.ok w w.heap.size) (hN:N.ok w w.heap.size) (hNC:NC.ok w w.heap.size)
  (hs:F.n ≤ 1000000∧FC.n ≤ 1000000∧N.n ≤ 1000000∧NC.n ≤ 1000000) (hr:verE z c F.l FC.l N.l NC.l = r) :
  Calls Tryz.prog 13 #[.agg (dvc z).toArray,.int .i64 c,.agg #[F.v,FC.v,N.v,NC.v]] w fun e w'=>e = .returned (.int .i64 r)∧Below w.heap.size w w':=by
 obtain ⟨s1,s2,s3,s4⟩:=hs
 obtain ⟨re,hre⟩:∃ r,clsE z c = r:=⟨_,rfl⟩
 unfold verE at hr
 rw [hre] at hr
 have HWF:=Lib.hid (fun (h0:re = 0)=>dmE_wf (clsE_dm (hre.trans h0)))
 have HEA:=Lib.hid (fun (h0:re = 0)=>dmE_al (clsE_dm (hre.trans h0)))
 have HCE:=Lib.hid (fun (h0:re = 0)=>dmE_ev (clsE_dm (hre.trans h0)))
 have HLL:=Lib.hid h.ll
 have HLA:=Lib.hid h.x.la
 have HC0:=Lib.hid (fun (W:World) (hz:z.ok W W.heap.size)=>dm_classed z c re W hz hre)
 have HRN:=Lib.hid (fun (h0:re = 0) (W:World) (hz:z.ok W W.heap.size) (x:IV) (hx:x.ok W W.heap.size) (s:Int) (hs:0 ≤ s)=>dm_run z s c x.A x.n x.c x.l W hz (HWF.out h0) (HEA.out h0) (by have h9:=(HWF.out h0).al_le;have:=HLA.out;omega) hs hx.la hx.ac hx.cA hx.ra)
 obtain ⟨m,hm⟩:∃ m,z.m = m:=⟨_,rfl⟩
 have HMA:=Lib.hid (show m.a = z.x.a by rw [← hm];rfl)
 have HPO:=Lib.hid (fun (h0:re = 0) (s:Int) (ws:List Int) (f:Bool) (t:Int) (g:Bool) (ho:runC m c s ws f = some (t,g))=>(show prjL (chsL (selP 3) z.l z.nv) ws = obsW m ws by
  rw [← hm]
  refine prjL_obs HLL.out fun x hx=>HEA.out h0 x ?_
  have:=runC_al ho x hx
  rw [HMA.out] at this
  exact this))
 rw [hm] at HRN hr
 clear hre
 obtain ⟨⟨A,na,ca,M,nm,cm,E,ne,ce,a⟩,V,nv,cv,l⟩:=z
 dsimp only at HWF HEA HCE HLL HLA HPO
 obtain ⟨w1,hw1⟩:∃ w1,w1 = w.alloc (.cells #[.slice A na ca,.int .i64 a.st,.slice M nm cm,.slice E ne ce,.slice V nv cv] 37):=⟨_,rfl⟩
 have hb1:=box_below w (.cells #[.slice A na ca,.int .i64 a.st,.slice M nm cm,.slice E ne ce,.slice V nv cv] 37)
 have kx:Blk w1 w.heap.size 37 [.slice A na ca,.int .i64 a.st,.slice M nm cm,.slice E ne ce,.slice V nv cv]:=by rw [hw1];exact Blk.new _ _ [_,_,_,_,_]
 rw [← hw1] at hb1
 obtain ⟨w2,hw2⟩:∃ w2,w2 = w1.alloc (.cells #[F.v,FC.v,N.v,NC.v] 45):=⟨_,rfl⟩
 have hb2:=box_below w1 (.cells #[F.v,FC.v,N.v,NC.v] 45)
 have ky:Blk w2 w1.heap.size 45 [F.v,FC.v,N.v,NC.v]:=by rw [hw2];exact Blk.new _ _ [_,_,_,_]
 rw [← hw2] at hb2
 have hs1:w1.heap.size = w.heap.size + 1:=by rw [hw1];simp
 rw [hs1] at ky
 have hb02:Below w.heap.size w w2:=hb1.trans (hb2.mono hb1.size)
 have HK:=Lib.hid (fun (W:World) (hb:Below w2.heap.size w2 W)=>(kx.below hb2 kx.lt).below hb (kx.below hb2 kx.lt).lt)
 have HY:=Lib.hid (fun (W:World) (hb:Below w2.heap.size w2 W)=>Blk.c4 (ky.below hb ky.lt))
 have HOK:=Lib.hid (fun (W:World) (hb:Below w2.heap.size w2 W)=>(h.below (hb02.trans (hb.mono hb02.size))).more (hb02.trans (hb.mono hb02.size)).size)
 have HF:=Lib.hid (fun (W:World) (hb:Below w2.heap.size w2 W)=>(hF.below (hb02.trans (hb.mono hb02.size))).more (hb02.trans (hb.mono hb02.size)).size)
 have HFC:=Lib.hid (fun (W:World) (hb:Below w2.heap.size w2 W)=>(hFC.below (hb02.trans (hb.mono hb02.size))).more (hb02.trans (hb.mono hb02.size)).size)
 have HN:=Lib.hid (fun (W:World) (hb:Below w2.heap.size w2 W)=>(hN.below (hb02.trans (hb.mono hb02.size))).more (hb02.trans (hb.mono hb02.size)).size)
 have HNC:=Lib.hid (fun (W:World) (hb:Below w2.heap.size w2 W)=>(hNC.below (hb02.trans (hb.mono hb02.size))).more (hb02.trans (hb.mono hb02.size)).size)
 have HBL:=Lib.hid (fun (W:World) (hb:Below w2.heap.size w2 W)=>hb02.trans (hb.mono hb02.size))
 clear h hF hFC hN hNC kx ky hb02 hb1 hb2 hm
 obtain ⟨FA,fn,fc,fl9⟩:=F
 obtain ⟨CA,cn,cc,cl9⟩:=FC
 obtain ⟨NA,nn,nc,nl9⟩:=N
 obtain ⟨DA,dn,dc,dl9⟩:=NC
 unfold dvc at HC0 HRN ⊢
 dsimp only [IV.v] at HC0 HRN HF HFC HN HNC hw2 HY hr s1 s2 s3 s4 ⊢
 obtain ⟨sv,hsv⟩:∃ s,a.st = s:=⟨_,rfl⟩
 rw [hsv] at hw1 HK HC0 HRN ⊢
 have HW1:=Lib.hid hw1;clear hw1
 have HW2:=Lib.hid hw2;clear hw2
 have HS1:=Lib.hid hs1;clear hs1
 have HR:=Lib.hid hr;clear hr
 clear hsv
 go_enter Tryz.func13,Tryz.ntmps13
 go_upto_region 1 with fail
 rw [← HW1.out,← HW2.out]
 obtain ⟨a0,a1,a2,a3,a4⟩:=Blk.c5 (HK.out w2 (Below.refl _ _))
 have HC:=Lib.hid (HC0.out w2 (HOK.out w2 (Below.refl _ _)))
 clear HC0
 go_wp2_with fail
 refine HC.out.mono ?_
 rintro e w3 ⟨rfl,hb3⟩
 have HB3:=Lib.hid hb3
 clear a0 a1 a2 a3 a4 HC hb3
 by_cases h1:re = 0
 case neg =>
  have e1:(re != 0) = true:=by simpa using h1
  have HR2:=Lib.hid (show re = r by have h9:=HR.out;rw [if_pos h1] at h9;exact h9)
  clear h1
  go_wp2
  go_ret
  exact ⟨ret_int HR2.out,HBL.out _ HB3.out⟩
 have hr1:r = if verB m c fl9 cl9 nl9 dl9 = true then 0 else 24:=by have h9:=HR.out;rw [if_neg (by simpa using h1)] at h9;exact h9.symm
 have hse:Inc (chsL (selP 3) l nv)∧∀ v ∈ chsL (selP 3) l nv,0 ≤ v∧v < (nv:Int):=chsL_rng
 have HSL:=Lib.hid (alphabet_Select V cv nv l 3 w3 HLL.out (HOK.out w3 HB3.out).rl (.inl rfl) (HCE.out h1) (by have:=chkE_len (HCE.out h1);have:=HLL.out;omega))
 have HRN0:=Lib.hid (HRN.out h1)
 have HPO0:=Lib.hid (HPO.out h1)
 have HSE:=Lib.hid hse;clear hse
 have HR1:=Lib.hid hr1;clear hr1
 obtain ⟨se,hse⟩:∃ s,chsL (selP 3) l nv = s:=⟨_,rfl⟩
 rw [hse] at HSL HPO0 HSE
 have hw9:=HWF.out h1
 clear HRN HPO HWF HEA HCE HR hse
 subst h1
 obtain ⟨a0,a1,a2,a3,a4⟩:=Blk.c5 (HK.out w3 HB3.out)
 go_wp2_with fail
 refine HSL.out.mono ?_
 rintro e w4 ⟨v4,rfl,ho4,hb4⟩
 obtain ⟨SA,sc,rfl,p1,p2,rd⟩:=own_slI ho4
 have HB4:=Lib.hid (HB3.out.trans (hb4.mono HB3.out.size))
 have HRD:=Lib.hid rd
 have HBA4:=Lib.hid (Below.refl w4.heap.size w4)
 clear a0 a1 a2 a3 a4 HSL ho4 rd hb4
 obtain ⟨a0,a1,a2,a3,a4⟩:=Blk.c5 (HK.out w4 HB4.out)
 obtain ⟨d0,d1,d2,d3⟩:=HY.out w4 HB4.out
 have HC:=Lib.hid (HRN0.out w4 (HOK.out w4 HB4.out) ⟨FA,fn,fc,fl9⟩ (HF.out w4 HB4.out) 0 (Int.le_refl 0))
 dsimp only at HC
 obtain ⟨o1,ho1⟩:∃ o,runC m c 0 fl9 false = o:=⟨_,rfl⟩
 rw [ho1] at HC
 have HO1:=Lib.hid ho1;clear ho1
 go_wp2_with fail
 refine HC.out.mono ?_
 rintro e w5 ⟨t1,g1,q1,rfl,hq1,hb⟩
 have HB5:=Lib.hid (HB4.out.trans (hb.mono HB4.out.size))
 have HBA5:=Lib.hid (HBA4.out.trans (hb.mono HBA4.out.size))
 have HQ1:=Lib.hid (HO1.out.trans hq1)
 clear a0 a1 a2 a3 a4 d0 d1 d2 d3 HC hb hq1 HO1
 obtain ⟨a0,a1,a2,a3,a4⟩:=Blk.c5 (HK.out w5 HB5.out)
 obtain ⟨d0,d1,d2,d3⟩:=HY.out w5 HB5.out
 have HC:=Lib.hid (HRN0.out w5 (HOK.out w5 HB5.out) ⟨NA,nn,nc,nl9⟩ (HN.out w5 HB5.out) 0 (Int.le_refl 0))
 dsimp only at HC
 obtain ⟨o2,ho2⟩:∃ o,runC m c 0 nl9 false = o:=⟨_,rfl⟩
 rw [ho2] at HC
 have HO2:=Lib.hid ho2;clear ho2
 go_wp2_with fail
 refine HC.out.mono ?_
 rintro e w6 ⟨t2,g2,q2,rfl,hq2,hb⟩
 have HB6:=Lib.hid (HB5.out.trans (hb.mono HB5.out.size))
 have HBA6:=Lib.hid (HBA5.out.trans (hb.mono HBA5.out.size))
 have HQ2:=Lib.hid (HO2.out.trans hq2)
 clear a0 a1 a2 a3 a4 d0 d1 d2 d3 HC hb hq2 HO2
 cases q1
 case false =>
  have HR2:=Lib.hid (show r = 24 by rw [HR1.out];unfold verB;rw [HQ1.out];simp)
  go_wp2
  go_ret
  exact ⟨ret_int HR2.out.symm,HBL.out _ HB6.out⟩
 cases q2
 case false =>
  have HR2:=Lib.hid (show r = 24 by rw [HR1.out];unfold verB;rw [HQ1.out,HQ2.out];simp)
  go_wp2
  go_ret
  exact ⟨ret_int HR2.out.symm,HBL.out _ HB6.out⟩
 have ho1:runC m c 0 fl9 false = some (t1,g1):=HQ1.out
 have ho2:runC m c 0 nl9 false = some (t2,g2):=HQ2.out
 have n1:=runC_nn (Int.le_refl 0) ho1
 have n2:=runC_nn (Int.le_refl 0) ho2
 have HP1:=Lib.hid (HPO0.out _ _ _ _ _ ho1)
 have HP2:=Lib.hid (HPO0.out _ _ _ _ _ ho2)
 have HR3:=Lib.hid (show r = if (match runC m c t1 cl9 false,runC m c t2 dl9 false with
  | some (x,_),some (y,h)=>t1 == x && t2 == y && decide (0 < cl9.length) && g1 && !g2 && !h && eqB (obsW m fl9) (obsW m nl9) && eqB (obsW m cl9) (obsW m dl9)
  | _,_=>false) = true then 0 else 24 by rw [HR1.out];unfold verB;rw [ho1,ho2])
 clear HR1 HQ1 HQ2 ho1 ho2
 obtain ⟨a0,a1,a2,a3,a4⟩:=Blk.c5 (HK.out w6 HB6.out)
 obtain ⟨d0,d1,d2,d3⟩:=HY.out w6 HB6.out
 have HC:=Lib.hid (HRN0.out w6 (HOK.out w6 HB6.out) ⟨CA,cn,cc,cl9⟩ (HFC.out w6 HB6.out) t1 n1)
 dsimp only at HC
 obtain ⟨o3,ho3⟩:∃ o,runC m c t1 cl9 false = o:=⟨_,rfl⟩
 rw [ho3] at HC
 have HO3:=Lib.hid ho3;clear ho3
 go_wp2_with fail
 refine HC.out.mono ?_
 rintro e w7 ⟨t3,g3,q3,rfl,hq3,hb⟩
 have HB7:=Lib.hid (HB6.out.trans (hb.mono HB6.out.size))
 have HBA7:=Lib.hid (HBA6.out.trans (hb.mono HBA6.out.size))
 have HQ3:=Lib.hid (HO3.out.trans hq3)
 clear a0 a1 a2 a3 a4 d0 d1 d2 d3 HC hb hq3 HO3
 obtain ⟨a0,a1,a2,a3,a4⟩:=Blk.c5 (HK.out w7 HB7.out)
 obtain ⟨d0,d1,d2,d3⟩:=HY.out w7 HB7.out
 have HC:=Lib.hid (HRN0.out w7 (HOK.out w7 HB7.out) ⟨DA,dn,dc,dl9⟩ (HNC.out w7 HB7.out) t2 n2)
 dsimp only at HC
 obtain ⟨o4,ho4⟩:∃ o,runC m c t2 dl9 false = o:=⟨_,rfl⟩
 rw [ho4] at HC
 have HO4:=Lib.hid ho4;clear ho4
 go_wp2_with fail
 refine HC.out.mono ?_
 rintro e w8 ⟨t4,g4,q4,rfl,hq4,hb⟩
 have HB8:=Lib.hid (HB7.out.trans (hb.mono HB7.out.size))
 have HBA8:=Lib.hid (HBA7.out.trans (hb.mono HBA7.out.size))
 have HQ4:=Lib.hid (HO4.out.trans hq4)
 clear a0 a1 a2 a3 a4 d0 d1 d2 d3 HC hb hq4 HO4
 cases q3
 case false =>
  have HR2:=Lib.hid (show r = 24 by rw [HR3.out,HQ3.out];simp)
  go_wp2
  go_ret
  exact ⟨ret_int HR2.out.symm,HBL.out _ HB8.out⟩
 cases q4
 case false =>
  have HR2:=Lib.hid (show r = 24 by rw [HR3.out,HQ3.out,HQ4.out];simp)
  go_wp2
  go_ret
  exact ⟨ret_int HR2.out.symm,HBL.out _ HB8.out⟩
 have ho3:runC m c t1 cl9 false = some (t3,g3):=HQ3.out
 have ho4:runC m c t2 dl9 false = some (t4,g4):=HQ4.out
 have HP3:=Lib.hid (HPO0.out _ _ _ _ _ ho3)
 have HP4:=Lib.hid (HPO0.out _ _ _ _ _ ho4)
 obtain ⟨q5,hq5⟩:∃ b,eqB (prjL se fl9) (prjL se nl9) = b:=⟨_,rfl⟩
 obtain ⟨q6,hq6⟩:∃ b,eqB (prjL se cl9) (prjL se dl9) = b:=⟨_,rfl⟩
 obtain ⟨u1,hu1⟩:∃ b,(t1 == t3) = b:=⟨_,rfl⟩
 obtain ⟨u2,hu2⟩:∃ b,(t2 == t4) = b:=⟨_,rfl⟩
 have hcl:=(HFC.out w8 HB8.out).la
 dsimp only at hcl
 have HR4:=Lib.hid (show r = if (u1 && u2 && decide (0 < cn) && g1 && !g2 && !g4 && q5 && q6) = true then 0 else 24 by
  rw [HR3.out,ho3,ho4,← HP1.out,← HP2.out,← HP3.out,← HP4.out,← hq5,← hq6,← hu1,← hu2,← hcl])
 have HSI:=Lib.hid (HSE.out.1)
 have HA1:=Lib.hid (fun (W:World) (hb:Below w8.heap.size w8 W)=>projection_Alike SA FA NA se.length sc fn fc nn nc se fl9 nl9 q5 W hq5 rfl p1 p2 ((HRD.out.below (HBA8.out.trans (hb.mono HBA8.out.size))).more (HBA8.out.trans (hb.mono HBA8.out.size)).size) (HF.out W (HB8.out.trans (hb.mono HB8.out.size))).la (by omega) (HF.out W (HB8.out.trans (hb.mono HB8.out.size))).ra (HN.out W (HB8.out.trans (hb.mono HB8.out.size))).la (by omega) (HN.out W (HB8.out.trans (hb.mono HB8.out.size))).ra)
 have HA2:=Lib.hid (fun (W:World) (hb:Below w8.heap.size w8 W)=>projection_Alike SA CA DA se.length sc cn cc dn dc se cl9 dl9 q6 W hq6 rfl p1 p2 ((HRD.out.below (HBA8.out.trans (hb.mono HBA8.out.size))).more (HBA8.out.trans (hb.mono HBA8.out.size)).size) (HFC.out W (HB8.out.trans (hb.mono HB8.out.size))).la (by omega) (HFC.out W (HB8.out.trans (hb.mono HB8.out.size))).ra (HNC.out W (HB8.out.trans (hb.mono HB8.out.size))).la (by omega) (HNC.out W (HB8.out.trans (hb.mono HB8.out.size))).ra)
 clear HR3 HQ3 HQ4 ho3 ho4 HP1 HP2 HP3 HP4 hq5 hq6 hcl HRN0 HPO0
 obtain ⟨d0,d1,d2,d3⟩:=HY.out w8 HB8.out
 cases u1
 case false =>
  have HR2:=Lib.hid (show r = 24 by rw [HR4.out];simp)
  go_wp2
  go_ret
  exact ⟨ret_int HR2.out.symm,HBL.out _ HB8.out⟩
 cases u2
 case false =>
  have HR2:=Lib.hid (show r = 24 by rw [HR4.out];simp)
  go_wp2
  go_ret
  exact ⟨ret_int HR2.out.symm,HBL.out _ HB8.out⟩
 by_cases hc0:(0:Int) < (cn:Int)
 case neg =>
  have HR2:=Lib.hid (show r = 24 by rw [HR4.out,show decide (0 < cn) = false from decide_eq_false (by omega)];simp)
  go_wp2
  go_ret
  exact ⟨ret_int HR2.out.symm,HBL.out _ HB8.out⟩
 have hdc:decide (0 < cn) = true:=decide_eq_true (by omega)
 rw [hdc] at HR4
 clear hdc
 cases g1
 case false =>
  have HR2:=Lib.hid (show r = 24 by rw [HR4.out];simp)
  go_wp2
  go_ret
  exact ⟨ret_int HR2.out.symm,HBL.out _ HB8.out⟩
 cases g2
 case true =>
  have HR2:=Lib.hid (show r = 24 by rw [HR4.out];simp)
  go_wp2
  go_ret
  exact ⟨ret_int HR2.out.symm,HBL.out _ HB8.out⟩
 cases g4
 case true =>
  have HR2:=Lib.hid (show r = 24 by rw [HR4.out];simp)
  go_wp2
  go_ret
  exact ⟨ret_int HR2.out.symm,HBL.out _ HB8.out⟩
 have HC:=Lib.hid (HA1.out w8 (Below.refl _ _))
 go_wp2_with fail
 refine HC.out.mono ?_
 rintro e w9 ⟨rfl,hb9⟩
 have HB9:=Lib.hid (HB8.out.trans (hb9.mono HB8.out.size))
 have HC2:=Lib.hid (HA2.out w9 hb9)
 clear HC HA1 HA2 d0 d1 d2 d3 hb9
 cases q5
 case false =>
  have HR2:=Lib.hid (show r = 24 by rw [HR4.out];simp)
  go_wp2
  go_ret
  exact ⟨ret_int HR2.out.symm,HBL.out _ HB9.out⟩
 obtain ⟨d0,d1,d2,d3⟩:=HY.out w9 HB9.out
 go_wp2_with fail
 refine HC2.out.mono ?_
 rintro e w10 ⟨rfl,hb10⟩
 have HB10:=Lib.hid (HB9.out.trans (hb10.mono HB9.out.size))
 clear HC2 d0 d1 d2 d3 hb10
 cases q6
 case false =>
  have HR2:=Lib.hid (show r = 24 by rw [HR4.out];simp)
  go_wp2
  go_ret
  exact ⟨ret_int HR2.out.symm,HBL.out _ HB10.out⟩
 have HR2:=Lib.hid (show r = 0 by rw [HR4.out];simp)
 go_wp2
 go_ret
 exact ⟨ret_int HR2.out.symm,HBL.out _ HB10.out⟩
end Go.Proofs.YtddhaidimadliaaGreat
