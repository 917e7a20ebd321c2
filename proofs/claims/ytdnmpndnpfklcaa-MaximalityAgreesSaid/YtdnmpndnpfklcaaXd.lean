/- Removals in memory, Prove's memory; walk: Prove's closure remove. -/
import Derived.Test.YtdnmpndnpfklcaaXc
import Derived.Test.YtdnmpndnpfklcaaIf
namespace Go.Proofs.Ytdnmpndnpfklcaa
open Go.RowKit Go Go.Maps
def rmc (r:Rm):List Value:=[.int .i64 r.s,.int .i64 r.k,.int .i64 r.r,.int .i64 r.e]
theorem rm_info:(Try.prog.info? 63).map (fun i=>(i.zero,i.size,i.bytes)) = some (some (.agg #[.int .i64 0,.int .i64 0,.int .i64 0,.int .i64 0]),4,32):=by kernel_rfl
theorem rmc_one (l:List Rm):∀ u ∈ l.flatMap rmc,u.oneCell' = true:=by
 intro u hu
 obtain ⟨r,_,hr⟩:=List.mem_flatMap.1 hu
 simp [rmc] at hr
 rcases hr with rfl | rfl | rfl | rfl <;> rfl
theorem rmc_len (l:List Rm):(l.flatMap rmc).length = l.length * 4:=flat_len rmc 4 l (fun _ _=>rfl)
theorem run_appN {P:Program} {α:Type} (f:α → List Value) (sz:Nat) (hsz:0 < sz) (hf:∀ x,(f x).length = sz) (w:World) (base:Nat) (t ty e:TypeId) (i:TypeInfo) (z:Value) (bytes:Nat) (ht:P.underlying t = some (.slice e)) (hi:P.info? e = some i) (hz:i.zero = some z)
  (hsize:i.size = sz) (hby:i.bytes = bytes) (hzs:z.cells.size = sz) (v:Value) (n:Nat) (xs:List Value) (hown:w.ownsRow base e sz v n xs)
  (B:Nat) (A:Option Addr) (m c:Nat) (l:List α) (hm:l.length = m) (hr:RdR sz f w B A l) (h1:∀ u ∈ l.flatMap f,u.oneCell' = true)
  (h63:n + m ≤ maxLen) (hbytes:(n + m) * bytes ≤ 140737488355328) (hbase:base ≤ w.heap.size) :
  ∃ v' w',(Builtin.append_ #[t,t] ty #[v,.slice A m c]).run P w = .ok v' w'∧w'.ownsRow base e sz v' (n + m) (xs ++ l.flatMap f)∧w.grownBy w' v.ownBlock:=by
 rcases A with _ | ad
 ·have hm0:m = 0:=by
   rcases Nat.eq_zero_or_pos m with h0 | h0
   ·exact h0
   ·obtain ⟨ad,_,h,_⟩:=hr.get (k:=0) (by omega)
    cases h
  subst hm0
  have hn:l = []:=List.eq_nil_of_length_eq_zero hm
  subst hn
  exact ⟨v,w,run_app_nil w base t ty e i sz ht hi v n xs hown c,by simpa using hown,World.grownBy.refl w _⟩
 ·have hcells:∀ j u,(l.flatMap f)[j]? = some u → w.cell? (ad.add j) = some u:=fun j u hu=>by
   have hj:j < l.length * sz:=by
    have:=(List.getElem?_eq_some_iff.1 hu).1
    rwa [flat_len f sz l (fun y _=>hf y)] at this
   have hdiv:j / sz < l.length:=Nat.div_lt_of_lt_mul (by rw [Nat.mul_comm];exact hj)
   obtain ⟨ad',x,h,_,hx,hc⟩:=hr.get hdiv
   injection h with h
   subst h
   have hmod:j % sz < (f x).length:=by rw [hf x];exact Nat.mod_lt _ hsz
   have e1:j / sz * sz + j % sz = j:=by rw [Nat.mul_comm];exact Nat.div_add_mod j sz
   have h2:=flat_get f sz l (fun y _=>hf y) (j / sz) x (j % sz) _ hx (List.getElem?_eq_getElem hmod)
   rw [e1,hu] at h2
   injection h2 with h2
   have h3:=hc (j % sz) _ (List.getElem?_eq_getElem hmod)
   rw [e1,← h2] at h3
   exact h3
  obtain ⟨v',w',hrun,h2,h3,h4,_⟩:=run_append_own_at (P:=P) w base t ty e i z sz bytes ht hi hz hsize hby hzs hsz v n xs hown ad m c (l.flatMap f) (by rw [flat_len f sz l (fun y _=>hf y),hm]) hcells h1 h63 hbytes hbase
  exact ⟨v',w',hrun,h2,h3⟩
theorem wpList_appN {P:Program} {α:Type} (f:α → List Value) (sz:Nat) (hsz:0 < sz) (hf:∀ x,(f x).length = sz) (w:World) {ops:Array Oper} {rest:List Oper} {o:Oper} {a:Act} {Q:Exit → Act → World → Prop} (hgd:o.guard = none) (s x:Operand) (t:TypeId)
  (ho:o.op = .call { callee:=.builtin .append,args:=#[s,x],argTypes:=#[t,t] })
  (base:Nat) (e:TypeId) (z:Value) (bytes:Nat) (ht:P.underlying t = some (.slice e)) (hinfo:(P.info? e).map (fun i=>(i.zero,i.size,i.bytes)) = some (some z,sz,bytes))
  (hz1:z.cells.size = sz) (v:Value) (n:Nat) (xs:List Value) (hs:a.eval s = v) (hown:w.ownsRow base e sz v n xs)
  (B:Nat) (A:Option Addr) (m c:Nat) (l:List α) (hm:l.length = m) (hx:a.eval x = .slice A m c) (hr:RdR sz f w B A l) (h1:∀ u ∈ l.flatMap f,u.oneCell' = true)
  (hn:n + m ≤ 9223372036854775807) (hbytes:(n + m) * bytes ≤ 140737488355328) (hbase:base ≤ w.heap.size)
  (h:∀ v' w',w'.ownsRow base e sz v' (n + m) (xs ++ l.flatMap f) → w.grownBy w' v.ownBlock → wpList P ops Q rest (a.put o.dst v') w') :
  wpList P ops Q (o :: rest) a w:=by
 obtain ⟨i,hi,hz,hs1,hby⟩:=info_parts hinfo
 refine wpList_plain hgd fun K hK=>?_
 obtain ⟨v',w',hrun,h2,h3⟩:=run_appN (P:=P) f sz hsz hf w base t o.type e i z bytes ht hi hz hs1 hby hz1 v n xs hown B A m c l hm hr h1 (by unfold maxLen;omega) hbytes hbase
 unfold Oper.wp execOp
 simp only [ho,resolve,invoke,builtin,Sem.run_bind,Sem.run_pure,Result.andThen_ok,List.map_toArray,List.map_cons,List.map_nil,hs,hx,hrun]
 exact hK _ _ (h v' w' h2 h3)
theorem InM.kept {B:Nat} {w0 w w':World} {o n b:Nat} {t:TypeId} {es:List Ed} {g:Int → Option Hd} {vs:List Value} (h:InM B w0 w o n es g) (hg:w.grownBy w' (some b)) (hk:Blk w b t vs) (ht:67 ≠ t) (hb:B ≤ b):InM B w0 w' o n es g :=
 ⟨h.bel.grown hg h.siz (fun j hj=>by injection hj with hj;omega),Nat.le_trans h.siz hg.size,h.tab.kept hg (fun e=>by injection e with e;exact h.tab.neB hk e),h.lt,fun t=>(h.row t).kept hg (own_ne_blk (h.row t) hk ht),h.apt⟩
theorem InM.keptO {B B':Nat} {w0 w w':World} {o n m sz:Nat} {e:TypeId} {es:List Ed} {g:Int → Option Hd} {v:Value} {xs:List Value} (h:InM B w0 w o n es g) (ho:w.ownsRow B' e sz v m xs) (hg:w.grownBy w' v.ownBlock) (he:67 ≠ e) (hB:B ≤ B'):InM B w0 w' o n es g :=
 ⟨h.bel.grown hg h.siz (fun j hj=>by have:=(ho.lt j hj).1;omega),Nat.le_trans h.siz hg.size,h.tab.kept hg (h.tab.ne ho),h.lt,fun t=>own_kept_ne (h.row t) ho he hg,h.apt⟩
structure PrC where
 ba:Nat
 bb:Nat
 bc:Nat
 bl:Nat
 bx:Nat
 cb:Nat
 lb:Nat
 o:Nat
 mo:Nat
 n:Nat
 g:Int → Option Hd
structure PrW (w W:World) (x:AV) (U:List Int) (c:PrC) (Rv:Value) (m:Nat) (N:List Bool) (R:List Rm):Prop where
 bel:Below w.heap.size w W
 ka:Blk W c.ba 32 [.slice x.A x.na x.ca,.int .i64 x.a.st,.slice x.M x.nm x.cm,.slice x.E x.ne x.ce]
 kb:Blk W c.bb 85 [.map (some c.o)]
 kc:Blk W c.bc 87 [.slice (some ⟨c.cb,0,none⟩) 32 32]
 kl:Blk W c.bl 87 [.slice (some ⟨c.lb,0,none⟩) c.n c.n]
 kx:Blk W c.bx 38 [.slice none 0 0,.slice none 0 0,Rv]
 kcb:Blk W c.cb 4 (bvl (inF 32 U))
 klb:Blk W c.lb 4 (bvl N)
 nl:N.length = c.n
 into:InM w.heap.size w W c.o c.mo x.a.ed c.g
 row:W.ownsRow w.heap.size 63 4 Rv m (R.flatMap rmc)
 rl:R.length = m
 n1:c.cb ≠ c.lb
 l1:w.heap.size ≤ c.lb
 l2:w.heap.size ≤ c.bx
section
variable {w W W':World} {x:AV} {U:List Int} {c:PrC} {Rv:Value} {m:Nat} {N:List Bool} {R:List Rm}
theorem PrW.quiet (h:PrW w W x U c Rv m N R) (hb:Below W.heap.size W W'):PrW w W' x U c Rv m N R :=
 ⟨h.bel.trans (hb.mono h.bel.size),h.ka.below hb h.ka.lt,h.kb.below hb h.kb.lt,h.kc.below hb h.kc.lt,h.kl.below hb h.kl.lt,h.kx.below hb h.kx.lt,h.kcb.below hb h.kcb.lt,h.klb.below hb h.klb.lt,h.nl,h.into.quiet hb,own_below h.row hb,h.rl,h.n1,h.l1,h.l2⟩
theorem PrW.clr (h:PrW w W x U c Rv m N R) {s:Nat} (hs:s < c.n):PrW w (W.setCell ⟨c.lb,s,none⟩ (.bool false)) x U c Rv m (N.set s false) R:=by
 have hg:=grown_setCell W c.lb s (.bool false)
 have ne:∀ {b:Nat} {t:TypeId} {vs:List Value},Blk W b t vs → t ≠ 4 → some b ≠ some c.lb:=fun hk ht e=>by injection e with e;exact blk_apart hk h.klb ht e
 refine ⟨h.bel.setCell (p:=⟨c.lb,s,none⟩) h.l1 _,h.ka.kept hg (ne h.ka (by decide)),h.kb.kept hg (ne h.kb (by decide)),h.kc.kept hg (ne h.kc (by decide)),h.kl.kept hg (ne h.kl (by decide)),h.kx.kept hg (ne h.kx (by decide)),
  h.kcb.kept hg (fun e=>by injection e with e;exact h.n1 e),?_,by rw [List.length_set];exact h.nl,h.into.kept hg h.klb (by decide) h.l1,h.row.kept hg (own_ne_blk h.row h.klb (by decide)),h.rl,h.n1,h.l1,h.l2⟩
 have:=h.klb.set (j:=s) (by rw [bvl_length,h.nl];exact hs) (.bool false)
 rwa [bvl_set] at this
theorem PrW.app (h:PrW w W x U c Rv m N R) {Rv':Value} {k:Nat} {l:List Rm} (hl:l.length = k) (ho:W'.ownsRow w.heap.size 63 4 Rv' (m + k) (R.flatMap rmc ++ l.flatMap rmc)) (hg:W.grownBy W' Rv.ownBlock) :
  PrW w (W'.setCell ⟨c.bx,2,none⟩ Rv') x U c Rv' (m + k) N (R ++ l):=by
 have hg2:=grown_setCell W' c.bx 2 Rv'
 have hb1:Below w.heap.size w W':=h.bel.grown hg h.bel.size (fun j hj=>(h.row.lt j hj).1)
 have kp:∀ {b:Nat} {t:TypeId} {vs:List Value},Blk W b t vs → t ≠ 63 → Blk W' b t vs:=fun hk ht=>hk.kept hg (blk_ne_own h.row hk (fun e=>ht e.symm))
 have kx':=kp h.kx (by decide)
 have ne:∀ {b:Nat} {t:TypeId} {vs:List Value},Blk W' b t vs → t ≠ 38 → Blk (W'.setCell ⟨c.bx,2,none⟩ Rv') b t vs:=fun hk ht=>hk.kept hg2 (fun e=>by injection e with e;exact blk_apart hk kx' ht e)
 refine ⟨hb1.setCell (p:=⟨c.bx,2,none⟩) h.l2 _,ne (kp h.ka (by decide)) (by decide),ne (kp h.kb (by decide)) (by decide),ne (kp h.kc (by decide)) (by decide),ne (kp h.kl (by decide)) (by decide),?_,
  ne (kp h.kcb (by decide)) (by decide),ne (kp h.klb (by decide)) (by decide),h.nl,(h.into.keptO h.row hg (by decide) (Nat.le_refl _)).kept hg2 kx' (by decide) h.l2,?_,by rw [List.length_append,h.rl,hl],h.n1,h.l1,h.l2⟩
 ·exact kx'.set (j:=2) (by simp) Rv'
 ·rw [List.flatMap_append]
  exact ho.kept hg2 (own_ne_blk ho kx' (by decide))
end
theorem rmv_snoc {N:List Bool} {l:List Rm} {j:Nat} {r:Rm} (h:l[j]? = some r):rmv N (l.take (j + 1)) = (rmv N (l.take j)).set r.s.toNat false:=by
 unfold rmv
 rw [List.take_add_one,h,List.foldl_append]
 rfl
def RetRem (w:World) (x:AV) (U:List Int) (c:PrC) (m k:Nat) (N:List Bool) (R:List Rm) (e:Ending) (W':World):Prop:=∃ Rv',e = .returned (.bool (decide (0 < k)))∧PrW w W' x U c Rv' (m + k) N R
set_option maxRecDepth 100000 in
set_option maxHeartbeats 1600000 in
theorem max_remove (w W:World) (x:AV) (U:List Int) (c:PrC) (Rv:Value) (m:Nat) (N:List Bool) (R:List Rm) (h:PrW w W x U c Rv m N R) (B':Nat) (A:Option Addr) (k cap:Nat) (l:List Rm)
  (ho:W.ownsRow B' 63 4 (.slice A k cap) k (l.flatMap rmc)) (hl:l.length = k) (hs:∀ r ∈ l,0 ≤ r.s∧r.s < (c.n:Int)) (hk:k ≤ 1000000) (hm:m ≤ 1000000) :
  Calls Try.prog 40 #[.slice A k cap,.pointer (some ⟨c.bl,0,none⟩),.pointer (some ⟨c.bx,0,none⟩)] W (RetRem w x U c m k (rmv N l) (R ++ l)):=by
 have HP0:=Lib.hid (show PrW w W x U c Rv m (rmv N (l.take 0)) R from h)
 have HO0:=Lib.hid ho
 have HS:=Lib.hid hs
 have HL:=Lib.hid hl
 clear h ho hs
 go_enter Try.func40,Try.ntmps40
 go_wp2
 go_loopw [6,9] (fun s6 s9 wr=>∃ (j:Nat) (v6:Value),s6 = v6∧s9 = .int .i64 j∧j ≤ k∧Hid (PrW w wr x U c Rv m (rmv N (l.take j)) R)∧Hid (wr.ownsRow B' 63 4 (.slice A k cap) k (l.flatMap rmc))) (fun _ s9 _=>k - (intOf s9).toNat)
 case atStart=>exact ⟨0,_,rfl,rfl,Nat.zero_le _,HP0,HO0⟩
 case round =>
  clear HP0 HO0
  obtain ⟨j,v6,rfl,rfl,hj,HP,HO⟩:=hrel
  by_cases hlt:j < k
  ·have b1:(j:Int) < (k:Int):=by omega
   obtain ⟨ad,r,rfl,hab,hr,hc⟩:=RdR.get (RdR.of_own (f:=rmc) (by omega) (fun _ _=>rfl) HO.out) (k:=j) (by rw [HL.out];exact hlt)
   have g0:wr.cell? (ad.add (j * 4)) = some (.int .i64 r.s):=hc 0 _ rfl
   have g1:wr.cell? ⟨(ad.add (j * 4)).block,(ad.add (j * 4)).off + 1,none⟩ = some (.int .i64 r.k):=st_cells (j:=0) (hc 1 _ rfl)
   have g2:wr.cell? ⟨(ad.add (j * 4)).block,(ad.add (j * 4)).off + 2,none⟩ = some (.int .i64 r.r):=st_cells (j:=1) (hc 2 _ rfl)
   have g3:wr.cell? ⟨(ad.add (j * 4)).block,(ad.add (j * 4)).off + 3,none⟩ = some (.int .i64 r.e):=st_cells (j:=2) (hc 3 _ rfl)
   obtain ⟨s0,s1⟩:=HS.out r (List.mem_of_getElem? hr)
   have hbx:=box_below wr (.cells #[.int .i64 r.s,.int .i64 r.k,.int .i64 r.r,.int .i64 r.e] 63)
   have ke:Blk (wr.alloc (.cells #[.int .i64 r.s,.int .i64 r.k,.int .i64 r.r,.int .i64 r.e] 63)) wr.heap.size 63 [.int .i64 r.s,.int .i64 r.k,.int .i64 r.r,.int .i64 r.e]:=Blk.new _ _ [_,_,_,_]
   have HP5:=Lib.hid (HP.out.quiet hbx)
   have HO5:=Lib.hid (own_below HO.out hbx)
   have HRS:=Lib.hid (rmv_snoc (N:=N) hr)
   clear hc hab hr hbx HP HO
   go_upto_region 4 with fail
   clear g0 g1 g2 g3
   generalize wr.heap.size = bx at ke ⊢
   generalize wr.alloc (.cells #[.int .i64 r.s,.int .i64 r.k,.int .i64 r.r,.int .i64 r.e] 63) = w5 at ke HP5 HO5 ⊢
   have e0:=ke.cell (j:=0) rfl
   have e1:w5.cell? ⟨c.bl,0,none⟩ = some (.slice (some ⟨c.lb,0,none⟩) c.n c.n):=HP5.out.kl.cell (j:=0) rfl
   have hsn:r.s.toNat < c.n:=by omega
   obtain ⟨u,hu⟩:∃ u,(bvl (rmv N (l.take j)))[r.s.toNat]? = some u:=⟨_,List.getElem?_eq_getElem (by rw [bvl_length,HP5.out.nl];exact hsn)⟩
   have e2:w5.cell? ⟨c.lb,r.s.toNat,none⟩ = some u:=HP5.out.klb.cell hu
   have f2:w5.frozen? ⟨c.lb,r.s.toNat,none⟩ = false:=HP5.out.klb.free _
   have f3:c.lb < w5.heap.size:=HP5.out.klb.lt
   have t1:¬ r.s < 0:=by omega
   have HP6:=Lib.hid (show PrW w (w5.setCell ⟨c.lb,r.s.toNat,none⟩ (.bool false)) x U c Rv m (rmv N (l.take (j + 1))) R by rw [HRS.out];exact HP5.out.clr hsn)
   have HO6:=Lib.hid (HO5.out.kept (grown_setCell w5 c.lb r.s.toNat (.bool false)) (own_ne_blk HO5.out HP5.out.klb (by decide)))
   clear hu ke
   go_wp2
   go_roundw
   case rel=>exact ⟨j + 1,_,rfl,by go_num,by omega,HP6,HO6⟩
   case measure=>simp [intOf];omega
  ·obtain rfl:j = k:=by omega
   have b1:¬ (j:Int) < (j:Int):=by omega
   have HP1:=Lib.hid (show PrW w wr x U c Rv m (rmv N l) R from by
    have:=HP.out
    rw [List.take_of_length_le (by rw [HL.out];exact Nat.le_refl _)] at this
    exact this)
   obtain ⟨RA,rc,rfl⟩:=own_shape HP1.out.row
   have e1:wr.cell? ⟨c.bx,2,none⟩ = some (.slice RA m rc):=HP1.out.kx.cell (j:=2) rfl
   have HRX:=Lib.hid (RdR.of_own (f:=rmc) (by omega) (fun _ _=>rfl) HO.out)
   have hbs:=HP1.out.bel.size
   have HPX:=Lib.hid (show ∀ (v7:Value) (w7:World),w7.ownsRow w.heap.size 63 4 v7 (m + j) (R.flatMap rmc ++ l.flatMap rmc) → wr.grownBy w7 (Value.slice RA m rc).ownBlock → PrW w (w7.setCell ⟨c.bx,2,none⟩ v7) x U c v7 (m + j) (rmv N l) (R ++ l)∧Blk w7 c.bx 38 [.slice none 0 0,.slice none 0 0,.slice RA m rc] from
    fun v7 w7 ho7 hg7=>⟨HP1.out.app HL.out ho7 hg7,HP1.out.kx.kept hg7 (blk_ne_own HP1.out.row HP1.out.kx (by decide))⟩)
   clear HP HO
   go_wp2_with (first | (at_builtin;refine wpList_appN rmc 4 (by omega) (fun _=>rfl) wr rfl (.tmp 19) (.tmp 20) 36 rfl w.heap.size 63 (.agg #[.int .i64 0,.int .i64 0,.int .i64 0,.int .i64 0]) 32 Try.underlying36 rm_info rfl (.slice RA m rc) m _ rfl HP1.out.row _ A j cap l HL.out rfl HRX.out (rmc_one l) (by omega) (by omega) hbs ?_;intro v7 w7 ho7 hg7;obtain ⟨RA7,rc7,rfl⟩:=own_shape ho7;obtain ⟨hp8,k7⟩:=HPX.out _ w7 ho7 hg7;have HP8:=Lib.hid hp8;have f1:w7.frozen? ⟨c.bx,2,none⟩ = false:=k7.free 2;have f2:c.bx < w7.heap.size:=k7.lt;have f3:w7.cell? ⟨c.bx,2,none⟩ = some (.slice RA m rc):=k7.cell (j:=2) rfl;clear ho7 hg7 k7 hp8) | fail)
   go_ret
   exact ⟨_,by simp,HP8.out⟩
end Go.Proofs.Ytdnmpndnpfklcaa
