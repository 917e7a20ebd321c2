/- The result of synthesis: the sort, the memory. -/
import Derived.Test.YtdnmpndnpfklcaaX4
import Derived.Test.YtdnmpndnpfklcaaXh
namespace Go.Proofs.Ytdnmpndnpfklcaa
open Go.RowKit Go Go.Maps
theorem syn_cmp (x y:RmS) (w:World) :
  Calls Try.prog 94 #[.agg (rsc x).toArray,.agg (rsc y).toArray] w fun e w'=>e = .returned (.int .i64 (rscmp x y))∧∃ os,w' = Sort.grow w os:=by
 have hw:IntKind.i64.wrap (x.r.s - y.r.s) = x.r.s - y.r.s:=IntWalk.i64_in _ (by have:=x.ok;have:=y.ok;omega)
 have HG:=Lib.hid (show (w.alloc (.cells #[.int .i64 x.r.s,.int .i64 x.r.k,.int .i64 x.r.r,.int .i64 x.r.e] 63)).alloc (.cells #[.int .i64 y.r.s,.int .i64 y.r.k,.int .i64 y.r.r,.int .i64 y.r.e] 63) = Sort.grow w #[.cells #[.int .i64 x.r.s,.int .i64 x.r.k,.int .i64 x.r.r,.int .i64 x.r.e] 63 (0,0),.cells #[.int .i64 y.r.s,.int .i64 y.r.k,.int .i64 y.r.r,.int .i64 y.r.e] 63 (0,0)] from by
  rw [Sort.alloc_eq_grow,Sort.alloc_eq_grow,Sort.grow_grow];rfl)
 unfold rsc rmc rscmp
 go_enter Try.func94,Try.ntmps94
 go_wp2
 go_ret
 exact ⟨rfl,_,HG.out⟩
theorem syn_sort (base n cap g:Nat) (R:List Rm) (w:World) (hown:w.ownsRow base 63 4 (.slice (some ⟨g,0,none⟩) n cap) n (R.flatMap rmc)) (hl:R.length = n) (hr:∀ r ∈ R,0 ≤ r.s∧r.s < 4096) (hn:n ≤ 1000000) :
  Calls Try.prog 44 #[.slice (some ⟨g,0,none⟩) n cap,.func (.func 94) #[] #[]] w (RetSrt base n cap g R w):=by
 obtain ⟨es,he⟩:=rs_list hr
 have hlen:es.length = n:=by rw [← hl,← he,List.length_map]
 have hv:es.flatMap rsc = R.flatMap rmc:=by rw [← he,List.flatMap_map];rfl
 rw [← hv] at hown
 have hk:∀ x,(rsc x).length = 4:=fun _=>rfl
 have hH:=holdsK_own rsc 4 hk hown
 have hgl:=(hown.lt g rfl).2
 have hcmp:CmpLays Try.prog 94 #[] rsc 4 rscmp g 0 es.toArray.size w:=by
  intro m os dk _ x y
  exact (syn_cmp x y _).mono fun e w' ⟨h1,os',h2⟩=>⟨h1,0,os',h2⟩
 have hsz:es.toArray.size = n:=by simpa using hlen
 have hcon:=Try.slices_SortFunc 4 (fun w=>by kernel_rfl) (fun w=>by kernel_rfl) rsc hk (fun x v hv=>rmc_one [x.r] v (by simpa [rsc] using hv)) rscmp rscmp_swo 94 #[] g 0 cap es.toArray w (enters_of Try.func94 (by kernel_rfl) rfl) hcmp hH hgl (by rw [hsz];omega)
 rw [hsz] at hcon
 refine hcon.mono fun e w' ⟨h1,d',q,os,hp,hs,hw⟩=>⟨h1,d'.toList.map RmS.r,?_,?_,?_⟩
 ·rw [← hsz] at hp hs
  obtain ⟨_,h3,_⟩:=rs_sorted hp hs
  rw [← he]
  exact h3.map _
 ·rw [← hsz] at hp hs
  exact (rs_sorted hp hs).2.2
 ·rw [← hsz] at hp
  have hl2:d'.toList.length = n:=by rw [Array.length_toList,hp.1,hsz]
  have hfk:Sort.flatK rsc 4 d' = (d'.toList.flatMap rsc).toArray:=by
   have:=flatK_list rsc 4 hk d'.toList
   simpa using this
  obtain ⟨q1,q2⟩:=own_putFlat (q:=q) (ys:=d'.toList.flatMap rsc) hown (by rw [flat_len rsc 4 _ (fun y _=>hk y),hl2])
  have hw2:w' = Sort.grow (Sort.putRow id (Sort.ahead w q) g 0 (d'.toList.flatMap rsc).toArray) os:=by rw [hw];unfold sortWorldK Sort.putRowK;rw [hfk]
  have hb:Below (Sort.putRow id (Sort.ahead w q) g 0 (d'.toList.flatMap rsc).toArray).heap.size (Sort.putRow id (Sort.ahead w q) g 0 (d'.toList.flatMap rsc).toArray) (Sort.grow (Sort.putRow id (Sort.ahead w q) g 0 (d'.toList.flatMap rsc).toArray) os):=⟨rfl,rfl,rfl,by simp [Sort.grow],fun k hk=>Sort.heap_grow_old _ _ hk⟩
  rw [hw2,show (d'.toList.map RmS.r).flatMap rmc = d'.toList.flatMap rsc by rw [List.flatMap_map];rfl]
  exact ⟨own_below q1 hb,q2.trans (grown_below hb _)⟩
theorem syn_sort_nil (w:World) :
  Calls Try.prog 44 #[.slice none 0 0,.func (.func 94) #[] #[]] w fun e w'=>e = .returned (.tuple #[])∧w' = w :=
 AnyF.slices_SortFunc_none Try.laysSlF06_f44 none 0 _ w
theorem syn_sort_any (base n:Nat) (v:Value) (R:List Rm) (w:World) (hown:w.ownsRow base 63 4 v n (R.flatMap rmc)) (hl:R.length = n) (hr:∀ r ∈ R,0 ≤ r.s∧r.s < 4096) (hn:n ≤ 1000000) :
  Calls Try.prog 44 #[v,.func (.func 94) #[] #[]] w (RetSrA base n v R w):=by
 rcases hown.2 with ⟨rfl,rfl⟩ | ⟨g,cap,cur,rfl,_⟩
 ·obtain rfl:R = []:=List.eq_nil_of_length_eq_zero hl
  exact (syn_sort_nil w).mono fun e w' ⟨h1,h2⟩=>by subst h2;exact ⟨h1,[],List.Perm.refl _,List.Pairwise.nil,hown,grown_refl _ _⟩
 ·exact (syn_sort base n cap g R w hown hl hr hn).mono fun e w' ⟨h1,R',h2,h3,h4,h5⟩=>⟨h1,R',h2,h3,h4,h5⟩
def resc (v0 v1 v2:Value) (rk:Int):List Value:=[v0,v1,v2,.int .i64 rk,.slice none 0 0,.int .i64 0,.slice none 0 0,.slice none 0 0,.slice none 0 0]
structure ReM (w:World) (x:AV) (u:IV) (pb o lb n mm:Nat) (g:Int → Option Hd) (w2 W:World) (rb:Nat) (Rv:Value) (m:Nat) (R:List Rm) (rk:Int) (N:List Bool):Prop where
 st:StM w x u pb o lb n W mm x.a.ed g N
 kx:Blk W rb 81 (resc (.slice none 0 0) (.slice none 0 0) Rv rk)
 row:W.ownsRow w2.heap.size 63 4 Rv m (R.flatMap rmc)
 rl:R.length = m
 l2:w.heap.size ≤ w2.heap.size
 lr:w2.heap.size ≤ rb
section
variable {w w2 W W':World} {x:AV} {u:IV} {pb o lb n mm rb m:Nat} {g:Int → Option Hd} {Rv:Value} {R:List Rm} {rk:Int} {N:List Bool}
theorem ReM.quiet (h:ReM w x u pb o lb n mm g w2 W rb Rv m R rk N) (hb:Below W.heap.size W W'):ReM w x u pb o lb n mm g w2 W' rb Rv m R rk N :=
 ⟨h.st.quiet hb,h.kx.below hb h.kx.lt,own_below h.row hb,h.rl,h.l2,h.lr⟩
theorem ReM.bel (h:ReM w x u pb o lb n mm g w2 W rb Rv m R rk N):Below w.heap.size w W:=h.st.into.bel
theorem ReM.siz (h:ReM w x u pb o lb n mm g w2 W rb Rv m R rk N):w2.heap.size ≤ W.heap.size:=Nat.le_trans h.lr (Nat.le_of_lt h.kx.lt)
theorem ReM.clr (h:ReM w x u pb o lb n mm g w2 W rb Rv m R rk N) {s:Nat} (hs:s < n):ReM w x u pb o lb n mm g w2 (W.setCell ⟨lb,s,none⟩ (.bool false)) rb Rv m R rk (N.set s false):=by
 have hg:=grown_setCell W lb s (.bool false)
 exact ⟨h.st.set hs false,h.kx.kept hg (fun e=>by injection e with e;exact blk_apart h.kx h.st.kl (by decide) e),h.row.kept hg (own_ne_blk h.row h.st.kl (by decide)),h.rl,h.l2,h.lr⟩
theorem ReM.rank (h:ReM w x u pb o lb n mm g w2 W rb Rv m R rk N) (r:Int):ReM w x u pb o lb n mm g w2 (W.setCell ⟨rb,3,none⟩ (.int .i64 r)) rb Rv m R r N:=by
 have hg:=grown_setCell W rb 3 (.int .i64 r)
 exact ⟨h.st.kept hg h.kx (by decide) (by decide) (by decide) (Nat.le_trans h.l2 h.lr),h.kx.set (j:=3) (by simp [resc]) _,h.row.kept hg (own_ne_blk h.row h.kx (by decide)),h.rl,h.l2,h.lr⟩
theorem ReM.app (h:ReM w x u pb o lb n mm g w2 W rb Rv m R rk N) {Rv':Value} {k:Nat} {l:List Rm} (hl:l.length = k) (ho:W'.ownsRow w2.heap.size 63 4 Rv' (m + k) (R.flatMap rmc ++ l.flatMap rmc)) (hg:W.grownBy W' Rv.ownBlock) :
  ReM w x u pb o lb n mm g w2 (W'.setCell ⟨rb,2,none⟩ Rv') rb Rv' (m + k) (R ++ l) rk N∧Blk W' rb 81 (resc (.slice none 0 0) (.slice none 0 0) Rv rk):=by
 have kx8:=h.kx.kept hg (blk_ne_own h.row h.kx (by decide))
 have hgs:=grown_setCell W' rb 2 Rv'
 have st8:=h.st.keptO h.row hg (by decide) (by decide) (by decide) h.l2
 refine ⟨⟨st8.kept hgs kx8 (by decide) (by decide) (by decide) (Nat.le_trans h.l2 h.lr),kx8.set (j:=2) (by simp [resc]) _,?_,by rw [List.length_append,h.rl,hl],h.l2,h.lr⟩,kx8⟩
 rw [List.flatMap_append]
 exact ho.kept hgs (own_ne_blk ho kx8 (by decide))
theorem ReM.srt {R':List Rm} (h:ReM w x u pb o lb n mm g w2 W rb Rv m R rk N) (hl:R'.length = m) (ho:W'.ownsRow w2.heap.size 63 4 Rv m (R'.flatMap rmc)) (hg:W.grownBy W' Rv.ownBlock):ReM w x u pb o lb n mm g w2 W' rb Rv m R' rk N :=
 ⟨h.st.keptO h.row hg (by decide) (by decide) (by decide) h.l2,h.kx.kept hg (blk_ne_own h.row h.kx (by decide)),ho,hl,h.l2,h.lr⟩
end
structure ReK (w:World) (x:AV) (u:IV) (pb o lb n:Nat) (w2 w6 W:World) (rb ob:Nat) (N:List Bool) (D:List Int) (Rv:Value) (m:Nat) (R:List Rm) (rk:Int) (v1 v2:Value) (q1 q2:Nat) (l1 l2:List Int):Prop where
 bel:Below w.heap.size w W
 siz:w6.heap.size ≤ W.heap.size
 kp:Blk W pb 157 (syc x u o lb n)
 kl:Blk W lb 4 (bvl N)
 kd:Blk W ob 3 (iv D)
 kx:Blk W rb 81 (resc v1 v2 Rv rk)
 row:W.ownsRow w2.heap.size 63 4 Rv m (R.flatMap rmc)
 o1:W.ownsRow w6.heap.size 3 1 v1 q1 (iv l1)
 o2:W.ownsRow w6.heap.size 3 1 v2 q2 (iv l2)
 apt:∀ g,v1.ownBlock = some g → v2.ownBlock ≠ some g
 lo:ob < w6.heap.size
 l6:w.heap.size ≤ w6.heap.size
 lr:w.heap.size ≤ rb
 nl:N.length = n
section
variable {w w2 w6 W W':World} {x:AV} {u:IV} {pb o lb n rb ob m q q1 q2:Nat} {Rv v v1 v2:Value} {R:List Rm} {rk:Int} {N:List Bool} {D l1 l2:List Int}
theorem ReK.below (h:ReK w x u pb o lb n w2 w6 W rb ob N D Rv m R rk v1 v2 q1 q2 l1 l2) (hb:Below W.heap.size W W'):ReK w x u pb o lb n w2 w6 W' rb ob N D Rv m R rk v1 v2 q1 q2 l1 l2 :=
 ⟨h.bel.trans (hb.mono h.bel.size),Nat.le_trans h.siz hb.size,h.kp.below hb h.kp.lt,h.kl.below hb h.kl.lt,h.kd.below hb h.kd.lt,h.kx.below hb h.kx.lt,own_below h.row hb,own_below h.o1 hb,own_below h.o2 hb,h.apt,h.lo,h.l6,h.lr,h.nl⟩
theorem ReK.push1 (h:ReK w x u pb o lb n w2 w6 W rb ob N D Rv m R rk v1 v2 q1 q2 l1 l2) {y:Int} (ho:W'.ownsRow w6.heap.size 3 1 v (q1 + 1) (iv l1 ++ [.int .i64 y])) (hg:W.grownBy W' v1.ownBlock) (hv:v.ownBlock = v1.ownBlock ∨ ∃ g,v.ownBlock = some g∧W.heap.size ≤ g) :
  ReK w x u pb o lb n w2 w6 (W'.setCell ⟨rb,0,none⟩ v) rb ob N D Rv m R rk v v2 (q1 + 1) q2 (l1 ++ [y]) l2∧Blk W' rb 81 (resc v1 v2 Rv rk):=by
 have kp:∀ {b:Nat} {t:TypeId} {vs:List Value},Blk W b t vs → t ≠ 3 → Blk W' b t vs:=fun hk ht=>hk.kept hg (blk_ne_own h.o1 hk (fun e=>ht e.symm))
 have kx':=kp h.kx (by decide)
 have hg2:=grown_setCell W' rb 0 v
 have ne:∀ {b:Nat} {t:TypeId} {vs:List Value},Blk W' b t vs → t ≠ 81 → Blk (W'.setCell ⟨rb,0,none⟩ v) b t vs:=fun hk ht=>hk.kept hg2 (fun e=>by injection e with e;exact blk_apart hk kx' ht e)
 have kd':Blk W' ob 3 (iv D):=h.kd.kept hg (fun e=>by have:=(h.o1.lt ob e.symm).1;have:=h.lo;omega)
 have o2':W'.ownsRow w6.heap.size 3 1 v2 q2 (iv l2):=h.o2.kept hg (by
  cases hq:v2.ownBlock with
  | none=>exact .inl rfl
  | some g=>exact .inr (fun e=>h.apt g e.symm hq))
 have hb1:Below w.heap.size w W':=h.bel.grown hg h.bel.size (fun j hj=>by have:=(h.o1.lt j hj).1;have:=h.l6;omega)
 refine ⟨⟨hb1.setCell (p:=⟨rb,0,none⟩) h.lr _,Nat.le_trans h.siz (Nat.le_trans hg.size hg2.size),ne (kp h.kp (by decide)) (by decide),ne (kp h.kl (by decide)) (by decide),ne kd' (by decide),kx'.set (j:=0) (by simp [resc]) _,?_,?_,?_,?_,h.lo,h.l6,h.lr,h.nl⟩,kx'⟩
 ·exact (own_kept_ne h.row h.o1 (by decide) hg).kept hg2 (own_ne_blk (own_kept_ne h.row h.o1 (by decide) hg) kx' (by decide))
 ·rw [iv_append];exact ho.kept hg2 (own_ne_blk ho kx' (by decide))
 ·exact o2'.kept hg2 (own_ne_blk o2' kx' (by decide))
 ·intro g e1 e2
  rcases hv with e | ⟨g',e,hlt⟩
  ·rw [e] at e1;exact h.apt g e1 e2
  ·rw [e] at e1
   injection e1 with e1
   have:=(h.o2.lt g e2).2
   omega
theorem ReK.push2 (h:ReK w x u pb o lb n w2 w6 W rb ob N D Rv m R rk v1 v2 q1 q2 l1 l2) {y:Int} (ho:W'.ownsRow w6.heap.size 3 1 v (q2 + 1) (iv l2 ++ [.int .i64 y])) (hg:W.grownBy W' v2.ownBlock) (hv:v.ownBlock = v2.ownBlock ∨ ∃ g,v.ownBlock = some g∧W.heap.size ≤ g) :
  ReK w x u pb o lb n w2 w6 (W'.setCell ⟨rb,1,none⟩ v) rb ob N D Rv m R rk v1 v q1 (q2 + 1) l1 (l2 ++ [y])∧Blk W' rb 81 (resc v1 v2 Rv rk):=by
 have kp:∀ {b:Nat} {t:TypeId} {vs:List Value},Blk W b t vs → t ≠ 3 → Blk W' b t vs:=fun hk ht=>hk.kept hg (blk_ne_own h.o2 hk (fun e=>ht e.symm))
 have kx':=kp h.kx (by decide)
 have hg2:=grown_setCell W' rb 1 v
 have ne:∀ {b:Nat} {t:TypeId} {vs:List Value},Blk W' b t vs → t ≠ 81 → Blk (W'.setCell ⟨rb,1,none⟩ v) b t vs:=fun hk ht=>hk.kept hg2 (fun e=>by injection e with e;exact blk_apart hk kx' ht e)
 have kd':Blk W' ob 3 (iv D):=h.kd.kept hg (fun e=>by have:=(h.o2.lt ob e.symm).1;have:=h.lo;omega)
 have o1':W'.ownsRow w6.heap.size 3 1 v1 q1 (iv l1):=h.o1.kept hg (by
  cases hq:v1.ownBlock with
  | none=>exact .inl rfl
  | some g=>exact .inr (fun e=>h.apt g hq e.symm))
 have hb1:Below w.heap.size w W':=h.bel.grown hg h.bel.size (fun j hj=>by have:=(h.o2.lt j hj).1;have:=h.l6;omega)
 refine ⟨⟨hb1.setCell (p:=⟨rb,1,none⟩) h.lr _,Nat.le_trans h.siz (Nat.le_trans hg.size hg2.size),ne (kp h.kp (by decide)) (by decide),ne (kp h.kl (by decide)) (by decide),ne kd' (by decide),kx'.set (j:=1) (by simp [resc]) _,?_,?_,?_,?_,h.lo,h.l6,h.lr,h.nl⟩,kx'⟩
 ·exact (own_kept_ne h.row h.o2 (by decide) hg).kept hg2 (own_ne_blk (own_kept_ne h.row h.o2 (by decide) hg) kx' (by decide))
 ·exact o1'.kept hg2 (own_ne_blk o1' kx' (by decide))
 ·rw [iv_append];exact ho.kept hg2 (own_ne_blk ho kx' (by decide))
 ·intro g e1 e2
  rcases hv with e | ⟨g',e,hlt⟩
  ·rw [e] at e2;exact h.apt g e1 e2
  ·rw [e] at e2
   injection e2 with e2
   have:=(h.o1.lt g e1).2
   omega
end
end Go.Proofs.Ytdnmpndnpfklcaa
