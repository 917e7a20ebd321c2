/- Walks: the graph's path: its plain facts and its memory. -/
import Derived.Test.YtdnmpndnpfklcaaUf
import Derived.Test.YtdnmpndnpfklcaaUc
import Derived.Deep.LoopGhost
import Derived.Deep.Cut

namespace Go.Proofs.Ytdnmpndnpfklcaa
open Go.RowKit Go
attribute [local go_sem] Oper.semAt_some
structure StW (n:Nat) (l:List Stp) (N:List Bool):Prop where
 pos:0 < l.length
 num:l.length + cntF N ≤ n
 nl:N.length = n
 rng:∀ t ∈ l,0 ≤ t.s∧t.s < (n:Int)
 back:∀ (k:Nat) (t:Stp),l[k]? = some t → t.f < (k:Int)∧-1 ≤ t.f
 evs:∀ t ∈ l,-1 ≤ t.e∧t.e < 32
theorem StW.start {n:Nat} {s:Int} (h0:0 ≤ s) (h1:s < (n:Int)):StW n [⟨s,-1,-1⟩] (fset (List.replicate n false) s):=by
 refine ⟨by simp,?_,by rw [fset_len,List.length_replicate],fun t ht=>?_,fun k t ht=>?_,fun t ht=>?_⟩
 ·have:=cntF_set (N:=List.replicate n false) (i:=s.toNat) (by rw [List.getElem?_replicate,if_pos (by omega)])
  have h2:=cntF_le (List.replicate n false)
  rw [List.length_replicate] at h2
  unfold fset
  simp only [List.length_singleton]
  omega
 ·rw [List.mem_singleton.1 ht];exact ⟨h0,h1⟩
 ·cases k with
  | zero =>
   have ht:(⟨s,-1,-1⟩:Stp) = t:=by simpa using ht
   subst ht
   exact ⟨by show (-1:Int) < _;omega,Int.le_refl _⟩
  | succ k=>simp at ht
 ·rw [List.mem_singleton.1 ht];exact ⟨Int.le_refl _,by show (-1:Int) < 32;omega⟩
theorem StW.push {n:Nat} {l:List Stp} {N:List Bool} (h:StW n l N) {x:Ed} {i:Nat} (hi:i < l.length) (h0:0 ≤ x.t) (h1:x.t < (n:Int)) (h2:0 ≤ x.e) (h3:x.e < 32) (hf:fl N x.t = false):StW n (l ++ [⟨x.t,i,x.e⟩]) (fset N x.t):=by
 have hN:=h.nl
 refine ⟨by simp,?_,by rw [fset_len];exact h.nl,fun t ht=>?_,fun k t ht=>?_,fun t ht=>?_⟩
 ·have hg:N[x.t.toNat]? = some false:=by
   have h4:x.t.toNat < N.length:=by omega
   unfold fl at hf
   rw [List.getD_eq_getElem?_getD,List.getElem?_eq_getElem h4] at hf
   rw [List.getElem?_eq_getElem h4]
   exact congrArg some hf
  have h5:=cntF_set hg
  have h6:=h.num
  unfold fset
  simp only [List.length_append,List.length_singleton]
  omega
 ·rcases List.mem_append.1 ht with ht | ht
  ·exact h.rng t ht
  ·rw [List.mem_singleton.1 ht];exact ⟨h0,h1⟩
 ·by_cases hk:k < l.length
  ·rw [List.getElem?_append_left hk] at ht;exact h.back k t ht
  ·rw [List.getElem?_append_right (by omega)] at ht
   have hk0:k - l.length = 0:=by
    have:=(List.getElem?_eq_some_iff.1 ht).1
    simpa using this
   rw [hk0] at ht
   have ht:(⟨x.t,i,x.e⟩:Stp) = t:=by simpa using ht
   subst ht
   exact ⟨by show ((i:Nat):Int) < _;omega,by show (-1:Int) ≤ (i:Int);omega⟩
 ·rcases List.mem_append.1 ht with ht | ht
  ·exact h.evs t ht
  ·rw [List.mem_singleton.1 ht];exact ⟨by show -1 ≤ x.e;omega,h3⟩
theorem rowS_pos {perm:Ed → Bool} {i:Nat} {x:Ed} {r:List Ed} {l:List Stp} {N:List Bool} (h:fl N x.t = false∧perm x = true):rowS perm i (x :: r) l N = rowS perm i r (l ++ [⟨x.t,i,x.e⟩]) (fset N x.t):=by
 rw [rowS,if_pos h]
theorem rowS_neg {perm:Ed → Bool} {i:Nat} {x:Ed} {r:List Ed} {l:List Stp} {N:List Bool} (h:¬ (fl N x.t = false∧perm x = true)):rowS perm i (x :: r) l N = rowS perm i r l N:=by
 rw [rowS,if_neg h]
theorem rowS_app {perm:Ed → Bool} {i:Nat}:∀ (r1 r2:List Ed) (l:List Stp) (N:List Bool),rowS perm i (r1 ++ r2) l N = rowS perm i r2 (rowS perm i r1 l N).1 (rowS perm i r1 l N).2
 | [],_,_,_=>rfl
 | x :: r1,r2,l,N=>by
  rw [List.cons_append]
  by_cases h:fl N x.t = false∧perm x = true
  ·rw [rowS_pos h,rowS_pos h];exact rowS_app r1 r2 _ _
  ·rw [rowS_neg h,rowS_neg h];exact rowS_app r1 r2 l N
theorem rowS_no {perm:Ed → Bool} {i:Nat} {pre:List Ed} {e:Ed} {l l':List Stp} {N N':List Bool} (h:rowS perm i pre l N = (l',N')) (hn:¬ (fl N' e.t = false∧perm e = true)):rowS perm i (pre ++ [e]) l N = (l',N'):=by
 rw [rowS_app,h]
 exact rowS_neg hn
theorem rowS_yes {perm:Ed → Bool} {i:Nat} {pre:List Ed} {e:Ed} {l l':List Stp} {N N':List Bool} (h:rowS perm i pre l N = (l',N')) (hn:fl N' e.t = false∧perm e = true):rowS perm i (pre ++ [e]) l N = (l' ++ [⟨e.t,i,e.e⟩],fset N' e.t):=by
 rw [rowS_app,h]
 exact rowS_pos hn
theorem edges_stops (m:Nat) (hm:1 ≤ m) (bg bs n₀ n s ba:Nat) (x:AV) (hs:s < n) (w:World) (hg:Blk w bg 105 (grc x ba n)) (hbs:Blk w bs 3 [.int .i64 (s:Int)]) (hr:GrR w n₀ x ba n) (hn0:n₀ ≤ w.heap.size) :
  SeqStopsK Fence.wide m Try.prog 89 #[.pointer (some ⟨bg,0,none⟩),.pointer (some ⟨bs,0,none⟩)] (fun e:{ e:Ed // e ∈ outE x.a s }=>#[evl e.1]) (KpG n₀ bg bs) (fun ys=>ys.map Subtype.val = outE x.a s) (fun _=>True) (outE x.a s).length w:=by
 intro l J Jx W hW hJ _ hY h0
 refine (edges1_in m hm l bg bs n₀ n s ba x hs (fun pre V=>∃ q:List { e:Ed // e ∈ outE x.a s },q.map Subtype.val = pre∧J q V) (fun pre V=>∃ q:List { e:Ed // e ∈ outE x.a s },q.map Subtype.val = pre∧Jx q V) W ?_ ?_ (hg.below hW hg.lt) (hbs.below hW hbs.lt) (hr.keep (hW.mono hn0)) (by have:=hW.size;omega) ⟨[],rfl,h0⟩).mono ?_
 ·rintro pre e W1 he ⟨q,rfl,hq⟩ hlen
  obtain ⟨fn,tmps,assign,body,hy,hR⟩:=hY q ⟨e,he⟩ W1 hq (by simpa using hlen)
  refine ⟨fn,tmps,assign,body,hy,hR.mono ?_⟩
  rintro r W' (⟨rfl,h1,h2⟩ | ⟨rfl,h1⟩)
  ·exact .inl ⟨rfl,⟨q ++ [⟨e,he⟩],by simp,h1⟩,h2⟩
  ·exact .inr ⟨rfl,q ++ [⟨e,he⟩],by simp,h1⟩
 ·rintro pre V V' row ⟨q,hq1,hq2⟩ hgr hrw
  exact ⟨q,hq1,hJ q V V' row hq2 hgr hrw⟩
 ·rintro e W' ⟨hv,⟨ys,rfl,q,hq1,hq2⟩ | ⟨pre,_,q,_,hq2⟩⟩
  ·exact ⟨hv,.inl ⟨q,hq1,hq2⟩⟩
  ·exact ⟨hv,.inr ⟨q,trivial,hq2⟩⟩
theorem leaves_marksI {F:Fence} {n:Nat} {P:Program} {fn:Func} {tmps:Array Value} {R:Ending → World → Prop} {B:Nat} (I:World → Prop) (hI:∀ W D,I W → B ≤ D → W.heap[D]? = some (.deferred (some [])) → I (W.putObj D (.deferred none))):∀ (ds:List Nat) (w:World),ds.Nodup → (∀ D ∈ ds,B ≤ D∧w.heap[D]? = some (.deferred (some []))) → I w →
  (∀ w',I w' → LeavesIn F n P fn tmps R [] .returning w') → LeavesInM F n P fn tmps R (marks ds) .returning w
 | [],w,_,_,hw,h=>h w hw
 | D :: ds,w,hn,hd,hw,h=>by
  obtain ⟨hn1,hn2⟩:=List.nodup_cons.1 hn
  obtain ⟨hB,hD⟩:=hd D (List.mem_cons_self ..)
  refine ⟨by simp,.inl ⟨D,_,rfl,run_takeDeferred hD,?_⟩⟩
  refine leaves_marksI I hI ds _ hn2 (fun E hE=>?_) (hI w D hw hB hD) h
  obtain ⟨h1,h2⟩:=hd E (List.mem_cons_of_mem _ hE)
  refine ⟨h1,((grownBy_putObj' w D (.deferred none)).block E (Array.getElem?_eq_some_iff.1 h2).1 ?_).trans h2⟩
  intro e
  injection e with e
  subst e
  exact hn1 hE
section
variable {w w':World}
theorem Blk.ncl {b:Nat} {t:TypeId} {vs:List Value} (h:Blk w b t vs) {row:Option Nat} (hg:w.grownBy w' row) (hr:∀ r,row = some r → ∃ o:Obj,w.heap[r]? = some o∧o.isCells = false):Blk w' b t vs:=by
 refine h.kept hg fun e=>?_
 obtain ⟨o,ho,hc⟩:=hr b e.symm
 rw [show w.heap[b]? = _ from h] at ho
 injection ho with ho
 subst ho
 cases hc
theorem own_ncl {base:Nat} {e:TypeId} {size n:Nat} {v:Value} {xs:List Value} (h:w.ownsRow base e size v n xs) {row:Option Nat} (hg:w.grownBy w' row) (hr:∀ r,row = some r → ∃ o:Obj,w.heap[r]? = some o∧o.isCells = false):w'.ownsRow base e size v n xs:=by
 refine h.kept hg ?_
 rcases h.2 with ⟨rfl,_⟩ | ⟨g,cap,cur,rfl,_,hg2,_⟩
 ·exact .inl rfl
 ·right
  intro e0
  simp only [Value.ownBlock] at e0
  obtain ⟨o,ho,hc⟩:=hr g e0.symm
  rw [hg2] at ho
  injection ho with ho
  subst ho
  cases hc
end
def stc (t:Stp):List Value:=[.int .i64 t.s,.int .i64 t.f,.int .i64 t.e]
structure PtM (w W:World) (x:AV) (ba n:Nat) (pv:Value) (ds:List Nat) (bI i:Nat) (A:Option Addr) (c m:Nat) (l:List Stp) (N:List Bool):Prop where
 bel:Below w.heap.size w W
 g:Blk W w.heap.size 105 (grc x ba n)
 p:Blk W (w.heap.size + 1) 115 [pv]
 b10:Blk W (w.heap.size + 3) 188 [.slice A m c]
 row:W.ownsRow w.heap.size 187 3 (.slice A m c) m (l.flatMap stc)
 bn:Blk W (w.heap.size + 4) 4 (bvl N)
 b11:Blk W (w.heap.size + 5) 87 [.slice (some ⟨w.heap.size + 4,0,none⟩) n n]
 bi:Blk W bI 3 [.int .i64 (i:Int)]
 lti:w.heap.size + 6 ≤ bI
 len:l.length = m
 nd:ds.Nodup
 mrk:∀ D ∈ ds,w.heap.size ≤ D∧W.heap[D]? = some (.deferred (some []))
section
variable {w W W':World} {x:AV} {ba n:Nat} {pv:Value} {ds:List Nat} {bI i:Nat} {A:Option Addr} {c m:Nat} {l:List Stp} {N:List Bool}
theorem PtM.siz (h:PtM w W x ba n pv ds bI i A c m l N):w.heap.size + 6 < W.heap.size:=by have:=h.bi.lt;have:=h.lti;omega
theorem PtM.quiet (h:PtM w W x ba n pv ds bI i A c m l N) (hb:Below W.heap.size W W'):PtM w W' x ba n pv ds bI i A c m l N :=
 have hs:=h.siz
 ⟨h.bel.trans (hb.mono (by omega)),h.g.below hb h.g.lt,h.p.below hb h.p.lt,h.b10.below hb h.b10.lt,own_below h.row hb,h.bn.below hb h.bn.lt,h.b11.below hb h.b11.lt,h.bi.below hb h.bi.lt,h.lti,h.len,h.nd,
  fun D hD=>⟨(h.mrk D hD).1,(hb.block D (Array.getElem?_eq_some_iff.1 (h.mrk D hD).2).1).trans (h.mrk D hD).2⟩⟩
theorem PtM.ncl (h:PtM w W x ba n pv ds bI i A c m l N) {row:Option Nat} {B:Nat} (hg:W.grownBy W' row) (hr:∀ r,row = some r → B ≤ r∧∃ o:Obj,W.heap[r]? = some o∧o.isCells = false) (hB:∀ D ∈ ds,D < B) (hwB:w.heap.size ≤ B):PtM w W' x ba n pv ds bI i A c m l N :=
 have hs:=h.siz
 have hr':=fun r e=>(hr r e).2
 ⟨h.bel.grown hg (by omega) (fun k e=>by have:=(hr k e).1;omega),h.g.ncl hg hr',h.p.ncl hg hr',h.b10.ncl hg hr',own_ncl h.row hg hr',h.bn.ncl hg hr',h.b11.ncl hg hr',h.bi.ncl hg hr',h.lti,h.len,h.nd,
  fun D hD=>⟨(h.mrk D hD).1,(hg.block D (Array.getElem?_eq_some_iff.1 (h.mrk D hD).2).1 (fun e=>by have:=(hr D e.symm).1;have:=hB D hD;omega)).trans (h.mrk D hD).2⟩⟩
theorem mark_cells {D b:Nat} {t:TypeId} {vs:List Value} (hm:W.heap[D]? = some (.deferred (some []))) (hb:Blk W b t vs) (hg:W.grownBy W' (some b)):W'.heap[D]? = some (.deferred (some [])):=by
 refine (hg.block D (Array.getElem?_eq_some_iff.1 hm).1 ?_).trans hm
 intro e
 injection e with e
 subst e
 rw [show W.heap[D]? = _ from hb] at hm
 cases hm
theorem mark_own {D base:Nat} {e:TypeId} {size n:Nat} {v:Value} {xs:List Value} (hm:W.heap[D]? = some (.deferred (some []))) (h:W.ownsRow base e size v n xs) (hg:W.grownBy W' v.ownBlock):W'.heap[D]? = some (.deferred (some [])):=by
 refine (hg.block D (Array.getElem?_eq_some_iff.1 hm).1 ?_).trans hm
 rcases h.2 with ⟨rfl,_⟩ | ⟨g,cap,cur,rfl,_,hg2,_⟩
 ·simp [Value.ownBlock]
 ·intro e0
  simp only [Value.ownBlock,Option.some.injEq] at e0
  subst e0
  rw [hg2] at hm
  cases hm
theorem PtM.flag (h:PtM w W x ba n pv ds bI i A c m l N) {s:Int} (h0:0 ≤ s) (h1:s < (N.length:Int)):PtM w (W.setCell ⟨w.heap.size + 4,s.toNat,none⟩ (.bool true)) x ba n pv ds bI i A c m l (fset N s):=by
 have hg:=grown_setCell W (w.heap.size + 4) s.toNat (.bool true)
 have hl:=h.lti
 have hne:∀ k,k ≠ w.heap.size + 4 → some k ≠ some (w.heap.size + 4):=fun k hk e=>hk (by injection e)
 have hset:=h.bn.set (j:=s.toNat) (by rw [bvl_length];omega) (.bool true)
 rw [bvl_set] at hset
 exact ⟨h.bel.setCell (p:=⟨w.heap.size + 4,s.toNat,none⟩) (by show w.heap.size ≤ w.heap.size + 4;omega) _,h.g.kept hg (hne _ (by omega)),h.p.kept hg (hne _ (by omega)),h.b10.kept hg (hne _ (by omega)),h.row.kept hg (own_ne_blk h.row h.bn (by decide)),hset,h.b11.kept hg (hne _ (by omega)),h.bi.kept hg (hne _ (by omega)),h.lti,h.len,h.nd,
  fun D hD=>⟨(h.mrk D hD).1,mark_cells (h.mrk D hD).2 h.bn hg⟩⟩
theorem PtM.push (h:PtM w W x ba n pv ds bI i A c m l N) {A':Option Addr} {c':Nat} {t:Stp} (ho:W'.ownsRow w.heap.size 187 3 (.slice A' (m + 1) c') (m + 1) (l.flatMap stc ++ stc t)) (hg:W.grownBy W' (Value.slice A m c).ownBlock) :
  PtM w (W'.setCell ⟨w.heap.size + 3,0,none⟩ (.slice A' (m + 1) c')) x ba n pv ds bI i A' c' (m + 1) (l ++ [t]) N:=by
 have hl:=h.lti
 have hsz:=h.siz
 have hs:=grown_setCell W' (w.heap.size + 3) 0 (.slice A' (m + 1) c')
 have hne:∀ k,k ≠ w.heap.size + 3 → some k ≠ some (w.heap.size + 3):=fun k hk e=>hk (by injection e)
 have k10:=h.b10.kept hg (blk_ne_own h.row h.b10 (by decide))
 have kn:=h.bn.kept hg (blk_ne_own h.row h.bn (by decide))
 exact ⟨(h.bel.grown hg (by omega) (fun j hj=>(h.row.lt j hj).1)).setCell (p:=⟨w.heap.size + 3,0,none⟩) (by show w.heap.size ≤ w.heap.size + 3;omega) _,
  (h.g.kept hg (blk_ne_own h.row h.g (by decide))).kept hs (hne _ (by omega)),(h.p.kept hg (blk_ne_own h.row h.p (by decide))).kept hs (hne _ (by omega)),k10.set (j:=0) (by simp) _,
  by have h1:=ho.kept hs (own_ne_blk ho k10 (by decide));simpa using h1,kn.kept hs (hne _ (by omega)),(h.b11.kept hg (blk_ne_own h.row h.b11 (by decide))).kept hs (hne _ (by omega)),(h.bi.kept hg (blk_ne_own h.row h.bi (by decide))).kept hs (hne _ (by omega)),h.lti,by simp [h.len],h.nd,
  fun D hD=>⟨(h.mrk D hD).1,mark_cells (mark_own (h.mrk D hD).2 h.row hg) k10 hs⟩⟩
theorem PtM.next (h:PtM w W x ba n pv ds bI i A c m l N) {D:Nat} (hD:W.heap[D]? = some (.deferred (some []))) (hwD:w.heap.size ≤ D) (hnew:D ∉ ds):PtM w (W.alloc (.cells #[.int .i64 ((i + 1:Nat):Int)] 3)) x ba n pv (D :: ds) W.heap.size (i + 1) A c m l N:=by
 have hb:=box_below W (.cells #[.int .i64 ((i + 1:Nat):Int)] 3)
 have hq:=h.quiet hb
 have hsz:=h.siz
 refine ⟨hq.bel,hq.g,hq.p,hq.b10,hq.row,hq.bn,hq.b11,Blk.new _ _ [_],by omega,h.len,List.nodup_cons.2 ⟨hnew,h.nd⟩,fun E hE=>?_⟩
 rcases List.mem_cons.1 hE with rfl | hE
 ·exact ⟨hwD,(hb.block E (Array.getElem?_eq_some_iff.1 hD).1).trans hD⟩
 ·exact hq.mrk E hE
end
def RetPth (RES:Option (List Int)) (w:World) (e:Ending) (w':World):Prop:=match RES with
 | none=>e = .returned (.tuple #[.slice none 0 0,.bool false])∧Below w.heap.size w w'
 | some ws=>∃ v,e = .returned (.tuple #[v,.bool true])∧w'.ownsRow w.heap.size 3 1 v ws.length (iv ws)∧Below w.heap.size w w'
theorem bckS_any {n:Nat} {l:List Stp} {N:List Bool} (h:StW n l N):∀ (k g1 g2:Nat),k < g1 → k < g2 → bckS l g1 k = bckS l g2 k:=by
 intro k
 induction k using Nat.strongRecOn with
 | ind k ih =>
  intro g1 g2 h1 h2
  obtain ⟨g1,rfl⟩:∃ c,g1 = c + 1:=⟨g1 - 1,by omega⟩
  obtain ⟨g2,rfl⟩:∃ c,g2 = c + 1:=⟨g2 - 1,by omega⟩
  unfold bckS
  rw [Int.toNat_natCast]
  cases hk:l[k]? with
  | none=>rfl
  | some t =>
   simp only
   by_cases hf:t.f < 0
   ·rw [if_pos hf,if_pos hf]
   ·rw [if_neg hf,if_neg hf]
    have hb:=(h.back k t hk).1
    have:=ih t.f.toNat (by omega) g1 g2 (by omega) (by omega)
    rw [show ((t.f.toNat:Nat):Int) = t.f by omega] at this
    rw [this]
theorem bckS_stop {l:List Stp} {k g:Nat} {t:Stp} (hk:l[k]? = some t) (hf:t.f < 0):bckS l (g + 1) k = []:=by
 unfold bckS
 rw [Int.toNat_natCast,hk]
 simp only
 rw [if_pos hf]
theorem bckS_go {n:Nat} {l:List Stp} {N:List Bool} (h:StW n l N) {k kf:Nat} {t:Stp} (hk:l[k]? = some t) (hf:t.f = (kf:Int)):bckS l (k + 1) k = t.e :: bckS l (kf + 1) kf:=by
 have hb:=(h.back k t hk).1
 have e:=bckS_any h kf k (kf + 1) (by omega) (by omega)
 rw [← e]
 conv=>lhs;unfold bckS
 rw [Int.toNat_natCast,hk]
 simp only
 rw [if_neg (by omega),hf]
def noPanic (Q:Exit → Act → World → Prop):Exit → Act → World → Prop
 | .panic _,_,_=>False
 | e,a,w=>Q e a w
theorem noPanic_le {Q:Exit → Act → World → Prop}:∀ e a w,noPanic Q e a w → Q e a w
 | .normal,_,_,h=>h
 | .exit _,_,_,h=>h
 | .goto _,_,_,h=>h
 | .ret,_,_,h=>h
 | .panic _,_,_,h=>h.elim
 | .outgrown,_,_,h=>h
theorem stp_info:(Try.prog.info? 187).map (fun i=>(i.zero,i.size,i.bytes)) = some (some (.agg #[.int .i64 0,.int .i64 0,.int .i64 0]),3,24):=by kernel_rfl
theorem own_cells {w:World} {base:Nat} {e:TypeId} {size n:Nat} {v:Value} {xs:List Value} (h:w.ownsRow base e size v n xs):∀ (j:Nat) (o:Obj),v.ownBlock = some j → w.heap[j]? = some o → o.isCells = true:=by
 intro j o hj ho
 rcases h.2 with ⟨rfl,_⟩ | ⟨g,cap,cur,rfl,_,hg2,_⟩
 ·cases hj
 ·simp only [Value.ownBlock,Option.some.injEq] at hj
  subst hj
  rw [hg2] at ho
  injection ho with ho
  subst ho
  rfl
end Go.Proofs.Ytdnmpndnpfklcaa
/- Walks: slices.Reverse at ints (as in chapter 26's text). -/
namespace Go.Proofs.Ytdnmpndnpfklcaa
open Go.RowKit Go
def revM (l m:List Int) (i:Nat):Prop:=m.length = l.length∧∀ k,k < l.length → m[k]? = if k < i ∨ l.length ≤ k + i then l[l.length - 1 - k]? else l[k]?
theorem revM_start (l:List Int):revM l l 0:=⟨rfl,fun k hk=>by rw [if_neg (by omega)]⟩
theorem revM_end {l m:List Int} {i:Nat} (h:revM l m i) (hi:l.length ≤ 2 * i + 1):m = l.reverse:=by
 refine List.ext_getElem? fun k=>?_
 by_cases hk:k < l.length
 ·rw [h.2 k hk,List.getElem?_reverse hk]
  by_cases hc:k < i ∨ l.length ≤ k + i
  ·rw [if_pos hc]
  ·rw [if_neg hc,show l.length - 1 - k = k by omega]
 ·rw [List.getElem?_eq_none (by rw [h.1];omega),List.getElem?_eq_none (by rw [List.length_reverse];omega)]
theorem revM_step {l m:List Int} {i j:Nat} {a b:Int} (h:revM l m i) (hj:i + j + 1 = l.length) (hi:i < j) (ha:m[i]? = some a) (hb:m[j]? = some b):revM l ((m.set i b).set j a) (i + 1):=by
 refine ⟨by rw [List.length_set,List.length_set,h.1],fun k hk=>?_⟩
 have h1:=h.2 i (by omega)
 have h2:=h.2 j (by omega)
 rw [if_neg (by omega),ha] at h1
 rw [if_neg (by omega),hb] at h2
 rw [List.getElem?_set,List.getElem?_set]
 by_cases hkj:j = k
 ·subst hkj
  rw [if_pos rfl,if_pos (by rw [List.length_set,h.1];omega),if_pos (by omega),show l.length - 1 - j = i by omega,← h1]
 ·rw [if_neg hkj]
  by_cases hki:i = k
  ·subst hki
   rw [if_pos rfl,if_pos (by rw [h.1];omega),if_pos (by omega),show l.length - 1 - i = j by omega,← h2]
  ·rw [if_neg hki,h.2 k hk]
   by_cases hc:k < i ∨ l.length ≤ k + i
   ·rw [if_pos hc,if_pos (by omega)]
   ·rw [if_neg hc,if_neg (by omega)]
theorem grown_refl (w:World) (r:Option Nat):w.grownBy w r:=⟨rfl,rfl,rfl,Nat.le_refl _,fun _ _ _=>rfl⟩
set_option maxHeartbeats 1600000 in
theorem reverse_blk (g n c:Nat) (l:List Int) (rest:List Value) (w:World) (hl:l.length = n) (h:Blk w g 3 (iv l ++ rest)) (hn:n ≤ 1000000) :
  Calls Try.prog 90 #[.slice (some ⟨g,0,none⟩) n c] w fun e w'=>e = .returned (.tuple #[])∧Blk w' g 3 (iv l.reverse ++ rest)∧w.grownBy w' (some g):=by
 have HL:=Lib.hid hl;clear hl
 have HB:=Lib.hid h;clear h
 go_enter Try.func90,Try.ntmps90
 go_wp2
 go_loopw [2,3] (fun s2 s3 wr=>∃ (i:Nat) (m:List Int),s2 = .int .i64 i∧s3 = .int .i64 ((n:Int) - 1 - i)∧i ≤ n∧Hid (revM l m i)∧Hid (Blk wr g 3 (iv m ++ rest))∧Hid (w.grownBy wr (some g))) (fun s2 _ _=>n - (intOf s2).toNat)
 case atStart=>exact ⟨0,l,rfl,by go_num,Nat.zero_le _,Lib.hid (revM_start l),HB,Lib.hid (grown_refl _ _)⟩
 case round =>
  clear HB
  obtain ⟨i,m,rfl,rfl,hi,HR,HM,HG⟩:=hrel
  by_cases hlt:(i:Int) < (n:Int) - 1 - i
  ·obtain ⟨j,hj⟩:∃ j:Nat,(n:Int) - 1 - i = j:=⟨n - 1 - i,by omega⟩
   have hjn:i + j + 1 = n:=by omega
   rw [hj] at hlt ⊢
   have HJ:=Lib.hid hj
   have hml:m.length = n:=HR.out.1.trans HL.out
   obtain ⟨a,ha⟩:∃ a,m[i]? = some a:=⟨_,List.getElem?_eq_getElem (by omega)⟩
   obtain ⟨b,hb⟩:∃ b,m[j]? = some b:=⟨_,List.getElem?_eq_getElem (by omega)⟩
   have b0:(i:Int) < (n:Int):=by omega
   have b1:(j:Int) < (n:Int):=by omega
   have hm1:=HM.out.below (below_dr wr) HM.out.lt
   have hg1:=HG.out.trans (grown_below (below_dr wr) (some g))
   have hrv:=revM_step HR.out (by rw [HL.out];exact hjn) (by omega) ha hb
   go_upto_region 3 with fail
   refine wp_region_U (fun _=>True) (fun W=>W.cell? ⟨g,j,none⟩ = some (.int .i64 b)∧W.cell? ⟨g,i,none⟩ = some (.int .i64 a)) 13 (by kernel_rfl) ?_
   change anyU _ _ _ _ _ _ _ 16 _ _ _
   generalize wr.drew = wd at hm1 hg1 ⊢
   have ga:wd.cell? ⟨g,i,none⟩ = some (.int .i64 a):=hm1.cell (by rw [List.getElem?_append_left (by rw [iv_length];omega),iv_get,ha];rfl)
   have gb:wd.cell? ⟨g,j,none⟩ = some (.int .i64 b):=hm1.cell (by rw [List.getElem?_append_left (by rw [iv_length];omega),iv_get,hb];rfl)
   have hm2:=hm1.set (j:=i) (by rw [List.length_append,iv_length];omega) (.int .i64 b)
   rw [List.set_append,if_pos (by rw [iv_length];omega),iv_set] at hm2
   have hm3:=hm2.set (j:=j) (by rw [List.length_append,iv_length,List.length_set];omega) (.int .i64 a)
   rw [List.set_append,if_pos (by rw [iv_length,List.length_set];omega),iv_set] at hm3
   have fa:=hm1.free i
   have lg:=hm1.lt
   have fb:=hm2.free j
   have lb:=hm2.lt
   have HM3:=Lib.hid hm3
   have HG3:=Lib.hid ((hg1.trans (grown_setCell _ _ i (.int .i64 b))).trans (grown_setCell _ _ j (.int .i64 a)))
   have HRV:=Lib.hid hrv
   clear hm1 hm2 hm3 hg1 hrv ha hb hml HM HG HR hj
   have hA0:True:=trivial
   have hB0:wd.cell? ⟨g,j,none⟩ = some (.int .i64 b)∧wd.cell? ⟨g,i,none⟩ = some (.int .i64 a):=⟨gb,ga⟩
   (refine uA 0 ?_ rfl hA0 hB0 (fun W hA=>?_) ?_;rotate_left;(· (go_simp;try with_reducible rfl));refine uA 1 ?_ rfl hA0 hB0 (fun W hA=>?_) ?_;rotate_left;(· (go_simp;try with_reducible rfl));refine uA 2 ?_ rfl hA0 hB0 (fun W hA=>?_) ?_;rotate_left;(· (go_simp;try with_reducible rfl));refine uA 3 ?_ rfl hA0 hB0 (fun W hA=>?_) ?_;rotate_left;(· (go_simp;try with_reducible rfl));refine uA 4 ?_ rfl hA0 hB0 (fun W hA=>?_) ?_;rotate_left;(· (go_simp;try with_reducible rfl));refine uA 5 ?_ rfl hA0 hB0 (fun W hA=>?_) ?_;rotate_left;(· (go_simp;try with_reducible rfl));refine uA 6 ?_ rfl hA0 hB0 (fun W hA=>?_) ?_;rotate_left;(· (go_simp;try with_reducible rfl));(try simp only [Act.put,List.setIfInBounds_toArray,List.set_cons_zero,List.set_cons_succ]))
   (refine uB 7 ?_ rfl hA0 hB0 (fun W hA hB=>?_) ?_;rotate_left;(· (go_simp;try with_reducible rfl));(try simp only [Act.put,List.setIfInBounds_toArray,List.set_cons_zero,List.set_cons_succ]))
   (refine uA 8 ?_ rfl hA0 hB0 (fun W hA=>?_) ?_;rotate_left;(· (go_simp;try with_reducible rfl));refine uA 9 ?_ rfl hA0 hB0 (fun W hA=>?_) ?_;rotate_left;(· (go_simp;try with_reducible rfl));refine uA 10 ?_ rfl hA0 hB0 (fun W hA=>?_) ?_;rotate_left;(· (go_simp;try with_reducible rfl));(try simp only [Act.put,List.setIfInBounds_toArray,List.set_cons_zero,List.set_cons_succ]))
   (refine uB 11 ?_ rfl hA0 hB0 (fun W hA hB=>?_) ?_;rotate_left;(· (go_simp;try with_reducible rfl));(try simp only [Act.put,List.setIfInBounds_toArray,List.set_cons_zero,List.set_cons_succ]))
   (refine uA 12 ?_ rfl hA0 hB0 (fun W hA=>?_) ?_;rotate_left;(· (go_simp;try with_reducible rfl));(try simp only [Act.put,List.setIfInBounds_toArray,List.set_cons_zero,List.set_cons_succ]))
   refine uOne (i:=13) rfl (by kernel_rfl) (fun K hK=>?_)
   go_simp
   (refine hK _ _ ⟨hA0,fun h=>absurd (h.symm.trans (by kernel_rfl:_ = true)) Bool.false_ne_true⟩ ?_;clear hK K;(try simp only [Act.put,List.setIfInBounds_toArray,List.set_cons_zero,List.set_cons_succ]))
   refine uOne (i:=14) rfl (by kernel_rfl) (fun K hK=>?_)
   go_simp
   (refine hK _ _ ⟨hA0,fun h=>absurd (h.symm.trans (by kernel_rfl:_ = true)) Bool.false_ne_true⟩ ?_;clear hK K;(try simp only [Act.put,List.setIfInBounds_toArray,List.set_cons_zero,List.set_cons_succ]))
   refine uOne (i:=15) rfl (by kernel_rfl) (fun K hK=>?_)
   go_simp
   (refine hK _ _ ⟨hA0,fun h=>absurd (h.symm.trans (by kernel_rfl:_ = true)) Bool.false_ne_true⟩ ?_;clear hK K;(try simp only [Act.put,List.setIfInBounds_toArray,List.set_cons_zero,List.set_cons_succ]))
   refine anyU_done (by kernel_rfl) ?_ _
   clear hA0 hB0
   go_wp2
   go_roundw
   case rel=>exact ⟨i + 1,_,by go_num,by have:=HJ.out;go_num,by omega,HRV,HM3,HG3⟩
   case measure=>simp [intOf];omega
  ·have he:=revM_end HR.out (by rw [HL.out];omega)
   have hm:=HM.out
   rw [he] at hm
   have HMM:=Lib.hid hm;clear hm
   clear he
   go_wp2
   go_end0
   exact ⟨rfl,HMM.out,HG.out⟩
theorem reverse_nil (w:World):Calls Try.prog 90 #[.slice none 0 0] w fun e w'=>e = .returned (.tuple #[])∧w = w':=by
 go_enter Try.func90,Try.ntmps90
 go_wp2
 go_loopw [2,3] (fun s2 s3 wr=>s2 = .int .i64 0∧s3 = .int .i64 (-1)∧w = wr) (fun s2 _ _=>0)
 case atStart=>exact ⟨rfl,rfl,rfl⟩
 case round =>
  obtain ⟨rfl,rfl,rfl⟩:=hrel
  go_wp2
  go_end0
  exact ⟨rfl,rfl⟩
theorem reverse_own (base n:Nat) (v:Value) (l:List Int) (w:World) (h:w.ownsRow base 3 1 v n (iv l)) (hl:l.length = n) (hn:n ≤ 1000000) :
  Calls Try.prog 90 #[v] w fun e w'=>e = .returned (.tuple #[])∧w'.ownsRow base 3 1 v n (iv l.reverse)∧w.grownBy w' v.ownBlock:=by
 rcases h.2 with ⟨rfl,rfl⟩ | ⟨g,cap,cur,rfl,hb,hg,h1,h2,h3,h4⟩
 ·obtain rfl:l = []:=List.eq_nil_of_length_eq_zero hl
  exact (reverse_nil w).mono fun e w' ⟨he,hw⟩=>by subst hw;exact ⟨he,h,grown_refl _ _⟩
 ·rw [Nat.mul_one] at h3 h4
  have hk:Blk w g 3 (iv l ++ cur.toList.drop n):=by
   show w.heap[g]? = _
   rw [hg,← h4,List.take_append_drop]
  refine (reverse_blk g n cap l (cur.toList.drop n) w hl hk hn).mono fun e w' ⟨he,hk',hgr⟩=>⟨he,⟨by rw [iv_length,List.length_reverse,hl];omega,.inr ⟨g,cap,(iv l.reverse ++ cur.toList.drop n).toArray,rfl,hb,hk',h1,h2,?_,?_⟩⟩,hgr⟩
  ·rw [List.size_toArray,List.length_append,iv_length,List.length_reverse,hl,List.length_drop,Array.length_toList];omega
  ·show (iv l.reverse ++ cur.toList.drop n).take _ = _
   rw [Nat.mul_one,List.take_append_of_le_length (by rw [iv_length,List.length_reverse];omega),List.take_of_length_le (by rw [iv_length,List.length_reverse];omega)]
end Go.Proofs.Ytdnmpndnpfklcaa
