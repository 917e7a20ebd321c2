/- A queue: a row of ints whose head is taken off by slicing. -/
import Derived.Test.YtdnmpndnpfklcaaUe
import Derived.Deep.AppendSrc
import Derived.Maps.AppendAt
import Derived.OwnWalkIn
import Derived.Test.YtdnmpndnpfklcaaUh
import Derived.Test.YtdnmpndnpfklcaaUj
import Derived.BigQuiet
namespace Go.Proofs.Ytdnmpndnpfklcaa
open Go.RowKit Go
def QRow (w:World) (base:Nat) (v:Value) (n:Nat) (l:List Int):Prop :=
  l.length = n∧((v = .slice none 0 0∧n = 0) ∨ ∃ g q cap cs,v = .slice (some ⟨g,q,none⟩) n cap∧base ≤ g∧Blk w g 3 cs∧n ≤ cap∧cap ≤ maxLen∧q + cap ≤ cs.length∧(cs.drop q).take n = iv l)
theorem QRow.of_own {w:World} {base n:Nat} {v:Value} {l:List Int} (h:w.ownsRow base 3 1 v n (iv l)):QRow w base v n l:=by
  obtain ⟨h1,h2⟩:=h
  rw [iv_length,Nat.mul_one] at h1
  refine ⟨h1,?_⟩
  rcases h2 with h2 | ⟨g,cap,cur,h3,h4,h5,h6,h7,h8,h9⟩
  · exact .inl h2
  · refine .inr ⟨g,0,cap,cur.toList,h3,h4,by unfold Blk;exact h5,h6,h7,by rw [Array.length_toList];omega,?_⟩
    rw [List.drop_zero,← h9,Nat.mul_one]
theorem QRow.tail {w:World} {base n g q cap:Nat} {l:List Int} {x:Int} (h:QRow w base (.slice (some ⟨g,q,none⟩) (n + 1) cap) (n + 1) (x :: l)) :
    QRow w base (.slice (if cap = 1 then some ⟨g,q,none⟩ else some ⟨g,q + 1,none⟩) n (cap - 1)) n l:=by
  obtain ⟨h1,h2⟩:=h
  refine ⟨by simpa using h1,?_⟩
  rcases h2 with ⟨h2,_⟩ | ⟨g',q',cap',cs,h3,h4,h5,h6,h7,h8,h9⟩
  · cases h2
  · injection h3 with e1 e2 e3
    injection e1 with e1
    injection e1 with e1 e4
    subst e1 e3 e4
    by_cases hc:cap = 1
    · rw [if_pos hc]
      obtain rfl:n = 0:=by omega
      refine .inr ⟨g,q,cap - 1,cs,rfl,h4,h5,by omega,by omega,by omega,?_⟩
      have:l = []:=List.eq_nil_of_length_eq_zero (by simpa using h1)
      rw [this];rfl
    · rw [if_neg hc]
      refine .inr ⟨g,q + 1,cap - 1,cs,rfl,h4,h5,by omega,by omega,by omega,?_⟩
      have h10:=congrArg List.tail h9
      rw [show (iv (x :: l)).tail = iv l from rfl] at h10
      rw [← h10,← List.drop_one,List.drop_take,List.drop_drop]
      rfl
theorem QRow.head {w:World} {base n:Nat} {v:Value} {l:List Int} {x:Int} (h:QRow w base v (n + 1) (x :: l)):∃ g q cap,v = .slice (some ⟨g,q,none⟩) (n + 1) cap∧base ≤ g∧g < w.heap.size∧n + 1 ≤ cap∧cap ≤ maxLen∧w.cell? ⟨g,q,none⟩ = some (.int .i64 x):=by
  obtain ⟨h1,h2⟩:=h
  rcases h2 with ⟨_,h2⟩ | ⟨g,q,cap,cs,h3,h4,h5,h6,h7,h8,h9⟩
  · omega
  · refine ⟨g,q,cap,h3,h4,h5.lt,h6,h7,h5.cell ?_⟩
    have h10:=congrArg (fun (z:List Value)=>z[0]?) h9
    simp only [List.getElem?_take,List.getElem?_drop] at h10
    simpa [iv] using h10
theorem QRow.kept {w w':World} {base n:Nat} {v:Value} {l:List Int} (h:QRow w base v n l) {row:Option Nat} (hg:w.grownBy w' row) (hr:∀ g,v.ownBlock = some g → some g ≠ row):QRow w' base v n l:=by
  obtain ⟨h1,h2⟩:=h
  refine ⟨h1,?_⟩
  rcases h2 with h2 | ⟨g,q,cap,cs,h3,h4,h5,h6,h7,h8,h9⟩
  · exact .inl h2
  · exact .inr ⟨g,q,cap,cs,h3,h4,h5.kept hg (hr g (by rw [h3];rfl)),h6,h7,h8,h9⟩
theorem QRow.below {w w':World} {base n:Nat} {v:Value} {l:List Int} (h:QRow w base v n l) (hb:Below w.heap.size w w'):QRow w' base v n l:=by
  obtain ⟨h1,h2⟩:=h
  refine ⟨h1,?_⟩
  rcases h2 with h2 | ⟨g,q,cap,cs,h3,h4,h5,h6,h7,h8,h9⟩
  · exact .inl h2
  · exact .inr ⟨g,q,cap,cs,h3,h4,h5.below hb h5.lt,h6,h7,h8,h9⟩
theorem run_push_q (w:World) (base:Nat) (ty:TypeId) (v:Value) (n:Nat) (l:List Int) (h:QRow w base v n l) (x:Int) (gx:Nat) (hx:Blk w gx 3 [.int .i64 x]) (hn:n + 1 ≤ 1000000) (hb:base ≤ w.heap.size) :
    ∃ v' w',(Builtin.append_ #[29,29] ty #[v,.slice (some ⟨gx,0,none⟩) 1 1]).run Try.prog w = .ok v' w'∧QRow w' base v' (n + 1) (l ++ [x])∧w.grownBy w' v.ownBlock∧(v'.ownBlock = v.ownBlock ∨ v'.ownBlock = some w.heap.size):=by
  obtain ⟨i0,hi0,hz0,hz1,hz2⟩:=info_parts int_info
  have hnews:∀ j u,[Value.int .i64 x][j]? = some u → w.cell? ((⟨gx,0,none⟩:Addr).add j) = some u:=fun j u hu=>by
    have:=hx.cell hu
    rw [Addr.add_lit,Nat.zero_add]
    exact this
  have h1u:∀ u ∈ [Value.int .i64 x],u.oneCell' = true:=fun u hu=>by simp at hu;subst hu;rfl
  have hl:=h.1
  rcases h.2 with ⟨rfl,rfl⟩ | ⟨g,q,cap,cs,rfl,h4,h5,h6,h7,h8,h9⟩
  · obtain ⟨v',w',hr,h2,h3,_,h5⟩:=run_append_own_at (P:=Try.prog) w base 29 ty 3 i0 (.int .i64 0) 1 8 Try.underlying29 hi0 hz0 hz1 hz2 rfl (by decide) (.slice none 0 0) 0 [] (World.ownsRow_nil w base 3 1) ⟨gx,0,none⟩ 1 1 [.int .i64 x] rfl hnews h1u (by simp [maxLen]) (by omega) hb
    have:l = []:=List.eq_nil_of_length_eq_zero hl
    subst this
    exact ⟨v',w',hr,QRow.of_own h2,h3,h5⟩
  · have hi1:i0.size = 1:=hz1
    have hs:Src Try.prog i0.size 29 (.slice (some ⟨gx,0,none⟩) 1 1) 1 [.int .i64 x] w:=Src.ofSlice w Try.underlying29 ⟨gx,0,none⟩ 1 1 _ (by rw [hi1];rfl) hnews h1u
    have hol:∀ j u,(iv l)[j]? = some u → w.cell? ((⟨g,q,none⟩:Addr).add j) = some u:=fun j u hu=>by
      rw [Addr.add_lit]
      refine h5.cell ?_
      rw [← h9,List.getElem?_take,List.getElem?_drop] at hu
      by_cases hj:j < n
      · rw [if_pos hj] at hu;exact hu
      · rw [if_neg hj] at hu;cases hu
    by_cases hroom:n + 1 ≤ cap
    · have hq:q + n < cs.length:=by omega
      have hr:=run_append_room_src (P:=Try.prog) w 29 29 ty 3 i0 Try.underlying29 hi0 g q n cap _ 1 _ hs hroom
        (fun j hj=>by
          obtain rfl:j = 0:=by simpa using hj
          rw [hi1,Nat.mul_one,Nat.add_zero,h5.cell (List.getElem?_eq_getElem hq)];rfl) (fun j _=>h5.free _)
      rw [hi1,Nat.mul_one] at hr
      refine ⟨_,_,hr,⟨by rw [List.length_append,hl];rfl,.inr ⟨g,q,cap,cs.set (q + n) (.int .i64 x),rfl,h4,h5.set hq _,hroom,h7,by rw [List.length_set];exact h8,?_⟩⟩,grown_setCell w g (q + n) _,.inl rfl⟩
      rw [List.drop_set,if_neg (by omega),Nat.add_sub_cancel_left,iv_append,← h9]
      have hlen:n < (cs.drop q).length:=by rw [List.length_drop];omega
      generalize cs.drop q = ds at hlen ⊢
      rw [List.take_set,List.take_add_one,List.getElem?_eq_getElem hlen,List.set_append_right _ _ (by rw [List.length_take];omega),List.length_take,Nat.min_eq_left (by omega),Nat.sub_self]
      rfl
    · have hr:=run_append_grow_src (P:=Try.prog) w 29 29 ty 3 i0 (.int .i64 0) Try.underlying29 hi0 hz0 (some ⟨g,q,none⟩) n cap (iv l)
        (by rw [hi1];exact run_firstCells_some (P:=Try.prog) w.drew 1 n ⟨g,q,none⟩ n cap (iv l) (by rw [iv_length,hl,Nat.mul_one]) (by simpa using hol)) _ 1 _ hs (by omega) (by omega) (growslice_fits (by omega) (by rw [hz2];omega))
      have hge:=grownCap_ge w (n + 1) cap 3
      have hcm:grownCap w (n + 1) cap 3 ≤ maxLen:=grownCap_le_maxLen w (n + 1) cap 3 (by simp [maxLen];omega)
      refine ⟨_,_,hr,⟨by rw [List.length_append,hl];rfl,.inr ⟨w.heap.size,0,_,(iv l ++ [Value.int IntKind.i64 x]) ++ (Builtin.zeroCells (Value.int .i64 0).cells (grownCap w (n + 1) cap 3 - (n + 1))).toList,rfl,hb,?_,hge,hcm,?_,?_⟩⟩,⟨rfl,rfl,rfl,by simp,fun k hk _=>heap_alloc_old w.drew _ hk⟩,.inr rfl⟩
      · unfold Blk
        rw [show ((iv l ++ [Value.int .i64 x]) ++ (Builtin.zeroCells (Value.int .i64 0).cells (grownCap w (n + 1) cap 3 - (n + 1))).toList).toArray = (iv l ++ [Value.int IntKind.i64 x]).toArray ++ Builtin.zeroCells (Value.int .i64 0).cells (grownCap w (n + 1) cap 3 - (n + 1)) by apply Array.ext';simp]
        exact heap_alloc_new w.drew _
      · have hz:∀ k,(Builtin.zeroCells (Value.int IntKind.i64 0).cells k).toList.length = k:=fun k=>by rw [Array.length_toList,size_zeroCells];exact Nat.mul_one _
        rw [List.length_append,List.length_append,iv_length,hl,hz]
        show 0 + grownCap w (n + 1) cap 3 ≤ n + 1 + (grownCap w (n + 1) cap 3 - (n + 1))
        omega
      · rw [List.drop_zero,iv_append]
        exact List.take_left' (by rw [List.length_append,iv_length,hl];rfl)
theorem wpListIn_push_q {F:Fence} {nF:Nat} (w:World) {ops:Array Oper} {rest:List Oper} {o:Oper} {a:Act} {Q:Exit → Act → World → Prop} (hg:o.guard = none) (s x:Operand)
    (hop:o.op = Op.call { callee:=Callee.builtin Builtin.append,args:=#[s,x],argTypes:=#[29,29] }) (base:Nat) (v:Value) (k:Nat) (l:List Int) (hs:a.eval s = v) (hq:QRow w base v k l) (y:Int) (gx:Nat)
    (hx:a.eval x = .slice (some ⟨gx,0,none⟩) 1 1) (hk:Blk w gx 3 [.int .i64 y]) (hn:k + 1 ≤ 1000000) (hb:base ≤ w.heap.size)
    (hK:∀ v' w',QRow w' base v' (k + 1) (l ++ [y]) → w.grownBy w' v.ownBlock → (v'.ownBlock = v.ownBlock ∨ v'.ownBlock = some w.heap.size) → wpListIn F nF Try.prog ops Q rest (a.put o.dst v') w'):wpListIn F nF Try.prog ops Q (o :: rest) a w:=by
  refine wpListIn_plain hg fun K hK'=>?_
  obtain ⟨v',w',hrun,r1,r2,r3⟩:=run_push_q w base o.type v k l hq y gx hk hn hb
  unfold Oper.wpIn
  refine ⟨?_,?_⟩
  · simp [Oper.about,hop,resolve,Target.leads,Sem.run_pure]
  · rw [Oper.semAt_plain F _ _ (by rw [hop];intro c hc';cases hc')]
    simp [execOp,hop,resolve,invoke,builtin,hs,hx,hrun,Result.andThen]
    exact hK' _ _ (hK v' w' r1 r2 r3)
end Go.Proofs.Ytdnmpndnpfklcaa
/- The graph's forward: its plain law and its memory. -/
namespace Go.Proofs.Ytdnmpndnpfklcaa
open Go.RowKit Go
structure FwW (n i:Nat) (q:List Int) (N:List Bool):Prop where
  num:i + q.length + cntF N ≤ n
  nl:N.length = n
  rng:∀ s ∈ q,0 ≤ s∧s < (n:Int)
theorem FwW.start {n:Nat} {s:Int} (h0:0 ≤ s) (h1:s < (n:Int)):FwW n 0 [s] (inF n [s]):=by
  have he:inF n [s] = fset (List.replicate n false) s:=rfl
  rw [he]
  refine ⟨?_,by rw [fset_len,List.length_replicate],fun t ht=>by rw [List.mem_singleton.1 ht];exact ⟨h0,h1⟩⟩
  have:=cntF_set (N:=List.replicate n false) (i:=s.toNat) (by rw [List.getElem?_replicate,if_pos (by omega)])
  have h2:=cntF_le (List.replicate n false)
  rw [List.length_replicate] at h2
  unfold fset
  simp only [List.length_singleton]
  omega
theorem FwW.push {n i:Nat} {q:List Int} {N:List Bool} (h:FwW n i q N) {t:Int} (h0:0 ≤ t) (h1:t < (n:Int)) (hf:fl N t = false):FwW n i (q ++ [t]) (fset N t):=by
  have hN:=h.nl
  refine ⟨?_,by rw [fset_len];exact h.nl,fun s hs=>?_⟩
  · have hg:N[t.toNat]? = some false:=by
      have h4:t.toNat < N.length:=by omega
      unfold fl at hf
      rw [List.getD_eq_getElem?_getD,List.getElem?_eq_getElem h4] at hf
      rw [List.getElem?_eq_getElem h4]
      exact congrArg some hf
    have h5:=cntF_set hg
    have h6:=h.num
    unfold fset
    simp only [List.length_append,List.length_singleton]
    omega
  · rcases List.mem_append.1 hs with hs | hs
    · exact h.rng s hs
    · rw [List.mem_singleton.1 hs];exact ⟨h0,h1⟩
theorem blk_apart {W:World} {a b:Nat} {t u:TypeId} {vs us:List Value} (h:Blk W a t vs) (k:Blk W b u us) (hne:t ≠ u):a ≠ b:=by
  rintro rfl
  unfold Blk at h k
  rw [h] at k
  injection k with k
  injection k with _ k _
  exact hne k
theorem QRow.apart {W:World} {base n b:Nat} {v:Value} {l:List Int} {t:TypeId} {vs:List Value} (h:QRow W base v n l) (hk:Blk W b t vs) (hne:3 ≠ t):some b ≠ v.ownBlock:=by
  rcases h.2 with ⟨rfl,_⟩ | ⟨g,q,cap,cs,rfl,_,hg,_⟩
  · simp [Value.ownBlock]
  · intro e
    simp only [Value.ownBlock,Option.some.injEq] at e
    exact blk_apart hg hk hne e.symm
theorem QRow.shape {W:World} {base n:Nat} {v:Value} {l:List Int} (h:QRow W base v n l):∃ A c,v = .slice A n c:=by
  rcases h.2 with ⟨rfl,rfl⟩ | ⟨g,q,cap,cs,rfl,_⟩
  · exact ⟨_,_,rfl⟩
  · exact ⟨_,_,rfl⟩
theorem QRow.lt {W:World} {base n:Nat} {v:Value} {l:List Int} (h:QRow W base v n l):∀ g,v.ownBlock = some g → base ≤ g∧g < W.heap.size:=by
  intro g hg
  rcases h.2 with ⟨rfl,_⟩ | ⟨g',q,cap,cs,rfl,h4,hb,_⟩
  · cases hg
  · simp only [Value.ownBlock,Option.some.injEq] at hg
    subst hg
    exact ⟨h4,hb.lt⟩
theorem QRow.cells {W:World} {base n:Nat} {v:Value} {l:List Int} (h:QRow W base v n l):∀ (j:Nat) (o:Obj),v.ownBlock = some j → W.heap[j]? = some o → o.isCells = true:=by
  intro j o hj ho
  rcases h.2 with ⟨rfl,_⟩ | ⟨g',q,cap,cs,rfl,h4,hb,_⟩
  · cases hj
  · simp only [Value.ownBlock,Option.some.injEq] at hj
    subst hj
    rw [show W.heap[g']? = _ from hb] at ho
    injection ho with ho
    subst ho
    rfl
structure FwM (w W:World) (x:AV) (ba n:Nat) (pv:Value) (ds:List Nat) (b7 b8 bN:Nat) (qv:Value) (m:Nat) (l:List Int) (N:List Bool):Prop where
  bel:Below w.heap.size w W
  g:Blk W w.heap.size 105 (grc x ba n)
  p:Blk W (w.heap.size + 1) 115 [pv]
  bn:Blk W bN 4 (bvl N)
  k7:Blk W b7 87 [.slice (some ⟨bN,0,none⟩) n n]
  k8:Blk W b8 29 [qv]
  row:QRow W w.heap.size qv m l
  lN:w.heap.size + 2 ≤ bN
  l7:w.heap.size + 2 ≤ b7
  l8:w.heap.size + 2 ≤ b8
  nd:ds.Nodup
  mrk:∀ D ∈ ds,w.heap.size ≤ D∧W.heap[D]? = some (.deferred (some []))
section
variable {w W W':World} {x:AV} {ba n:Nat} {pv:Value} {ds:List Nat} {b7 b8 bN:Nat} {qv:Value} {m:Nat} {l:List Int} {N:List Bool}
theorem FwM.siz (h:FwM w W x ba n pv ds b7 b8 bN qv m l N):w.heap.size + 2 < W.heap.size:=by have:=h.bn.lt;have:=h.lN;omega
theorem FwM.quiet (h:FwM w W x ba n pv ds b7 b8 bN qv m l N) (hb:Below W.heap.size W W'):FwM w W' x ba n pv ds b7 b8 bN qv m l N :=
  have hs:=h.siz
  ⟨h.bel.trans (hb.mono (by omega)),h.g.below hb h.g.lt,h.p.below hb h.p.lt,h.bn.below hb h.bn.lt,h.k7.below hb h.k7.lt,h.k8.below hb h.k8.lt,h.row.below hb,h.lN,h.l7,h.l8,h.nd,
    fun D hD=>⟨(h.mrk D hD).1,(hb.block D (Array.getElem?_eq_some_iff.1 (h.mrk D hD).2).1).trans (h.mrk D hD).2⟩⟩
theorem FwM.ncl (h:FwM w W x ba n pv ds b7 b8 bN qv m l N) {row:Option Nat} {B:Nat} (hg:W.grownBy W' row) (hr:∀ r,row = some r → B ≤ r∧∃ o:Obj,W.heap[r]? = some o∧o.isCells = false) (hB:∀ D ∈ ds,D < B) (hwB:w.heap.size ≤ B):FwM w W' x ba n pv ds b7 b8 bN qv m l N :=
  have hs:=h.siz
  have hr':=fun r e=>(hr r e).2
  ⟨h.bel.grown hg (by omega) (fun k e=>by have:=(hr k e).1;omega),h.g.ncl hg hr',h.p.ncl hg hr',h.bn.ncl hg hr',h.k7.ncl hg hr',h.k8.ncl hg hr',h.row.kept hg (fun g e1 e2=>by
      obtain ⟨o,ho,hc⟩:=hr' g e2.symm
      rw [h.row.cells g o e1 ho] at hc
      cases hc),h.lN,h.l7,h.l8,h.nd,
    fun D hD=>⟨(h.mrk D hD).1,(hg.block D (Array.getElem?_eq_some_iff.1 (h.mrk D hD).2).1 (fun e=>by have:=(hr D e.symm).1;have:=hB D hD;omega)).trans (h.mrk D hD).2⟩⟩
theorem FwM.flag (h:FwM w W x ba n pv ds b7 b8 bN qv m l N) {s:Int} (h0:0 ≤ s) (h1:s < (N.length:Int)):FwM w (W.setCell ⟨bN,s.toNat,none⟩ (.bool true)) x ba n pv ds b7 b8 bN qv m l (fset N s):=by
  have hg:=grown_setCell W bN s.toNat (.bool true)
  have hlN:=h.lN
  have hne:∀ k,k ≠ bN → some k ≠ some bN:=fun k hk e=>hk (by injection e)
  have hset:=h.bn.set (j:=s.toNat) (by rw [bvl_length];omega) (.bool true)
  rw [bvl_set] at hset
  exact ⟨h.bel.setCell (p:=⟨bN,s.toNat,none⟩) (by show w.heap.size ≤ bN;omega) _,h.g.kept hg (hne _ (by omega)),h.p.kept hg (hne _ (by omega)),hset,h.k7.kept hg (hne _ (blk_apart h.k7 h.bn (by decide))),h.k8.kept hg (hne _ (blk_apart h.k8 h.bn (by decide))),h.row.kept hg (fun g e1 e2=>h.row.apart h.bn (by decide) (by rw [e1,e2])),h.lN,h.l7,h.l8,h.nd,
    fun D hD=>⟨(h.mrk D hD).1,mark_cells (h.mrk D hD).2 h.bn hg⟩⟩
theorem FwM.mark (h:FwM w W x ba n pv ds b7 b8 bN qv m l N) {D:Nat} (hD:W.heap[D]? = some (.deferred (some []))) (hwD:w.heap.size ≤ D) (hnew:D ∉ ds):FwM w W x ba n pv (D :: ds) b7 b8 bN qv m l N :=
  ⟨h.bel,h.g,h.p,h.bn,h.k7,h.k8,h.row,h.lN,h.l7,h.l8,List.nodup_cons.2 ⟨hnew,h.nd⟩,fun E hE=>by
    rcases List.mem_cons.1 hE with rfl | hE
    · exact ⟨hwD,hD⟩
    · exact h.mrk E hE⟩
end
end Go.Proofs.Ytdnmpndnpfklcaa
/- Walks: the graph's forward. -/
namespace Go.Proofs.Ytdnmpndnpfklcaa
open Go.RowKit Go
attribute [local go_sem] Oper.semAt_some
def FrmF (k:List Value) (ds:List Nat) (a:Act):Prop:=a.tmps.toList.take 9 = k∧a.tmps.size = 50∧a.defers = marks ds
theorem FrmF.opened {k:List Value} {ds:List Nat} {a:Act} (h:FrmF k ds a):∃ y9 y10 y11 y12 y13 y14 y15 y16 y17 y18 y19 y20 y21 y22 y23 y24 y25 y26 y27 y28 y29 y30 y31 y32 y33 y34 y35 y36 y37 y38 y39 y40 y41 y42 y43 y44 y45 y46 y47 y48 y49:Value,a = { tmps:=(k ++ [y9,y10,y11,y12,y13,y14,y15,y16,y17,y18,y19,y20,y21,y22,y23,y24,y25,y26,y27,y28,y29,y30,y31,y32,y33,y34,y35,y36,y37,y38,y39,y40,y41,y42,y43,y44,y45,y46,y47,y48,y49]).toArray,defers:=marks ds }:=by
  obtain ⟨T,D⟩:=a
  obtain ⟨h1,h2,h3⟩:=h
  dsimp only at h1 h2 h3
  have hT:T.toList = k ++ T.toList.drop 9:=by rw [← h1,List.take_append_drop]
  have hl:(T.toList.drop 9).length = 41:=by rw [List.length_drop,Array.length_toList,h2]
  generalize T.toList.drop 9 = z at hT hl
  obtain ⟨y9,z9,rfl,g9⟩:=cons_len hl
  obtain ⟨y10,z10,rfl,g10⟩:=cons_len g9
  obtain ⟨y11,z11,rfl,g11⟩:=cons_len g10
  obtain ⟨y12,z12,rfl,g12⟩:=cons_len g11
  obtain ⟨y13,z13,rfl,g13⟩:=cons_len g12
  obtain ⟨y14,z14,rfl,g14⟩:=cons_len g13
  obtain ⟨y15,z15,rfl,g15⟩:=cons_len g14
  obtain ⟨y16,z16,rfl,g16⟩:=cons_len g15
  obtain ⟨y17,z17,rfl,g17⟩:=cons_len g16
  obtain ⟨y18,z18,rfl,g18⟩:=cons_len g17
  obtain ⟨y19,z19,rfl,g19⟩:=cons_len g18
  obtain ⟨y20,z20,rfl,g20⟩:=cons_len g19
  obtain ⟨y21,z21,rfl,g21⟩:=cons_len g20
  obtain ⟨y22,z22,rfl,g22⟩:=cons_len g21
  obtain ⟨y23,z23,rfl,g23⟩:=cons_len g22
  obtain ⟨y24,z24,rfl,g24⟩:=cons_len g23
  obtain ⟨y25,z25,rfl,g25⟩:=cons_len g24
  obtain ⟨y26,z26,rfl,g26⟩:=cons_len g25
  obtain ⟨y27,z27,rfl,g27⟩:=cons_len g26
  obtain ⟨y28,z28,rfl,g28⟩:=cons_len g27
  obtain ⟨y29,z29,rfl,g29⟩:=cons_len g28
  obtain ⟨y30,z30,rfl,g30⟩:=cons_len g29
  obtain ⟨y31,z31,rfl,g31⟩:=cons_len g30
  obtain ⟨y32,z32,rfl,g32⟩:=cons_len g31
  obtain ⟨y33,z33,rfl,g33⟩:=cons_len g32
  obtain ⟨y34,z34,rfl,g34⟩:=cons_len g33
  obtain ⟨y35,z35,rfl,g35⟩:=cons_len g34
  obtain ⟨y36,z36,rfl,g36⟩:=cons_len g35
  obtain ⟨y37,z37,rfl,g37⟩:=cons_len g36
  obtain ⟨y38,z38,rfl,g38⟩:=cons_len g37
  obtain ⟨y39,z39,rfl,g39⟩:=cons_len g38
  obtain ⟨y40,z40,rfl,g40⟩:=cons_len g39
  obtain ⟨y41,z41,rfl,g41⟩:=cons_len g40
  obtain ⟨y42,z42,rfl,g42⟩:=cons_len g41
  obtain ⟨y43,z43,rfl,g43⟩:=cons_len g42
  obtain ⟨y44,z44,rfl,g44⟩:=cons_len g43
  obtain ⟨y45,z45,rfl,g45⟩:=cons_len g44
  obtain ⟨y46,z46,rfl,g46⟩:=cons_len g45
  obtain ⟨y47,z47,rfl,g47⟩:=cons_len g46
  obtain ⟨y48,z48,rfl,g48⟩:=cons_len g47
  obtain ⟨y49,z49,rfl,g49⟩:=cons_len g48
  obtain rfl:=List.eq_nil_of_length_eq_zero g49
  exact ⟨y9,y10,y11,y12,y13,y14,y15,y16,y17,y18,y19,y20,y21,y22,y23,y24,y25,y26,y27,y28,y29,y30,y31,y32,y33,y34,y35,y36,y37,y38,y39,y40,y41,y42,y43,y44,y45,y46,y47,y48,y49,by rw [h3,show T = T.toList.toArray from rfl,hT]⟩
theorem FrmF.elim {k:List Value} {ds:List Nat} {Q:Act → Prop} (hq:∀ y9 y10 y11 y12 y13 y14 y15 y16 y17 y18 y19 y20 y21 y22 y23 y24 y25 y26 y27 y28 y29 y30 y31 y32 y33 y34 y35 y36 y37 y38 y39 y40 y41 y42 y43 y44 y45 y46 y47 y48 y49:Value,Q { tmps:=(k ++ [y9,y10,y11,y12,y13,y14,y15,y16,y17,y18,y19,y20,y21,y22,y23,y24,y25,y26,y27,y28,y29,y30,y31,y32,y33,y34,y35,y36,y37,y38,y39,y40,y41,y42,y43,y44,y45,y46,y47,y48,y49]).toArray,defers:=marks ds }):∀ a,FrmF k ds a → Q a:=fun a h=>by
  obtain ⟨y9,y10,y11,y12,y13,y14,y15,y16,y17,y18,y19,y20,y21,y22,y23,y24,y25,y26,y27,y28,y29,y30,y31,y32,y33,y34,y35,y36,y37,y38,y39,y40,y41,y42,y43,y44,y45,y46,y47,y48,y49,rfl⟩:=h.opened
  exact hq y9 y10 y11 y12 y13 y14 y15 y16 y17 y18 y19 y20 y21 y22 y23 y24 y25 y26 y27 y28 y29 y30 y31 y32 y33 y34 y35 y36 y37 y38 y39 y40 y41 y42 y43 y44 y45 y46 y47 y48 y49
end Go.Proofs.Ytdnmpndnpfklcaa
/- Walks: reach.anyEdge, reach.reachable. -/
namespace Go.Proofs.Ytdnmpndnpfklcaa
open Go.RowKit Go
end Go.Proofs.Ytdnmpndnpfklcaa
/- Walks: the graph's path, with a permission that captures nothing. Printed by wip/mknh.py. -/
namespace Go.Proofs.Ytdnmpndnpfklcaa
open Go.RowKit Go
attribute [local go_sem] Oper.semAt_some
end Go.Proofs.Ytdnmpndnpfklcaa
/- Walks: the closures of reach.Cycle and of round. -/
namespace Go.Proofs.Ytdnmpndnpfklcaa
open Go.RowKit Go
end Go.Proofs.Ytdnmpndnpfklcaa
/- The graph's round: its plain law and its memory. -/
namespace Go.Proofs.Ytdnmpndnpfklcaa
open Go.RowKit Go
structure RnM (w V:World) (x:AV) (ba n:Nat) (s:Int) (pv:Value) (bv:Value) (m:Nat) (l:List Int) (fd:Bool):Prop where
  bel:Below w.heap.size w V
  g:Blk V w.heap.size 105 (grc x ba n)
  s0:Blk V (w.heap.size + 1) 3 [.int .i64 s]
  p:Blk V (w.heap.size + 2) 115 [pv]
  kb:Blk V (w.heap.size + 3) 29 [bv]
  kf:Blk V (w.heap.size + 4) 4 [.bool fd]
  row:V.ownsRow (w.heap.size + 5) 3 1 bv m (iv l)
section
variable {w V W:World} {x:AV} {ba n:Nat} {s:Int} {pv bv:Value} {m:Nat} {l:List Int} {fd:Bool}
theorem RnM.siz (h:RnM w V x ba n s pv bv m l fd):w.heap.size + 4 < V.heap.size:=h.kf.lt
theorem RnM.quiet (h:RnM w V x ba n s pv bv m l fd) (hb:Below V.heap.size V W):RnM w W x ba n s pv bv m l fd :=
  have hs:=h.siz
  ⟨h.bel.trans (hb.mono (by omega)),h.g.below hb h.g.lt,h.s0.below hb h.s0.lt,h.p.below hb h.p.lt,h.kb.below hb h.kb.lt,h.kf.below hb h.kf.lt,own_below h.row hb⟩
theorem RnM.ncl (h:RnM w V x ba n s pv bv m l fd) {row:Option Nat} {B:Nat} (hg:V.grownBy W row) (hr:∀ r,row = some r → B ≤ r∧∃ o:Obj,V.heap[r]? = some o∧o.isCells = false) (hwB:w.heap.size ≤ B):RnM w W x ba n s pv bv m l fd :=
  have hs:=h.siz
  have hr':=fun r e=>(hr r e).2
  ⟨h.bel.grown hg (by omega) (fun k e=>by have:=(hr k e).1;omega),h.g.ncl hg hr',h.s0.ncl hg hr',h.p.ncl hg hr',h.kb.ncl hg hr',h.kf.ncl hg hr',own_ncl h.row hg hr'⟩
theorem RnM.take (h:RnM w V x ba n s pv bv m l fd) (hb:Below V.heap.size V W) {bv':Value} {m':Nat} {l':List Int} (ho:W.ownsRow (w.heap.size + 5) 3 1 bv' m' (iv l')) :
    RnM w ((W.setCell ⟨w.heap.size + 3,0,none⟩ bv').setCell ⟨w.heap.size + 4,0,none⟩ (.bool true)) x ba n s pv bv' m' l' true:=by
  have hq:=h.quiet hb
  have h1:=grown_setCell W (w.heap.size + 3) 0 bv'
  have h2:=grown_setCell (W.setCell ⟨w.heap.size + 3,0,none⟩ bv') (w.heap.size + 4) 0 (.bool true)
  have hne3:∀ k,k ≠ w.heap.size + 3 → some k ≠ some (w.heap.size + 3):=fun k hk e=>hk (by injection e)
  have hne4:∀ k,k ≠ w.heap.size + 4 → some k ≠ some (w.heap.size + 4):=fun k hk e=>hk (by injection e)
  have k3:=hq.kb.set (j:=0) (by simp) bv'
  have k4:=(hq.kf.kept h1 (hne3 _ (by omega))).set (j:=0) (by simp) (.bool true)
  have r1:=ho.kept h1 (own_ne_blk ho hq.kb (by decide))
  exact ⟨(hq.bel.setCell (p:=⟨w.heap.size + 3,0,none⟩) (by show w.heap.size ≤ w.heap.size + 3;omega) _).setCell (p:=⟨w.heap.size + 4,0,none⟩) (by show w.heap.size ≤ w.heap.size + 4;omega) _,
    (hq.g.kept h1 (hne3 _ (by omega))).kept h2 (hne4 _ (by omega)),(hq.s0.kept h1 (hne3 _ (by omega))).kept h2 (hne4 _ (by omega)),(hq.p.kept h1 (hne3 _ (by omega))).kept h2 (hne4 _ (by omega)),
    k3.kept h2 (hne4 _ (by omega)),k4,r1.kept h2 (own_ne_blk r1 (hq.kf.kept h1 (hne3 _ (by omega))) (by decide))⟩
end
end Go.Proofs.Ytdnmpndnpfklcaa
/- Walks: the graph's round. Printed by wip/mknk.py. -/
namespace Go.Proofs.Ytdnmpndnpfklcaa
open Go.RowKit Go
attribute [local go_sem] Oper.semAt_some
theorem RnM.made (w:World) (x:AV) (ba n:Nat) (s:Int) (pv:Value) (G:List Value) (hG:grc x ba n = G):∃ W,W = (((((w.alloc (.cells G.toArray 105)).alloc (.cells #[.int .i64 s] 3)).alloc (.cells #[pv] 115)).alloc (.cells #[.slice none 0 0] 29)).alloc (.cells #[.bool false] 4)) ∧
    W.heap.size = w.heap.size + 5∧RnM w W x ba n s pv (.slice none 0 0) 0 [] false:=by
  subst hG
  have b0:=box_below w (.cells (grc x ba n).toArray 105)
  have k0:=Blk.new w 105 (grc x ba n)
  have s0:(w.alloc (.cells (grc x ba n).toArray 105)).heap.size = w.heap.size + 1:=by simp
  generalize w.alloc (.cells (grc x ba n).toArray 105) = w1 at b0 k0 s0 ⊢
  have b1:=box_below w1 (.cells #[.int .i64 s] 3)
  have k1:=Blk.new w1 3 [.int .i64 s]
  have s1:(w1.alloc (.cells #[.int .i64 s] 3)).heap.size = w.heap.size + 2:=by simp [s0]
  rw [s0] at k1
  generalize w1.alloc (.cells #[.int .i64 s] 3) = w2 at b1 k1 s1 ⊢
  have b2:=box_below w2 (.cells #[pv] 115)
  have k2:=Blk.new w2 115 [pv]
  have s2:(w2.alloc (.cells #[pv] 115)).heap.size = w.heap.size + 3:=by simp [s1]
  rw [s1] at k2
  generalize w2.alloc (.cells #[pv] 115) = w3 at b2 k2 s2 ⊢
  have b3:=box_below w3 (.cells #[.slice none 0 0] 29)
  have k3:=Blk.new w3 29 [.slice none 0 0]
  have s3:(w3.alloc (.cells #[.slice none 0 0] 29)).heap.size = w.heap.size + 4:=by simp [s2]
  rw [s2] at k3
  generalize w3.alloc (.cells #[.slice none 0 0] 29) = w4 at b3 k3 s3 ⊢
  have b4:=box_below w4 (.cells #[.bool false] 4)
  have k4:=Blk.new w4 4 [.bool false]
  rw [s3] at k4
  refine ⟨_,rfl,by simp [s3],b0.trans ((b1.mono (by omega)).trans ((b2.mono (by omega)).trans ((b3.mono (by omega)).trans (b4.mono (by omega))))),?_,?_,?_,k3.below b4 k3.lt,k4,World.ownsRow_nil _ _ _ _⟩
  · exact (((k0.below b1 k0.lt).below b2 (k0.below b1 k0.lt).lt).below (b3.mono (by omega)) (B:=w.heap.size + 1) (by omega)).below (b4.mono (by omega)) (B:=w.heap.size + 1) (by omega)
  · exact ((k1.below b2 k1.lt).below (b3.mono (by omega)) (B:=w.heap.size + 2) (by omega)).below (b4.mono (by omega)) (B:=w.heap.size + 2) (by omega)
  · exact (k2.below b3 k2.lt).below (b4.mono (by omega)) (B:=w.heap.size + 3) (by omega)
end Go.Proofs.Ytdnmpndnpfklcaa
/- Walks: reach.Cycle. Printed by wip/mknl.py. -/
namespace Go.Proofs.Ytdnmpndnpfklcaa
open Go.RowKit Go
end Go.Proofs.Ytdnmpndnpfklcaa
