/- A queue: a row of ints whose head is taken off by slicing. -/
import Derived.Test.YtddhaidimadliaaUe
import Derived.Deep.AppendSrc
import Derived.Maps.AppendAt
import Derived.OwnWalkIn
import Derived.Test.YtddhaidimadliaaUh
import Derived.Test.YtddhaidimadliaaUj
import Derived.BigQuiet
namespace Go.Proofs.Ytddhaidimadliaa
open Go.RowKit Go

/-- a slice of ints that the call owns, from any place of its row on -/
def QRow (w : World) (base : Nat) (v : Value) (n : Nat) (l : List Int) : Prop :=
 l.length = n ∧ ((v = .slice none 0 0 ∧ n = 0) ∨ ∃ g q cap cs, v = .slice (some ⟨g, q, none⟩) n cap ∧ base ≤ g ∧ Blk w g 3 cs ∧ n ≤ cap ∧ cap ≤ maxLen ∧ q + cap ≤ cs.length ∧ (cs.drop q).take n = iv l)
theorem QRow.of_own {w : World} {base n : Nat} {v : Value} {l : List Int} (h : w.ownsRow base 3 1 v n (iv l)) : QRow w base v n l := by
 obtain ⟨h1, h2⟩ := h
 rw [iv_length, Nat.mul_one] at h1
 refine ⟨h1, ?_⟩
 rcases h2 with h2 | ⟨g, cap, cur, h3, h4, h5, h6, h7, h8, h9⟩
 ·exact .inl h2
 ·refine .inr ⟨g, 0, cap, cur.toList, h3, h4, by unfold Blk; exact h5, h6, h7, by rw [Array.length_toList]; omega, ?_⟩
  rw [List.drop_zero, ← h9, Nat.mul_one]
theorem QRow.tail {w : World} {base n g q cap : Nat} {l : List Int} {x : Int} (h : QRow w base (.slice (some ⟨g, q, none⟩) (n + 1) cap) (n + 1) (x :: l)) :
  QRow w base (.slice (if cap = 1 then some ⟨g, q, none⟩ else some ⟨g, q + 1, none⟩) n (cap - 1)) n l := by
 obtain ⟨h1, h2⟩ := h
 refine ⟨by simpa using h1, ?_⟩
 rcases h2 with ⟨h2, _⟩ | ⟨g', q', cap', cs, h3, h4, h5, h6, h7, h8, h9⟩
 ·cases h2
 ·injection h3 with e1 e2 e3
  injection e1 with e1
  injection e1 with e1 e4
  subst e1 e3 e4
  by_cases hc : cap = 1
  ·rw [if_pos hc]
   obtain rfl : n = 0 := by omega
   refine .inr ⟨g, q, cap - 1, cs, rfl, h4, h5, by omega, by omega, by omega, ?_⟩
   have : l = [] := List.eq_nil_of_length_eq_zero (by simpa using h1)
   rw [this]; rfl
  ·rw [if_neg hc]
   refine .inr ⟨g, q + 1, cap - 1, cs, rfl, h4, h5, by omega, by omega, by omega, ?_⟩
   have h10 := congrArg List.tail h9
   rw [show (iv (x :: l)).tail = iv l from rfl] at h10
   rw [← h10, ← List.drop_one, List.drop_take, List.drop_drop]
   rfl
theorem QRow.head {w : World} {base n : Nat} {v : Value} {l : List Int} {x : Int} (h : QRow w base v (n + 1) (x :: l)) : ∃ g q cap, v = .slice (some ⟨g, q, none⟩) (n + 1) cap ∧ base ≤ g ∧ g < w.heap.size ∧ n + 1 ≤ cap ∧ cap ≤ maxLen ∧ w.cell? ⟨g, q, none⟩ = some (.int .i64 x) := by
 obtain ⟨h1, h2⟩ := h
 rcases h2 with ⟨_, h2⟩ | ⟨g, q, cap, cs, h3, h4, h5, h6, h7, h8, h9⟩
 ·omega
 ·refine ⟨g, q, cap, h3, h4, h5.lt, h6, h7, h5.cell ?_⟩
  have h10 := congrArg (fun (z : List Value) => z[0]?) h9
  simp only [List.getElem?_take, List.getElem?_drop] at h10
  simpa [iv] using h10
theorem QRow.kept {w w' : World} {base n : Nat} {v : Value} {l : List Int} (h : QRow w base v n l) {row : Option Nat} (hg : w.grownBy w' row) (hr : ∀ g, v.ownBlock = some g → some g ≠ row) : QRow w' base v n l := by
 obtain ⟨h1, h2⟩ := h
 refine ⟨h1, ?_⟩
 rcases h2 with h2 | ⟨g, q, cap, cs, h3, h4, h5, h6, h7, h8, h9⟩
 ·exact .inl h2
 ·exact .inr ⟨g, q, cap, cs, h3, h4, h5.kept hg (hr g (by rw [h3]; rfl)), h6, h7, h8, h9⟩
theorem QRow.below {w w' : World} {base n : Nat} {v : Value} {l : List Int} (h : QRow w base v n l) (hb : Below w.heap.size w w') : QRow w' base v n l := by
 obtain ⟨h1, h2⟩ := h
 refine ⟨h1, ?_⟩
 rcases h2 with h2 | ⟨g, q, cap, cs, h3, h4, h5, h6, h7, h8, h9⟩
 ·exact .inl h2
 ·exact .inr ⟨g, q, cap, cs, h3, h4, h5.below hb h5.lt, h6, h7, h8, h9⟩
/-- an element is appended -/
theorem run_push_q (w : World) (base : Nat) (ty : TypeId) (v : Value) (n : Nat) (l : List Int) (h : QRow w base v n l) (x : Int) (gx : Nat) (hx : Blk w gx 3 [.int .i64 x]) (hn : n + 1 ≤ 1000000) (hb : base ≤ w.heap.size) :
  ∃ v' w', (Builtin.append_ #[31, 31] ty #[v, .slice (some ⟨gx, 0, none⟩) 1 1]).run Try.prog w = .ok v' w' ∧ QRow w' base v' (n + 1) (l ++ [x]) ∧ w.grownBy w' v.ownBlock ∧ (v'.ownBlock = v.ownBlock ∨ v'.ownBlock = some w.heap.size) := by
 obtain ⟨i0, hi0, hz0, hz1, hz2⟩ := info_parts int_info
 have hnews : ∀ j u, [Value.int .i64 x][j]? = some u → w.cell? ((⟨gx, 0, none⟩ : Addr).add j) = some u := fun j u hu => by
  have := hx.cell hu
  rw [Addr.add_lit, Nat.zero_add]
  exact this
 have h1u : ∀ u ∈ [Value.int .i64 x], u.oneCell' = true := fun u hu => by simp at hu; subst hu; rfl
 have hl := h.1
 rcases h.2 with ⟨rfl, rfl⟩ | ⟨g, q, cap, cs, rfl, h4, h5, h6, h7, h8, h9⟩
 ·obtain ⟨v', w', hr, h2, h3, _, h5⟩ := run_append_own_at (P := Try.prog) w base 31 ty 3 i0 (.int .i64 0) 1 8 Try.underlying31 hi0 hz0 hz1 hz2 rfl (by decide) (.slice none 0 0) 0 [] (World.ownsRow_nil w base 3 1) ⟨gx, 0, none⟩ 1 1 [.int .i64 x] rfl hnews h1u (by simp [maxLen]) (by omega) hb
  have : l = [] := List.eq_nil_of_length_eq_zero hl
  subst this
  exact ⟨v', w', hr, QRow.of_own h2, h3, h5⟩
 ·have hi1 : i0.size = 1 := hz1
  have hs : Src Try.prog i0.size 31 (.slice (some ⟨gx, 0, none⟩) 1 1) 1 [.int .i64 x] w := Src.ofSlice w Try.underlying31 ⟨gx, 0, none⟩ 1 1 _ (by rw [hi1]; rfl) hnews h1u
  have hol : ∀ j u, (iv l)[j]? = some u → w.cell? ((⟨g, q, none⟩ : Addr).add j) = some u := fun j u hu => by
   rw [Addr.add_lit]
   refine h5.cell ?_
   rw [← h9, List.getElem?_take, List.getElem?_drop] at hu
   by_cases hj : j < n
   ·rw [if_pos hj] at hu; exact hu
   ·rw [if_neg hj] at hu; cases hu
  by_cases hroom : n + 1 ≤ cap
  ·have hq : q + n < cs.length := by omega
   have hr := run_append_room_src (P := Try.prog) w 31 31 ty 3 i0 Try.underlying31 hi0 g q n cap _ 1 _ hs hroom
    (fun j hj => by
     obtain rfl : j = 0 := by simpa using hj
     rw [hi1, Nat.mul_one, Nat.add_zero, h5.cell (List.getElem?_eq_getElem hq)]; rfl) (fun j _ => h5.free _)
   rw [hi1, Nat.mul_one] at hr
   refine ⟨_, _, hr, ⟨by rw [List.length_append, hl]; rfl, .inr ⟨g, q, cap, cs.set (q + n) (.int .i64 x), rfl, h4, h5.set hq _, hroom, h7, by rw [List.length_set]; exact h8, ?_⟩⟩, grown_setCell w g (q + n) _, .inl rfl⟩
   rw [List.drop_set, if_neg (by omega), Nat.add_sub_cancel_left, iv_append, ← h9]
   have hlen : n < (cs.drop q).length := by rw [List.length_drop]; omega
   generalize cs.drop q = ds at hlen ⊢
   rw [List.take_set, List.take_add_one, List.getElem?_eq_getElem hlen, List.set_append_right _ _ (by rw [List.length_take]; omega), List.length_take, Nat.min_eq_left (by omega), Nat.sub_self]
   rfl
  ·have hr := run_append_grow_src (P := Try.prog) w 31 31 ty 3 i0 (.int .i64 0) Try.underlying31 hi0 hz0 (some ⟨g, q, none⟩) n cap (iv l)
    (by rw [hi1]; exact run_firstCells_some (P := Try.prog) w.drew 1 n ⟨g, q, none⟩ n cap (iv l) (by rw [iv_length, hl, Nat.mul_one]) (by simpa using hol)) _ 1 _ hs (by omega) (by omega) (growslice_fits (by omega) (by rw [hz2]; omega))
   have hge := grownCap_ge w (n + 1) cap 3
   have hcm : grownCap w (n + 1) cap 3 ≤ maxLen := grownCap_le_maxLen w (n + 1) cap 3 (by simp [maxLen]; omega)
   refine ⟨_, _, hr, ⟨by rw [List.length_append, hl]; rfl, .inr ⟨w.heap.size, 0, _, (iv l ++ [Value.int IntKind.i64 x]) ++ (Builtin.zeroCells (Value.int .i64 0).cells (grownCap w (n + 1) cap 3 - (n + 1))).toList, rfl, hb, ?_, hge, hcm, ?_, ?_⟩⟩, ⟨rfl, rfl, rfl, by simp, fun k hk _ => heap_alloc_old w.drew _ hk⟩, .inr rfl⟩
   ·unfold Blk
    rw [show ((iv l ++ [Value.int .i64 x]) ++ (Builtin.zeroCells (Value.int .i64 0).cells (grownCap w (n + 1) cap 3 - (n + 1))).toList).toArray = (iv l ++ [Value.int IntKind.i64 x]).toArray ++ Builtin.zeroCells (Value.int .i64 0).cells (grownCap w (n + 1) cap 3 - (n + 1)) by apply Array.ext'; simp]
    exact heap_alloc_new w.drew _
   ·have hz : ∀ k, (Builtin.zeroCells (Value.int IntKind.i64 0).cells k).toList.length = k := fun k => by rw [Array.length_toList, size_zeroCells]; exact Nat.mul_one _
    rw [List.length_append, List.length_append, iv_length, hl, hz]
    show 0 + grownCap w (n + 1) cap 3 ≤ n + 1 + (grownCap w (n + 1) cap 3 - (n + 1))
    omega
   ·rw [List.drop_zero, iv_append]
    exact List.take_left' (by rw [List.length_append, iv_length, hl]; rfl)
/-- .. at a walk's list, inside a fence -/
theorem wpListIn_push_q {F : Fence} {nF : Nat} (w : World) {ops : Array Oper} {rest : List Oper} {o : Oper} {a : Act} {Q : Exit → Act → World → Prop} (hg : o.guard = none) (s x : Operand)
  (hop : o.op = Op.call { callee := Callee.builtin Builtin.append, args := #[s, x], argTypes := #[31, 31] }) (base : Nat) (v : Value) (k : Nat) (l : List Int) (hs : a.eval s = v) (hq : QRow w base v k l) (y : Int) (gx : Nat)
  (hx : a.eval x = .slice (some ⟨gx, 0, none⟩) 1 1) (hk : Blk w gx 3 [.int .i64 y]) (hn : k + 1 ≤ 1000000) (hb : base ≤ w.heap.size)
  (hK : ∀ v' w', QRow w' base v' (k + 1) (l ++ [y]) → w.grownBy w' v.ownBlock → (v'.ownBlock = v.ownBlock ∨ v'.ownBlock = some w.heap.size) → wpListIn F nF Try.prog ops Q rest (a.put o.dst v') w') : wpListIn F nF Try.prog ops Q (o :: rest) a w := by
 refine wpListIn_plain hg fun K hK' => ?_
 obtain ⟨v', w', hrun, r1, r2, r3⟩ := run_push_q w base o.type v k l hq y gx hk hn hb
 unfold Oper.wpIn
 refine ⟨?_, ?_⟩
 ·simp [Oper.about, hop, resolve, Target.leads, Sem.run_pure]
 ·rw [Oper.semAt_plain F _ _ (by rw [hop]; intro c hc'; cases hc')]
  simp [execOp, hop, resolve, invoke, builtin, hs, hx, hrun, Result.andThen]
  exact hK' _ _ (hK v' w' r1 r2 r3)
end Go.Proofs.Ytddhaidimadliaa

/- The graph's forward: its plain law and its memory. -/
namespace Go.Proofs.Ytddhaidimadliaa
open Go.RowKit Go

/-- the edges of a state, one after the other -/
def rowF (perm : Ed → Bool) : List Ed → List Int → List Bool → List Int × List Bool
 | [], q, N => (q, N)
 | x :: r, q, N => if fl N x.t = false ∧ perm x = true then rowF perm r (q ++ [x.t]) (fset N x.t) else rowF perm r q N
/-- the states that a search reaches -/
def fwdF (a : Aut) (perm : Ed → Bool) : Nat → List Int → List Bool → List Bool
 | 0, _, N => N
 | _ + 1, [], N => N
 | k + 1, s :: q, N => fwdF a perm k (rowF perm (outE a s) q N).1 (rowF perm (outE a s) q N).2
/-- what is reached from the states of a list -/
def fwdS (a : Aut) (fr : List Int) (perm : Ed → Bool) : List Bool := fwdF a perm (a.st.toNat + 1) fr (inF a.st.toNat fr)
theorem rowF_pos {perm : Ed → Bool} {x : Ed} {r : List Ed} {q : List Int} {N : List Bool} (h : fl N x.t = false ∧ perm x = true) : rowF perm (x :: r) q N = rowF perm r (q ++ [x.t]) (fset N x.t) := by
 rw [rowF, if_pos h]
theorem rowF_neg {perm : Ed → Bool} {x : Ed} {r : List Ed} {q : List Int} {N : List Bool} (h : ¬ (fl N x.t = false ∧ perm x = true)) : rowF perm (x :: r) q N = rowF perm r q N := by
 rw [rowF, if_neg h]
theorem rowF_app {perm : Ed → Bool} : ∀ (r1 r2 : List Ed) (q : List Int) (N : List Bool), rowF perm (r1 ++ r2) q N = rowF perm r2 (rowF perm r1 q N).1 (rowF perm r1 q N).2
 | [], _, _, _ => rfl
 | x :: r1, r2, q, N => by
  rw [List.cons_append]
  by_cases h : fl N x.t = false ∧ perm x = true
  ·rw [rowF_pos h, rowF_pos h]; exact rowF_app r1 r2 _ _
  ·rw [rowF_neg h, rowF_neg h]; exact rowF_app r1 r2 q N
theorem rowF_no {perm : Ed → Bool} {pre : List Ed} {e : Ed} {q q' : List Int} {N N' : List Bool} (h : rowF perm pre q N = (q', N')) (hn : ¬ (fl N' e.t = false ∧ perm e = true)) : rowF perm (pre ++ [e]) q N = (q', N') := by
 rw [rowF_app, h]
 exact rowF_neg hn
theorem rowF_yes {perm : Ed → Bool} {pre : List Ed} {e : Ed} {q q' : List Int} {N N' : List Bool} (h : rowF perm pre q N = (q', N')) (hn : fl N' e.t = false ∧ perm e = true) : rowF perm (pre ++ [e]) q N = (q' ++ [e.t], fset N' e.t) := by
 rw [rowF_app, h]
 exact rowF_pos hn
/-- the queue is well formed; i states were taken from it -/
structure FwW (n i : Nat) (q : List Int) (N : List Bool) : Prop where
 num : i + q.length + cntF N ≤ n
 nl : N.length = n
 rng : ∀ s ∈ q, 0 ≤ s ∧ s < (n : Int)
theorem FwW.start {n : Nat} {s : Int} (h0 : 0 ≤ s) (h1 : s < (n : Int)) : FwW n 0 [s] (inF n [s]) := by
 have he : inF n [s] = fset (List.replicate n false) s := rfl
 rw [he]
 refine ⟨?_, by rw [fset_len, List.length_replicate], fun t ht => by rw [List.mem_singleton.1 ht]; exact ⟨h0, h1⟩⟩
 have := cntF_set (N := List.replicate n false) (i := s.toNat) (by rw [List.getElem?_replicate, if_pos (by omega)])
 have h2 := cntF_le (List.replicate n false)
 rw [List.length_replicate] at h2
 unfold fset
 simp only [List.length_singleton]
 omega
theorem FwW.push {n i : Nat} {q : List Int} {N : List Bool} (h : FwW n i q N) {t : Int} (h0 : 0 ≤ t) (h1 : t < (n : Int)) (hf : fl N t = false) : FwW n i (q ++ [t]) (fset N t) := by
 have hN := h.nl
 refine ⟨?_, by rw [fset_len]; exact h.nl, fun s hs => ?_⟩
 ·have hg : N[t.toNat]? = some false := by
   have h4 : t.toNat < N.length := by omega
   unfold fl at hf
   rw [List.getD_eq_getElem?_getD, List.getElem?_eq_getElem h4] at hf
   rw [List.getElem?_eq_getElem h4]
   exact congrArg some hf
  have h5 := cntF_set hg
  have h6 := h.num
  unfold fset
  simp only [List.length_append, List.length_singleton]
  omega
 ·rcases List.mem_append.1 hs with hs | hs
  ·exact h.rng s hs
  ·rw [List.mem_singleton.1 hs]; exact ⟨h0, h1⟩
theorem FwW.pop {n i : Nat} {s : Int} {q : List Int} {N : List Bool} (h : FwW n i (s :: q) N) : FwW n (i + 1) q N :=
 ⟨by have := h.num; simp only [List.length_cons] at this; omega, h.nl, fun t ht => h.rng t (List.mem_cons_of_mem _ ht)⟩
/-- two blocks of different kinds are two -/
theorem blk_apart {W : World} {a b : Nat} {t u : TypeId} {vs us : List Value} (h : Blk W a t vs) (k : Blk W b u us) (hne : t ≠ u) : a ≠ b := by
 rintro rfl
 unfold Blk at h k
 rw [h] at k
 injection k with k
 injection k with _ k _
 exact hne k
theorem QRow.apart {W : World} {base n b : Nat} {v : Value} {l : List Int} {t : TypeId} {vs : List Value} (h : QRow W base v n l) (hk : Blk W b t vs) (hne : 3 ≠ t) : some b ≠ v.ownBlock := by
 rcases h.2 with ⟨rfl, _⟩ | ⟨g, q, cap, cs, rfl, _, hg, _⟩
 ·simp [Value.ownBlock]
 ·intro e
  simp only [Value.ownBlock, Option.some.injEq] at e
  exact blk_apart hg hk hne e.symm
theorem QRow.shape {W : World} {base n : Nat} {v : Value} {l : List Int} (h : QRow W base v n l) : ∃ A c, v = .slice A n c := by
 rcases h.2 with ⟨rfl, rfl⟩ | ⟨g, q, cap, cs, rfl, _⟩
 ·exact ⟨_, _, rfl⟩
 ·exact ⟨_, _, rfl⟩
theorem QRow.lt {W : World} {base n : Nat} {v : Value} {l : List Int} (h : QRow W base v n l) : ∀ g, v.ownBlock = some g → base ≤ g ∧ g < W.heap.size := by
 intro g hg
 rcases h.2 with ⟨rfl, _⟩ | ⟨g', q, cap, cs, rfl, h4, hb, _⟩
 ·cases hg
 ·simp only [Value.ownBlock, Option.some.injEq] at hg
  subst hg
  exact ⟨h4, hb.lt⟩
theorem QRow.cells {W : World} {base n : Nat} {v : Value} {l : List Int} (h : QRow W base v n l) : ∀ (j : Nat) (o : Obj), v.ownBlock = some j → W.heap[j]? = some o → o.isCells = true := by
 intro j o hj ho
 rcases h.2 with ⟨rfl, _⟩ | ⟨g', q, cap, cs, rfl, h4, hb, _⟩
 ·cases hj
 ·simp only [Value.ownBlock, Option.some.injEq] at hj
  subst hj
  rw [show W.heap[g']? = _ from hb] at ho
  injection ho with ho
  subst ho
  rfl
/-- forward's memory -/
structure FwM (w W : World) (x : AV) (ba n : Nat) (pv : Value) (ds : List Nat) (b7 b8 bN : Nat) (qv : Value) (m : Nat) (l : List Int) (N : List Bool) : Prop where
 bel : Below w.heap.size w W
 g : Blk W w.heap.size 98 (grc x ba n)
 p : Blk W (w.heap.size + 1) 107 [pv]
 bn : Blk W bN 4 (bvl N)
 k7 : Blk W b7 102 [.slice (some ⟨bN, 0, none⟩) n n]
 k8 : Blk W b8 31 [qv]
 row : QRow W w.heap.size qv m l
 lN : w.heap.size + 2 ≤ bN
 l7 : w.heap.size + 2 ≤ b7
 l8 : w.heap.size + 2 ≤ b8
 nd : ds.Nodup
 mrk : ∀ D ∈ ds, w.heap.size ≤ D ∧ W.heap[D]? = some (.deferred (some []))
section
variable {w W W' : World} {x : AV} {ba n : Nat} {pv : Value} {ds : List Nat} {b7 b8 bN : Nat} {qv : Value} {m : Nat} {l : List Int} {N : List Bool}
theorem FwM.siz (h : FwM w W x ba n pv ds b7 b8 bN qv m l N) : w.heap.size + 2 < W.heap.size := by have := h.bn.lt; have := h.lN; omega
theorem FwM.quiet (h : FwM w W x ba n pv ds b7 b8 bN qv m l N) (hb : Below W.heap.size W W') : FwM w W' x ba n pv ds b7 b8 bN qv m l N :=
 have hs := h.siz
 ⟨h.bel.trans (hb.mono (by omega)), h.g.below hb h.g.lt, h.p.below hb h.p.lt, h.bn.below hb h.bn.lt, h.k7.below hb h.k7.lt, h.k8.below hb h.k8.lt, h.row.below hb, h.lN, h.l7, h.l8, h.nd,
  fun D hD => ⟨(h.mrk D hD).1, (hb.block D (Array.getElem?_eq_some_iff.1 (h.mrk D hD).2).1).trans (h.mrk D hD).2⟩⟩
theorem FwM.ncl (h : FwM w W x ba n pv ds b7 b8 bN qv m l N) {row : Option Nat} {B : Nat} (hg : W.grownBy W' row) (hr : ∀ r, row = some r → B ≤ r ∧ ∃ o : Obj, W.heap[r]? = some o ∧ o.isCells = false) (hB : ∀ D ∈ ds, D < B) (hwB : w.heap.size ≤ B) : FwM w W' x ba n pv ds b7 b8 bN qv m l N :=
 have hs := h.siz
 have hr' := fun r e => (hr r e).2
 ⟨h.bel.grown hg (by omega) (fun k e => by have := (hr k e).1; omega), h.g.ncl hg hr', h.p.ncl hg hr', h.bn.ncl hg hr', h.k7.ncl hg hr', h.k8.ncl hg hr', h.row.kept hg (fun g e1 e2 => by
   obtain ⟨o, ho, hc⟩ := hr' g e2.symm
   rw [h.row.cells g o e1 ho] at hc
   cases hc), h.lN, h.l7, h.l8, h.nd,
  fun D hD => ⟨(h.mrk D hD).1, (hg.block D (Array.getElem?_eq_some_iff.1 (h.mrk D hD).2).1 (fun e => by have := (hr D e.symm).1; have := hB D hD; omega)).trans (h.mrk D hD).2⟩⟩
/-- a flag is set -/
theorem FwM.flag (h : FwM w W x ba n pv ds b7 b8 bN qv m l N) {s : Int} (h0 : 0 ≤ s) (h1 : s < (N.length : Int)) : FwM w (W.setCell ⟨bN, s.toNat, none⟩ (.bool true)) x ba n pv ds b7 b8 bN qv m l (fset N s) := by
 have hg := grown_setCell W bN s.toNat (.bool true)
 have hlN := h.lN
 have hne : ∀ k, k ≠ bN → some k ≠ some bN := fun k hk e => hk (by injection e)
 have hset := h.bn.set (j := s.toNat) (by rw [bvl_length]; omega) (.bool true)
 rw [bvl_set] at hset
 exact ⟨h.bel.setCell (p := ⟨bN, s.toNat, none⟩) (by show w.heap.size ≤ bN; omega) _, h.g.kept hg (hne _ (by omega)), h.p.kept hg (hne _ (by omega)), hset, h.k7.kept hg (hne _ (blk_apart h.k7 h.bn (by decide))), h.k8.kept hg (hne _ (blk_apart h.k8 h.bn (by decide))), h.row.kept hg (fun g e1 e2 => h.row.apart h.bn (by decide) (by rw [e1, e2])), h.lN, h.l7, h.l8, h.nd,
  fun D hD => ⟨(h.mrk D hD).1, mark_cells (h.mrk D hD).2 h.bn hg⟩⟩
/-- the queue's variable is set; the row is another, or has grown -/
theorem FwM.queue (h : FwM w W x ba n pv ds b7 b8 bN qv m l N) {qv' : Value} {m' : Nat} {l' : List Int} (ho : QRow W' w.heap.size qv' m' l') (hg : W.grownBy W' qv.ownBlock) : FwM w (W'.setCell ⟨b8, 0, none⟩ qv') x ba n pv ds b7 b8 bN qv' m' l' N := by
 have hl8 := h.l8
 have hsz := h.siz
 have hs := grown_setCell W' b8 0 qv'
 have hne : ∀ k, k ≠ b8 → some k ≠ some b8 := fun k hk e => hk (by injection e)
 have k8 := h.k8.kept hg (h.row.apart h.k8 (by decide))
 have kn := h.bn.kept hg (h.row.apart h.bn (by decide))
 have k7 := h.k7.kept hg (h.row.apart h.k7 (by decide))
 exact ⟨(h.bel.grown hg (by omega) (fun j hj => (h.row.lt j hj).1)).setCell (p := ⟨b8, 0, none⟩) (by show w.heap.size ≤ b8; omega) _,
  (h.g.kept hg (h.row.apart h.g (by decide))).kept hs (hne _ (by omega)), (h.p.kept hg (h.row.apart h.p (by decide))).kept hs (hne _ (by omega)), kn.kept hs (hne _ (blk_apart kn k8 (by decide))), k7.kept hs (hne _ (blk_apart k7 k8 (by decide))), k8.set (j := 0) (by simp) _,
  ho.kept hs (fun g e1 e2 => ho.apart k8 (by decide) (by rw [e1, e2])), h.lN, h.l7, h.l8, h.nd,
  fun D hD => ⟨(h.mrk D hD).1, mark_cells ((hg.block D (Array.getElem?_eq_some_iff.1 (h.mrk D hD).2).1 (fun e => by
   have := h.row.cells D _ e.symm (h.mrk D hD).2
   cases this)).trans (h.mrk D hD).2) k8 hs⟩⟩
/-- a mark more -/
theorem FwM.mark (h : FwM w W x ba n pv ds b7 b8 bN qv m l N) {D : Nat} (hD : W.heap[D]? = some (.deferred (some []))) (hwD : w.heap.size ≤ D) (hnew : D ∉ ds) : FwM w W x ba n pv (D :: ds) b7 b8 bN qv m l N :=
 ⟨h.bel, h.g, h.p, h.bn, h.k7, h.k8, h.row, h.lN, h.l7, h.l8, List.nodup_cons.2 ⟨hnew, h.nd⟩, fun E hE => by
  rcases List.mem_cons.1 hE with rfl | hE
  ·exact ⟨hwD, hD⟩
  ·exact h.mrk E hE⟩
end
end Go.Proofs.Ytddhaidimadliaa

/- Walks: the graph's forward. -/
namespace Go.Proofs.Ytddhaidimadliaa
open Go.RowKit Go

attribute [local go_sem] Oper.semAt_some
/-- a frame whose first nine slots are known -/
def FrmF (k : List Value) (ds : List Nat) (a : Act) : Prop := a.tmps.toList.take 9 = k ∧ a.tmps.size = 50 ∧ a.defers = marks ds
theorem FrmF.opened {k : List Value} {ds : List Nat} {a : Act} (h : FrmF k ds a) : ∃ y9 y10 y11 y12 y13 y14 y15 y16 y17 y18 y19 y20 y21 y22 y23 y24 y25 y26 y27 y28 y29 y30 y31 y32 y33 y34 y35 y36 y37 y38 y39 y40 y41 y42 y43 y44 y45 y46 y47 y48 y49 : Value, a = { tmps := (k ++ [y9, y10, y11, y12, y13, y14, y15, y16, y17, y18, y19, y20, y21, y22, y23, y24, y25, y26, y27, y28, y29, y30, y31, y32, y33, y34, y35, y36, y37, y38, y39, y40, y41, y42, y43, y44, y45, y46, y47, y48, y49]).toArray, defers := marks ds } := by
 obtain ⟨T, D⟩ := a
 obtain ⟨h1, h2, h3⟩ := h
 dsimp only at h1 h2 h3
 have hT : T.toList = k ++ T.toList.drop 9 := by rw [← h1, List.take_append_drop]
 have hl : (T.toList.drop 9).length = 41 := by rw [List.length_drop, Array.length_toList, h2]
 generalize T.toList.drop 9 = z at hT hl
 obtain ⟨y9, z9, rfl, g9⟩ := cons_len hl
 obtain ⟨y10, z10, rfl, g10⟩ := cons_len g9
 obtain ⟨y11, z11, rfl, g11⟩ := cons_len g10
 obtain ⟨y12, z12, rfl, g12⟩ := cons_len g11
 obtain ⟨y13, z13, rfl, g13⟩ := cons_len g12
 obtain ⟨y14, z14, rfl, g14⟩ := cons_len g13
 obtain ⟨y15, z15, rfl, g15⟩ := cons_len g14
 obtain ⟨y16, z16, rfl, g16⟩ := cons_len g15
 obtain ⟨y17, z17, rfl, g17⟩ := cons_len g16
 obtain ⟨y18, z18, rfl, g18⟩ := cons_len g17
 obtain ⟨y19, z19, rfl, g19⟩ := cons_len g18
 obtain ⟨y20, z20, rfl, g20⟩ := cons_len g19
 obtain ⟨y21, z21, rfl, g21⟩ := cons_len g20
 obtain ⟨y22, z22, rfl, g22⟩ := cons_len g21
 obtain ⟨y23, z23, rfl, g23⟩ := cons_len g22
 obtain ⟨y24, z24, rfl, g24⟩ := cons_len g23
 obtain ⟨y25, z25, rfl, g25⟩ := cons_len g24
 obtain ⟨y26, z26, rfl, g26⟩ := cons_len g25
 obtain ⟨y27, z27, rfl, g27⟩ := cons_len g26
 obtain ⟨y28, z28, rfl, g28⟩ := cons_len g27
 obtain ⟨y29, z29, rfl, g29⟩ := cons_len g28
 obtain ⟨y30, z30, rfl, g30⟩ := cons_len g29
 obtain ⟨y31, z31, rfl, g31⟩ := cons_len g30
 obtain ⟨y32, z32, rfl, g32⟩ := cons_len g31
 obtain ⟨y33, z33, rfl, g33⟩ := cons_len g32
 obtain ⟨y34, z34, rfl, g34⟩ := cons_len g33
 obtain ⟨y35, z35, rfl, g35⟩ := cons_len g34
 obtain ⟨y36, z36, rfl, g36⟩ := cons_len g35
 obtain ⟨y37, z37, rfl, g37⟩ := cons_len g36
 obtain ⟨y38, z38, rfl, g38⟩ := cons_len g37
 obtain ⟨y39, z39, rfl, g39⟩ := cons_len g38
 obtain ⟨y40, z40, rfl, g40⟩ := cons_len g39
 obtain ⟨y41, z41, rfl, g41⟩ := cons_len g40
 obtain ⟨y42, z42, rfl, g42⟩ := cons_len g41
 obtain ⟨y43, z43, rfl, g43⟩ := cons_len g42
 obtain ⟨y44, z44, rfl, g44⟩ := cons_len g43
 obtain ⟨y45, z45, rfl, g45⟩ := cons_len g44
 obtain ⟨y46, z46, rfl, g46⟩ := cons_len g45
 obtain ⟨y47, z47, rfl, g47⟩ := cons_len g46
 obtain ⟨y48, z48, rfl, g48⟩ := cons_len g47
 obtain ⟨y49, z49, rfl, g49⟩ := cons_len g48
 obtain rfl := List.eq_nil_of_length_eq_zero g49
 exact ⟨y9, y10, y11, y12, y13, y14, y15, y16, y17, y18, y19, y20, y21, y22, y23, y24, y25, y26, y27, y28, y29, y30, y31, y32, y33, y34, y35, y36, y37, y38, y39, y40, y41, y42, y43, y44, y45, y46, y47, y48, y49, by rw [h3, show T = T.toList.toArray from rfl, hT]⟩
theorem FrmF.elim {k : List Value} {ds : List Nat} {Q : Act → Prop} (hq : ∀ y9 y10 y11 y12 y13 y14 y15 y16 y17 y18 y19 y20 y21 y22 y23 y24 y25 y26 y27 y28 y29 y30 y31 y32 y33 y34 y35 y36 y37 y38 y39 y40 y41 y42 y43 y44 y45 y46 y47 y48 y49 : Value, Q { tmps := (k ++ [y9, y10, y11, y12, y13, y14, y15, y16, y17, y18, y19, y20, y21, y22, y23, y24, y25, y26, y27, y28, y29, y30, y31, y32, y33, y34, y35, y36, y37, y38, y39, y40, y41, y42, y43, y44, y45, y46, y47, y48, y49]).toArray, defers := marks ds }) : ∀ a, FrmF k ds a → Q a := fun a h => by
 obtain ⟨y9, y10, y11, y12, y13, y14, y15, y16, y17, y18, y19, y20, y21, y22, y23, y24, y25, y26, y27, y28, y29, y30, y31, y32, y33, y34, y35, y36, y37, y38, y39, y40, y41, y42, y43, y44, y45, y46, y47, y48, y49, rfl⟩ := h.opened
 exact hq y9 y10 y11 y12 y13 y14 y15 y16 y17 y18 y19 y20 y21 y22 y23 y24 y25 y26 y27 y28 y29 y30 y31 y32 y33 y34 y35 y36 y37 y38 y39 y40 y41 y42 y43 y44 y45 y46 y47 y48 y49
set_option maxRecDepth 100000 in
set_option maxHeartbeats 3200000 in
theorem forward_ok (x : AV) (ba n : Nat) (fp : Nat) (perm : Ed → Bool) (S : Option Addr) (cs : Nat) (RES : List Bool) (w : World) (hg : GrR w w.heap.size x ba n) (hn0 : 0 < n) (hS : RdI w w.heap.size S [0]) (hc1 : 1 ≤ cs) (hc2 : cs ≤ 9223372036854775807)
  (efp : ∀ args W, (callFunc fp args).run Try.prog W = .ok (.enter fp args) W)
  (hp : ∀ (e : Ed) W, e ∈ x.a.ed → Below w.heap.size w W → Calls Try.prog fp #[evl e] W fun r W' => r = .returned (.bool (perm e)) ∧ Below W.heap.size W W')
  (hr : fwdS x.a [0] perm = RES) :
  Calls Try.prog 121 #[.agg (grc x ba n).toArray, .slice S 1 cs, .func (.func fp) #[] #[]] w fun e w' => ∃ b, e = .returned (.slice (some ⟨b, 0, none⟩) n n) ∧ Blk w' b 4 (bvl RES) ∧ w.heap.size ≤ b ∧ Below w.heap.size w w' := by
 obtain ⟨A, na, ca, M, nm, cm, E, ne, ce, a⟩ := x
 dsimp only at hp hr
 have hst : a.st = (n : Int) := hg.st
 have hwf : WF a := hg.wf
 have hn4 : n ≤ 4096 := by have := hwf.st1; omega
 obtain ⟨pv, hpv⟩ : ∃ v : Value, v = .func (.func fp) #[] #[] := ⟨_, rfl⟩
 obtain ⟨x, hx⟩ : ∃ z : AV, z = ⟨A, na, ca, M, nm, cm, E, ne, ce, a⟩ := ⟨_, rfl⟩
 rw [← hx] at hg ⊢
 have hxa : x.a = a := by rw [hx]
 have hgc : grc x ba n = [.slice A na ca, .int .i64 (n : Int), .slice M nm cm, .slice E ne ce, .slice (some ⟨ba, 0, none⟩) (n + 1) (n + 1)] := by unfold grc; rw [hx, ← hst]
 rw [hgc]
 have hb2 := (box_below w (.cells #[.slice A na ca, .int .i64 (n : Int), .slice M nm cm, .slice E ne ce, .slice (some ⟨ba, 0, none⟩) (n + 1) (n + 1)] 98)).alloc (by simp) (.cells #[.func (.func fp) #[] #[]] 107)
 obtain ⟨w2, hw2⟩ : ∃ w2, w2 = (w.alloc (.cells #[.slice A na ca, .int .i64 (n : Int), .slice M nm cm, .slice E ne ce, .slice (some ⟨ba, 0, none⟩) (n + 1) (n + 1)] 98)).alloc (.cells #[.func (.func fp) #[] #[]] 107) := ⟨_, rfl⟩
 have k0 : Blk w2 w.heap.size 98 [.slice A na ca, .int .i64 (n : Int), .slice M nm cm, .slice E ne ce, .slice (some ⟨ba, 0, none⟩) (n + 1) (n + 1)] := by rw [hw2]; exact (Blk.new _ _ [_, _, _, _, _]).al _
 have k1 : Blk w2 (w.heap.size + 1) 107 [.func (.func fp) #[] #[]] := by rw [hw2]; exact Blk.at_ _ _ [_] (by simp)
 rw [← hw2] at hb2
 have HFL := Lib.hid (reach_flags A na ca M nm cm E ne ce n S cs 1 [0] w2 hn4 rfl ((hS.below hb2).more hb2.size) (fun s hs => by rw [List.mem_singleton.1 hs]; omega) hc1 hc2)
 have HP := Lib.hid hp; clear hp
 have HG := Lib.hid hg; clear hg
 have HST := Lib.hid hst; clear hst
 have HWF := Lib.hid hwf; clear hwf
 have HGC := Lib.hid hgc; clear hgc
 have HXA := Lib.hid hxa; clear hxa
 have HR := Lib.hid hr; clear hr
 have HS := Lib.hid hS; clear hS
 have HB2 := Lib.hid hb2; clear hb2
 have K0 := Lib.hid k0; clear k0
 have K1 := Lib.hid k1; clear k1
 have HW2 := Lib.hid hw2; clear hw2
 clear hx
 refine (callsIn_wide (n := 6)).1 ?_
 refine callsIn_of_wp_marks Try.func121 rfl trivial ?_ rfl
 simp only [Try.ntmps121, List.size_toArray, List.length_cons, List.length_nil, Nat.reduceAdd, Nat.reduceSub, Array.replicate_succ, Array.replicate_zero, List.push_toArray, List.append_toArray, List.nil_append, List.cons_append]
 refine wpIn_wide.2 ?_
 refine wp_mono ?_ noPanic_le
 go_wp2_with fail
 rw [← HW2.out]
 refine HFL.out.mono ?_
 rintro e w3 ⟨bN, rfl, hkN, hlN, hb⟩
 have hx := box_below w3 (.cells #[.slice (some ⟨bN, 0, none⟩) n n] 102)
 have k7 := Lib.hid (Blk.new w3 102 [.slice (some ⟨bN, 0, none⟩) n n])
 have hb4 := hb.trans (hx.mono hb.size)
 have HB4 := Lib.hid (HB2.out.trans (hb4.mono HB2.out.size))
 have h2s := K1.out.lt
 replace K0 := Lib.hid (K0.out.below hb4 K0.out.lt)
 replace K1 := Lib.hid (K1.out.below hb4 K1.out.lt)
 replace k7 := k7
 have HKN := Lib.hid (hkN.below hx hkN.lt)
 have HLN := Lib.hid (show w.heap.size + 2 ≤ bN by omega)
 have HL7 := Lib.hid (show w.heap.size + 2 ≤ w3.heap.size by have := hb.size; omega)
 clear HFL hb hx hb4 h2s hkN hlN HB2 HW2
 go_upto_region 2 with fail
 obtain ⟨b7, hn⟩ : ∃ b, w3.heap.size = b := ⟨_, rfl⟩
 rw [hn] at k7 HL7 ⊢
 generalize w3.alloc (.cells #[.slice (some ⟨bN, 0, none⟩) n n] 102) = w4 at k7 HB4 K0 K1 HKN ⊢
 clear hn
 have HCL := Lib.hid (slices_Clone_n S cs 1 [0] w4 rfl ((HS.out.below HB4.out).more HB4.out.size) (by omega))
 go_wp2_with fail
 refine HCL.out.mono ?_
 rintro e w5 ⟨v, rfl, ho, hb⟩
 obtain ⟨QA, qc, rfl⟩ := own_shape ho
 have hx := box_below w5 (.cells #[.slice QA 1 qc] 31)
 have hb6 := hb.trans (hx.mono hb.size)
 have k8 := Lib.hid (Blk.new w5 31 [.slice QA 1 qc])
 have HQ := Lib.hid (QRow.of_own (l := [0]) (own_base (own_below ho hx) HB4.out.size))
 have HB6 := Lib.hid (HB4.out.trans (hb6.mono HB4.out.size))
 have HL8 := Lib.hid (show w.heap.size + 2 ≤ w5.heap.size by have := hb.size; have := k7.out.lt; have := HL7.out; omega)
 replace K0 := Lib.hid (K0.out.below hb6 K0.out.lt)
 replace K1 := Lib.hid (K1.out.below hb6 K1.out.lt)
 replace k7 := Lib.hid (k7.out.below hb6 k7.out.lt)
 replace HKN := Lib.hid (HKN.out.below hb6 HKN.out.lt)
 clear HCL ho hb hx hb6 HB4
 go_upto_region 3 with fail
 obtain ⟨b8, hn⟩ : ∃ b, w5.heap.size = b := ⟨_, rfl⟩
 rw [hn] at k8 HL8 ⊢
 generalize w5.alloc (.cells #[.slice QA 1 qc] 31) = w6 at k7 k8 HQ HB6 K0 K1 HKN ⊢
 clear hn
 have HPT := Lib.hid (show FwM w w6 x ba n pv [] b7 b8 bN (.slice QA 1 qc) 1 [0] (inF n [0]) from
  ⟨HB6.out, by rw [HGC.out]; exact K0.out, by rw [hpv]; exact K1.out, HKN.out, k7.out, k8.out, HQ.out, HLN.out, HL7.out, HL8.out, List.nodup_nil, fun D hD => by cases hD⟩)
 have HSW := Lib.hid (FwW.start (n := n) (s := 0) (Int.le_refl _) (by omega))
 have HRR := Lib.hid (show fwdF a perm (n + 1 - 0) [0] (inF n [0]) = RES from by
  have h := HR.out
  unfold fwdS at h
  rw [HST.out] at h
  exact h)
 have HPV := Lib.hid hpv; clear hpv
 clear HKN k7 k8 HQ HB6 K0 K1 HLN HL7 HL8 HR
 --LOOP
 go_wp2
 refine wp_loop_ghost (fun g a' W => ∃ (i m : Nat) (qv : Value) (l : List Int) (N : List Bool) (ds : List Nat), FrmF [.agg #[.slice A na ca, .int .i64 (n : Int), .slice M nm cm, .slice E ne ce, .slice (some ⟨ba, 0, none⟩) (n + 1) (n + 1)], .slice S 1 cs, .func (.func fp) #[] #[], .pointer (some ⟨w.heap.size, 0, none⟩), undef, .pointer (some ⟨w.heap.size + 1, 0, none⟩), .slice none 0 0, .pointer (some ⟨b7, 0, none⟩), .pointer (some ⟨b8, 0, none⟩)] ds a' ∧ Hid (FwM w W x ba n pv ds b7 b8 bN qv m l N) ∧ Hid (FwW n i l N) ∧ Hid (fwdF a perm (n + 1 - i) l N = RES) ∧ i ≤ n ∧ g = n + 1 - i) (n + 1) ?start ?round
 case start => exact ⟨0, 1, _, [0], _, [], ⟨rfl, rfl, rfl⟩, HPT, HSW, HRR, Nat.zero_le _, rfl⟩
 case round =>
  clear HPT HSW HRR
  rintro g a' W ⟨i, m, qv, l, N, ds, hfr, HM, HSW, HRR, hi, rfl⟩
  refine FrmF.elim (Q := fun z => Code.wp _ _ _ z _) ?_ a' hfr
  clear hfr a'
  intro y9 y10 y11 y12 y13 y14 y15 y16 y17 y18 y19 y20 y21 y22 y23 y24 y25 y26 y27 y28 y29 y30 y31 y32 y33 y34 y35 y36 y37 y38 y39 y40 y41 y42 y43 y44 y45 y46 y47 y48 y49
  simp only [List.cons_append, List.nil_append]
  have hsz := HM.out.siz
  cases l with
  | nil =>
   have hm0 : m = 0 := by have := HM.out.row.1; simpa using this.symm
   subst hm0
   obtain ⟨QB, qc, rfl⟩ : ∃ A c, qv = .slice A 0 c := by
    rcases HM.out.row.2 with ⟨h1, _⟩ | ⟨g, q1, cap, cs1, h1, _⟩
    ·exact ⟨_, _, h1⟩
    ·exact ⟨_, _, h1⟩
   have c8 := HM.out.k8.cell (j := 0) rfl
   have c7 := HM.out.k7.cell (j := 0) rfl
   have b1 : ¬ (((0 : Nat) : Int) > 0) := by omega
   have HNO := Lib.hid (show N = RES from by
    rw [← HRR.out, show n + 1 - i = (n - i) + 1 by omega]
    rfl)
   go_wp2
   change LeavesInM Fence.wide 6 Try.prog Try.f121 _ _ (marks ds) .returning _
   refine leaves_marksI (B := w.heap.size) (fun V => Below w.heap.size w V ∧ Blk V bN 4 (bvl N)) (fun V D hV hB hD => ⟨hV.1.trans (belowK_b (w := w) (Nat.le_refl _) V D _ _ hB hD rfl rfl), hV.2.ncl (grownBy_putObj' V D _) (fun r e => by cases e; exact ⟨_, hD, rfl⟩)⟩) ds W HM.out.nd HM.out.mrk ⟨HM.out.bel, HM.out.bn⟩ (fun V hV => ⟨.slice (some ⟨bN, 0, none⟩) n n, by simp [results, Try.results121, go_sem], ?_⟩)
   rw [← HNO.out]
   exact ⟨bN, rfl, hV.2, by have := HM.out.lN; omega, hV.1⟩
  | cons s q =>
   obtain ⟨m, rfl⟩ : ∃ k, m = k + 1 := ⟨m - 1, by have := HM.out.row.1; simp only [List.length_cons] at this; omega⟩
   obtain ⟨gq, qq, cap, hqv, hgb, hgl, hcap, hcm, hcell⟩ := HM.out.row.head
   subst hqv
   have c8 := HM.out.k8.cell (j := 0) rfl
   have f8 := HM.out.k8.free 0
   have l8 := HM.out.k8.lt
   have hsr := HSW.out.rng s (List.mem_cons_self ..)
   obtain ⟨ss, rfl⟩ : ∃ k : Nat, s = (k : Int) := ⟨s.toNat, by omega⟩
   have b1 : ((m + 1 : Nat) : Int) > 0 := by omega
   have b2 : (0 : Int) < ((m + 1 : Nat) : Int) := by omega
   have hcap2 : cap ≤ 9223372036854775807 := by unfold maxLen at hcm; omega
   go_upto_region 6 with fail
   have HPF := Lib.hid (show fwdF a perm (n + 1 - (i + 1)) (rowF perm (outE a (ss : Int)) q N).1 (rowF perm (outE a (ss : Int)) q N).2 = RES from by
    have h := HRR.out
    have h9 := HSW.out.num
    simp only [List.length_cons] at h9
    rw [show n + 1 - i = (n + 1 - (i + 1)) + 1 by omega] at h
    exact h)
   have hin : i + 1 ≤ n := by have h9 := HSW.out.num; simp only [List.length_cons] at h9; omega
   obtain ⟨qv, hqv⟩ : ∃ v, v = Value.slice (if cap = 1 then some ⟨gq, qq, none⟩ else some ⟨gq, qq + 1, none⟩) m (cap - 1) := ⟨_, rfl⟩
   have hqo : ∀ g, qv.ownBlock = some g → g < W.heap.size := fun g e => by
    have := HM.out.row.tail.lt g (by rw [← hqv]; exact e)
    exact this.2
   have HM2 := Lib.hid (HM.out.queue HM.out.row.tail (grown_refl W _))
   rw [← hqv] at HM2 ⊢
   have HS2 := Lib.hid HSW.out.pop
   have hss : ss < n := by omega
   have hsz2 : (W.setCell ⟨b8, 0, none⟩ qv).heap.size = W.heap.size := by simp [World.setCell]
   generalize W.setCell ⟨b8, 0, none⟩ qv = W2 at HM2 hsz2 ⊢
   have HSZ2 := Lib.hid hsz2; clear hsz2
   have HQO := Lib.hid hqo; clear hqo
   clear HM HSW HRR c8 f8 l8 hcell hqv b1 b2
   have HED := Lib.hid (edges_ok x ba n (ss : Int) W2)
   rw [HGC.out] at HED
   have kg := HM2.out.g
   rw [HGC.out] at kg
   have a0 := kg.cell (j := 0) rfl
   have a1 := kg.cell (j := 1) rfl
   have a2 := kg.cell (j := 2) rfl
   have a3 := kg.cell (j := 3) rfl
   have a4 := kg.cell (j := 4) rfl
   go_wp2_with fail
   refine HED.out.mono ?_
   rintro e we ⟨rfl, hwe⟩
   have hbx1 := box_below W2 (.cells (grc x ba n).toArray 98)
   have hbx2 := hbx1.alloc hbx1.size (.cells #[.int .i64 (ss : Int)] 3)
   have kg1 := (Blk.new W2 98 (grc x ba n)).al (.cells #[.int .i64 (ss : Int)] 3)
   have ks1 := Blk.at_ (b := W2.heap.size + 1) (W2.alloc (.cells (grc x ba n).toArray 98)) 3 [.int .i64 (ss : Int)] (by simp)
   rw [HGC.out] at hbx2 kg1 ks1
   rw [← hwe] at hbx2
   rw [show ((W2.alloc (.cells (#[.slice A na ca, .int .i64 (n : Int), .slice M nm cm, .slice E ne ce, .slice (some ⟨ba, 0, none⟩) (n + 1) (n + 1)]) 98)).alloc (.cells #[.int .i64 (ss : Int)] 3)) = we from hwe.symm] at kg1 ks1
   rw [← HGC.out] at kg1
   have HBE := Lib.hid hbx2
   have hwz : W2.heap.size + 1 < we.heap.size := ks1.lt
   have HKG := Lib.hid kg1
   have HKS := Lib.hid ks1
   clear hwe hbx1 hbx2 kg1 ks1 HED kg a0 a1 a2 a3 a4
   go_wp2
   have HME := Lib.hid (HM2.out.quiet HBE.out)
   have HGE := Lib.hid (HG.out.keep HME.out.bel)
   refine rf_named (fun a0 ha0 => ?_)
   refine (wpIn_wide (n := 6)).1 ?_
   refine wpIn_rangeFunc_ownH (F := Fence.wide) (n := 6) rfl (by omega) (gf := 120) (lb := #[.pointer (some ⟨W2.heap.size, 0, none⟩), .pointer (some ⟨W2.heap.size + 1, 0, none⟩)]) (by rw [ha0]; rfl) trivial (enters_of Try.func120 (by kernel_rfl) rfl)
    (edges_stops 5 (by omega) W2.heap.size (W2.heap.size + 1) w.heap.size n ss ba x hss we HKG.out HKS.out HGE.out (by have := HME.out.siz; omega)) KpG.t (KpG.b (by have := HME.out.siz; omega)) (Below.refl _ _) (fun _ => rfl)
    (fun pre V => ∃ (qv2 : Value) (m2 : Nat) (l2 : List Int) (N2 : List Bool), Hid (rowF perm (pre.map Subtype.val) q N = (l2, N2)) ∧ Hid (FwM w V x ba n pv ds b7 b8 bN qv2 m2 l2 N2) ∧ Hid (FwW n (i + 1) l2 N2) ∧ Hid (some W2.heap.size ≠ qv2.ownBlock ∧ some (W2.heap.size + 1) ≠ qv2.ownBlock) ∧ Hid (Blk V W2.heap.size 98 (grc x ba n)) ∧ Hid (Blk V (W2.heap.size + 1) 3 [.int .i64 (ss : Int)]))
    (fun _ _ _ => False) ?hI (fun _ _ _ _ _ hs _ _ => hs) ⟨qv, m, q, N, Lib.hid rfl, HME, HS2, Lib.hid ⟨fun e => by have := HQO.out _ e.symm; have := HSZ2.out; omega, fun e => by have := HQO.out _ e.symm; have := HSZ2.out; omega⟩, HKG, HKS⟩
    (fun e a' V => ∃ Bx : Nat, W2.heap.size + 1 < Bx ∧ Hid (Blk V Bx 106 [.int .i64 e.1.f, .int .i64 e.1.e, .int .i64 e.1.t]) ∧ a' = { tmps := (a0.tmps.setIfInBounds 28 (.agg #[.int .i64 e.1.f, .int .i64 e.1.e, .int .i64 e.1.t])).setIfInBounds 10 (.pointer (some ⟨Bx, 0, none⟩)), defers := [] })
    ?hAx ?assign ?body ?done ?stop
   case hI =>
    rintro pre V V' row ⟨qv2, m2, l2, N2, HRW, HM3, HS3, HNE, HG2, HI2⟩ hgr hrw
    exact ⟨qv2, m2, l2, N2, HRW, Lib.hid (HM3.out.ncl hgr hrw (fun D hD => by have := (Array.getElem?_eq_some_iff.1 (HM2.out.mrk D hD).2).1; omega) (by have := HM2.out.siz; omega)), HS3, HNE, Lib.hid (HG2.out.ncl hgr (fun r e => (hrw r e).2)), Lib.hid (HI2.out.ncl hgr (fun r e => (hrw r e).2))⟩
   case hAx =>
    rintro e a' _ V V' row ⟨Bx, h1, h2, h3⟩ hgr hrw
    exact ⟨Bx, h1, Lib.hid (h2.out.ncl hgr (fun r e => (hrw r e).2)), h3⟩
   case assign =>
    rintro ll pre e V K ⟨qv2, m2, l2, N2, HRW, HM3, HS3, HNE, HG2, HI2⟩ hK
    subst ha0
    dsimp only [evl]
    gi_wp2
    have hbv := box_below V (.cells #[.int .i64 e.1.f, .int .i64 e.1.e, .int .i64 e.1.t] 106)
    have hsv := HM3.out.siz
    have hi2 := HI2.out.lt
    refine hK _ _ ((KeepsOthers.alloc _ _).from _) ⟨hbv.mono (by omega), fun t vs hb => hb.al _, fun t vs hb => hb.al _⟩ ⟨qv2, m2, l2, N2, HRW, Lib.hid (HM3.out.quiet hbv), HS3, HNE, Lib.hid (HG2.out.al _), Lib.hid (HI2.out.al _)⟩ ⟨V.heap.size, by omega, Lib.hid (Blk.new _ _ [_, _, _]), rfl⟩
   case body =>
    rintro ll pre ⟨ee, hee⟩ a' V hl9 ⟨r9, hr9⟩ ⟨qv2, m2, l2, N2, HRW, HM3, HS3, HNE, HG2, HI2⟩ ⟨Bx, hBx, HKX, rfl⟩ hlen
    subst ha0
    dsimp only at HKX
    simp only [List.setIfInBounds_toArray, List.set_cons_succ, List.set_cons_zero]
    have hme := outE_mem.1 hee
    rw [HXA.out] at hme
    have hev := HWF.out.ev_rng hme.1
    rw [HST.out] at hev
    obtain ⟨fq, hfq⟩ : ∃ q, fl N2 ee.t = q := ⟨_, rfl⟩
    have hNl := HS3.out.nl
    have c7 := HM3.out.k7.cell (j := 0) rfl
    have x0 := HKX.out.cell (j := 0) rfl
    have x1 := HKX.out.cell (j := 1) rfl
    have x2 := HKX.out.cell (j := 2) rfl
    have g1 : V.cell? ⟨bN, ee.t.toNat, none⟩ = some (.bool fq) := HM3.out.bn.cell (by rw [bvl_get, fl_get hfq (by omega) (by omega)]; rfl)
    have cpv : V.cell? ⟨w.heap.size + 1, 0, none⟩ = some pv := HM3.out.p.cell (j := 0) rfl
    rw [HPV.out] at cpv
    have t0 : ¬ ee.t < 0 := by omega
    have t1 : ee.t < (n : Int) := by omega
    have t2 : (0 : Int) ≤ ee.t := by omega
    have t3 : ee.t.toNat < n := by omega
    cases fq with
    | true =>
     have HNO := Lib.hid (rowF_no (e := ee) HRW.out (by rw [hfq]; simp))
     gi_wp2
     refine ⟨fun _ h => (by cases h), ?_⟩
     gi_wp2
     exact ⟨KeepsFrom.refl _ _, ⟨Below.refl _ _, fun _ _ h => h, fun _ _ h => h⟩, qv2, m2, l2, N2, Lib.hid (by rw [List.map_append]; exact HNO.out), HM3, HS3, HNE, HG2, HI2⟩
    | false =>
     have HPE := Lib.hid (HP.out ee V hme.1 HM3.out.bel)
     obtain ⟨pq, hpq⟩ : ∃ q, perm ee = q := ⟨_, rfl⟩
     rw [hpq] at HPE
     unfold evl at HPE
     rw [hme.2] at HPE
     gi_wp2
     refine ⟨trivial, ?_⟩
     refine (CallsIn.inRound ll (callsIn_wide.2 HPE.out)).mono ?_
     rintro r V2 ⟨rfl, hv2⟩
     have HM4 := Lib.hid (HM3.out.quiet hv2)
     have HK3 := Lib.hid (HKX.out.below hv2 HKX.out.lt)
     have HV2 := Lib.hid hv2
     have hsv2 := hv2.size
     clear c7 x0 x1 x2 g1 cpv hv2
     cases pq with
     | false =>
      have HNO := Lib.hid (rowF_no (e := ee) HRW.out (by rw [hpq]; simp))
      gi_wp2
      exact ⟨(KeepsOthers.of_grownBy (grown_below HV2.out none) (fun _ _ e => by cases e)).from _, ⟨HV2.out.mono (by have := HM3.out.siz; omega), fun _ _ h => h.below HV2.out h.lt, fun _ _ h => h.below HV2.out h.lt⟩, qv2, m2, l2, N2, Lib.hid (by rw [List.map_append]; exact HNO.out), HM4, HS3, HNE, Lib.hid (HG2.out.below HV2.out HG2.out.lt), Lib.hid (HI2.out.below HV2.out HI2.out.lt)⟩
     | true =>
      have HYE := Lib.hid (rowF_yes (e := ee) HRW.out ⟨hfq, hpq⟩)
      have HS4 := Lib.hid (HS3.out.push t2 t1 hfq)
      have c7 := HM4.out.k7.cell (j := 0) rfl
      have x0 := HK3.out.cell (j := 0) rfl
      have x1 := HK3.out.cell (j := 1) rfl
      have x2 := HK3.out.cell (j := 2) rfl
      have g1 : V2.cell? ⟨bN, ee.t.toNat, none⟩ = some (.bool false) := HM4.out.bn.cell (by rw [bvl_get, fl_get hfq (by omega) (by omega)]; rfl)
      have f1 : V2.frozen? ⟨bN, ee.t.toNat, none⟩ = false := HM4.out.bn.free _
      have l1 : bN < V2.heap.size := HM4.out.bn.lt
      have c8 := HM4.out.k8.cell (j := 0) rfl
      have nb1 : ¬ b8 = bN := blk_apart HM4.out.k8 HM4.out.bn (by decide)
      have nb2 : ¬ Bx = bN := blk_apart HK3.out HM4.out.bn (by decide)
      have nb3 : ¬ b7 = bN := blk_apart HM4.out.k7 HM4.out.bn (by decide)
      have HM5 := Lib.hid (HM4.out.flag (s := ee.t) t2 (by omega))
      have hmb : m2 + 1 ≤ 1000000 := by have := HS3.out.num; have := HM3.out.row.1; omega
      have HBX := Lib.hid (box_below (V2.setCell ⟨bN, ee.t.toNat, none⟩ (.bool true)) (.cells #[.int .i64 ee.t] 3))
      have HM6 := Lib.hid (HM5.out.quiet HBX.out)
      have HNW := Lib.hid (show Blk ((V2.setCell ⟨bN, ee.t.toNat, none⟩ (.bool true)).alloc (.cells #[.int .i64 ee.t] 3)) (V2.setCell ⟨bN, ee.t.toNat, none⟩ (.bool true)).heap.size 3 [.int .i64 ee.t] from Blk.new _ _ [_])
      have HSZ := Lib.hid (show (V2.setCell ⟨bN, ee.t.toNat, none⟩ (.bool true)).heap.size = V2.heap.size by simp [World.setCell])
      rw [HSZ.out] at HNW
      have hb3 : w.heap.size ≤ ((V2.setCell ⟨bN, ee.t.toNat, none⟩ (.bool true)).alloc (.cells #[.int .i64 ee.t] 3)).heap.size := by have := HM6.out.siz; omega
      gi_wp2_with (first
       | (gi_at_builtin; refine wpListIn_push_q ((V2.setCell ⟨bN, ee.t.toNat, none⟩ (.bool true)).alloc (.cells #[.int .i64 ee.t] 3)) rfl (.tmp 44) (.tmp 47) rfl w.heap.size qv2 m2 l2 rfl HM6.out.row ee.t V2.heap.size rfl HNW.out hmb hb3 ?_; intro v9 w9 ho9 hg9 hn9; obtain ⟨A9, c9, rfl⟩ := ho9.shape; have k8 := HM6.out.k8.kept hg9 (HM6.out.row.apart HM6.out.k8 (by decide)); have e8 : w9.cell? ⟨b8, 0, none⟩ = some qv2 := k8.cell (j := 0) rfl; have f8 : w9.frozen? ⟨b8, 0, none⟩ = false := k8.free 0; have l8 : b8 < w9.heap.size := k8.lt)
       | fail)
      have HMF := Lib.hid (HM6.out.queue ho9 hg9)
      have hv0 := HM3.out.siz
      have hl7 := HM3.out.lN
      have hl8 := HM3.out.l8
      have hi2 := HI2.out.lt
      have kp : ∀ b, b ≠ bN → b ≠ b8 → some b ≠ qv2.ownBlock → ∀ t vs, Blk V b t vs → Blk (w9.setCell ⟨b8, 0, none⟩ (.slice A9 (m2 + 1) c9)) b t vs := fun b h1 h2 hne t vs h =>
       ((((h.below HV2.out h.lt).kept (grown_setCell V2 bN ee.t.toNat (.bool true)) (fun e => h1 (by injection e))).al _).kept hg9 hne).kept (grown_setCell w9 b8 0 (.slice A9 (m2 + 1) c9)) (fun e => h2 (by injection e))
      have p1 := kp _ (blk_apart HG2.out HM3.out.bn (by decide)) (blk_apart HG2.out HM3.out.k8 (by decide)) HNE.out.1
      have p2 := kp _ (blk_apart HI2.out HM3.out.bn (by decide)) (blk_apart HI2.out HM3.out.k8 (by decide)) HNE.out.2
      have B1 : Below w.heap.size V V2 := HV2.out.mono (by omega)
      have B2 := B1.setCell (p := ⟨bN, ee.t.toNat, none⟩) (by show w.heap.size ≤ bN; omega) (.bool true)
      have B3 := B2.alloc (by have := HSZ.out; omega) (.cells #[.int .i64 ee.t] 3)
      have B4 := (B3.grown hg9 hb3 (fun k e => (HM6.out.row.lt k e).1)).setCell (p := ⟨b8, 0, none⟩) (by show w.heap.size ≤ b8; omega) (.slice A9 (m2 + 1) c9)
      have ko := ((((KeepsOthers.of_grownBy (grown_below HV2.out none) (fun _ _ e => by cases e)).trans (KeepsOthers.setCell V2 ⟨bN, ee.t.toNat, none⟩ (.bool true))).trans (KeepsOthers.alloc _ (.cells #[.int .i64 ee.t] 3))).trans (KeepsOthers.of_grownBy hg9 HM6.out.row.cells)).trans (KeepsOthers.setCell w9 ⟨b8, 0, none⟩ (.slice A9 (m2 + 1) c9))
      have hz9 : V2.heap.size + 1 = ((V2.setCell ⟨bN, ee.t.toNat, none⟩ (.bool true)).alloc (.cells #[.int .i64 ee.t] 3)).heap.size := by have := HSZ.out; simp [World.setCell]
      have hne9 : ∀ b, b < V.heap.size → some b ≠ qv2.ownBlock → some b ≠ (Value.slice A9 (m2 + 1) c9).ownBlock := fun b hb h e => by
       rcases hn9 with h9 | h9
       ·exact h (e.trans h9)
       ·rw [h9] at e; injection e with e; omega
      exact ⟨ko.from _, ⟨B4, p1, p2⟩, (.slice A9 (m2 + 1) c9), m2 + 1, l2 ++ [ee.t], fset N2 ee.t, Lib.hid (by rw [List.map_append]; exact HYE.out), HMF, HS4, Lib.hid ⟨hne9 _ (by omega) HNE.out.1, hne9 _ hi2 HNE.out.2⟩, Lib.hid (p1 _ _ HG2.out), Lib.hid (p2 _ _ HI2.out)⟩
   case done =>
    rintro D ys V hD hys ⟨qv2, m2, l2, N2, HRW, HM3, HS3, _, _, _⟩ hK
    rw [hys, HXA.out] at HRW
    rw [HRW.out] at HPF
    subst ha0
    have hnx := Lib.hid (HM3.out.mark (D := D) hK (by have := HM2.out.siz; omega) (fun h => by have := (Array.getElem?_eq_some_iff.1 (HM2.out.mrk D h).2).1; omega))
    go_wp2
    exact ⟨n + 1 - (i + 1), by omega, i + 1, m2, qv2, l2, N2, D :: ds, ⟨rfl, rfl, rfl⟩, hnx, HS3, HPF, by omega, rfl⟩
   case stop =>
    rintro D c pre V _ _ h _
    exact h.elim
end Go.Proofs.Ytddhaidimadliaa

/- Walks: reach.anyEdge, reach.reachable. -/
namespace Go.Proofs.Ytddhaidimadliaa
open Go.RowKit Go

theorem anyEdge_ok (e : Ed) (w : World) : Calls Try.prog 105 #[evl e] w fun r w' => r = .returned (.bool true) ∧ Below w.heap.size w w' := by
 have hb := box_below w (.cells #[.int .i64 e.f, .int .i64 e.e, .int .i64 e.t] 106)
 unfold evl
 go_enter Try.func105, Try.ntmps105
 go_wp2
 go_ret
 exact ⟨rfl, hb⟩
set_option maxRecDepth 100000 in
theorem reachable_ok (x : AV) (ba n : Nat) (w : World) (hg : GrR w w.heap.size x ba n) (hn0 : 0 < n) :
  Calls Try.prog 102 #[.agg (grc x ba n).toArray] w fun e w' => ∃ b, e = .returned (.slice (some ⟨b, 0, none⟩) n n) ∧ Blk w' b 4 (bvl (fwdS x.a [0] fun _ => true)) ∧ w.heap.size ≤ b ∧ Below w.heap.size w w' := by
 have hst : x.a.st = (n : Int) := hg.st
 have hgc : grc x ba n = [.slice x.A x.na x.ca, .int .i64 (n : Int), .slice x.M x.nm x.cm, .slice x.E x.ne x.ce, .slice (some ⟨ba, 0, none⟩) (n + 1) (n + 1)] := by unfold grc; rw [← hst]
 have hb2 := (box_below w (.cells (grc x ba n).toArray 98)).alloc (by simp) (.cells #[.int .i64 0] 3)
 have hs : Blk ((w.alloc (.cells (grc x ba n).toArray 98)).alloc (.cells #[.int .i64 0] 3)) (w.heap.size + 1) 3 [.int .i64 0] := Blk.at_ _ _ [_] (by simp)
 obtain ⟨w2, hw2⟩ : ∃ w2, w2 = (w.alloc (.cells (grc x ba n).toArray 98)).alloc (.cells #[.int .i64 0] 3) := ⟨_, rfl⟩
 rw [← hw2] at hb2 hs
 have HF := Lib.hid (forward_ok x ba n 105 (fun _ => true) (some ⟨w.heap.size + 1, 0, none⟩) 1 _ w2 ((hg.keep hb2).more hb2.size) hn0 (fun k u hu => by
  obtain rfl : k = 0 := by
   have := (List.getElem?_eq_some_iff.1 hu).1
   simpa [iv] using this
  exact ⟨_, rfl, hs.lt, by rw [Addr.add_lit]; exact hs.cell hu⟩) (Nat.le_refl _) (by omega) (fun _ _ => rfl) (fun e W _ _ => anyEdge_ok e W) rfl)
 rw [hgc] at HF hw2 ⊢
 have HW2 := Lib.hid hw2; clear hw2
 have HB2 := Lib.hid hb2; clear hb2
 have b0 : ((n : Int) == 0) = false := by rw [beq_eq_false_iff_ne]; omega
 clear hs hgc hst
 go_enter Try.func102, Try.ntmps102
 go_wp2_with fail
 rw [← HW2.out]
 refine HF.out.mono ?_
 rintro e w3 ⟨b, rfl, hk, hl, hb⟩
 go_wp2
 go_ret
 exact ⟨b, rfl, hk, by have := HB2.out.size; omega, HB2.out.trans (hb.mono HB2.out.size)⟩
end Go.Proofs.Ytddhaidimadliaa

/- Walks: the graph's path, with a permission that captures nothing. Printed by wip/mknh.py. -/
namespace Go.Proofs.Ytddhaidimadliaa
open Go.RowKit Go

attribute [local go_sem] Oper.semAt_some
set_option maxRecDepth 100000 in
set_option maxHeartbeats 3200000 in
theorem path_any (x : AV) (ba n s : Nat) (fw fp : Nat) (cw : Value) (want : Int → Bool) (perm : Ed → Bool) (RES : Option (List Int)) (w : World) (hg : GrR w w.heap.size x ba n) (hs : s < n)
  (efw : ∀ args W, (callFunc fw args).run Try.prog W = .ok (.enter fw args) W) (efp : ∀ args W, (callFunc fp args).run Try.prog W = .ok (.enter fp args) W)
  (hw : ∀ (t : Int) W, 0 ≤ t → t < (n : Int) → Below w.heap.size w W → Calls Try.prog fw #[.int .i64 t, cw] W fun e W' => e = .returned (.bool (want t)) ∧ W = W')
  (hp : ∀ (e : Ed) W, e ∈ x.a.ed → Below w.heap.size w W → Calls Try.prog fp #[evl e] W fun r W' => r = .returned (.bool (perm e)) ∧ Below W.heap.size W W')
  (hr : pathS x.a (s : Int) want perm = RES) :
  Calls Try.prog 51 #[.agg (grc x ba n).toArray, .int .i64 (s : Int), .func (.func fw) #[] #[cw], .func (.func fp) #[] #[]] w (RetPth RES w) := by
 obtain ⟨A, na, ca, M, nm, cm, E, ne, ce, a⟩ := x
 dsimp only at hp hr
 have hst : a.st = (n : Int) := hg.st
 have hwf : WF a := hg.wf
 have hn4 : n ≤ 4096 := by have := hwf.st1; omega
 obtain ⟨pv, hpv⟩ : ∃ v : Value, v = .func (.func fp) #[] #[] := ⟨_, rfl⟩
 obtain ⟨x, hx⟩ : ∃ z : AV, z = ⟨A, na, ca, M, nm, cm, E, ne, ce, a⟩ := ⟨_, rfl⟩
 rw [← hx] at hg ⊢
 have hxa : x.a = a := by rw [hx]
 have hgc : grc x ba n = [.slice A na ca, .int .i64 (n : Int), .slice M nm cm, .slice E ne ce, .slice (some ⟨ba, 0, none⟩) (n + 1) (n + 1)] := by unfold grc; rw [hx, ← hst]
 rw [hgc]
 have hm : ∀ W : World, (Instr.makeSlice 102 (.int .i64 (n : Int)) (.int .i64 (n : Int))).run Try.prog W = .ok (.slice (some ⟨W.heap.size, 0, none⟩) n n) (W.alloc (.cells (madeCells #[.bool false] n) 4)) := fun W => run_make_row' 102 4 (.bool false) 1 Try.underlying102 bool_info rfl .i64 .i64 n (by omega) (by omega) W
 have HW := Lib.hid hw; clear hw
 have HP := Lib.hid hp; clear hp
 have HG := Lib.hid hg; clear hg
 have HST := Lib.hid hst; clear hst
 have HWF := Lib.hid hwf; clear hwf
 have hgc9 := hgc
 have HGC := Lib.hid hgc; clear hgc
 have HXA := Lib.hid hxa; clear hxa
 have HR := Lib.hid hr; clear hr
 clear hx
 refine (callsIn_wide (n := 6)).1 ?_
 refine callsIn_of_wp_marks Try.func51 rfl trivial ?_ rfl
 simp only [Try.ntmps51, List.size_toArray, List.length_cons, List.length_nil, Nat.reduceAdd, Nat.reduceSub, Array.replicate_succ, Array.replicate_zero, List.push_toArray, List.append_toArray, List.nil_append, List.cons_append]
 refine wpIn_wide.2 ?_
 refine wp_mono ?_ noPanic_le
 go_upto_region 3 with fail
 obtain ⟨w5, hw5, hs5, hb5, k0, k1, k3, k2, k4, k5⟩ := PtM.made w x ba n pv (s : Int) _ hgc9
 rw [hpv] at hw5
 rw [← hw5]
 have HPV := Lib.hid hpv; clear hpv
 clear hw5
 have c11 : w5.cell? ⟨w.heap.size + 1 + 1 + 1 + 1 + 1, 0, none⟩ = some (.slice (some ⟨w.heap.size + 1 + 1 + 1 + 1, 0, none⟩) n n) := k5.cell (j := 0) rfl
 have f4 : w5.frozen? ⟨w.heap.size + 1 + 1 + 1 + 1, s, none⟩ = false := k4.free s
 have c4 : w5.cell? ⟨w.heap.size + 1 + 1 + 1 + 1, s, none⟩ = some (.bool false) := k4.cell (by rw [bvl_get, List.getElem?_replicate, if_pos hs]; rfl)
 have l4 : w.heap.size + 1 + 1 + 1 + 1 < w5.heap.size := k4.lt
 clear hm
 go_upto_region 4 with fail
 have hk4 := k4.set (j := s) (by rw [bvl_length, List.length_replicate]; exact hs) (.bool true)
 rw [bvl_set] at hk4
 have hgs := grown_setCell w5 (w.heap.size + 4) s (.bool true)
 have hne9 : ∀ k, k ≠ w.heap.size + 4 → some k ≠ some (w.heap.size + 4) := fun k hk e => hk (by injection e)
 have HM5 := Lib.hid (show Below w.heap.size w (w5.setCell ⟨w.heap.size + 4, s, none⟩ (.bool true)) ∧ Blk (w5.setCell ⟨w.heap.size + 4, s, none⟩ (.bool true)) w.heap.size 98 (grc x ba n) ∧ Blk (w5.setCell ⟨w.heap.size + 4, s, none⟩ (.bool true)) (w.heap.size + 1) 107 [pv] ∧ Blk (w5.setCell ⟨w.heap.size + 4, s, none⟩ (.bool true)) (w.heap.size + 3) 161 [.slice (some ⟨w.heap.size + 2, 0, none⟩) 1 1] ∧ (w5.setCell ⟨w.heap.size + 4, s, none⟩ (.bool true)).ownsRow w.heap.size 160 3 (.slice (some ⟨w.heap.size + 2, 0, none⟩) 1 1) 1 ([(⟨s, -1, -1⟩ : Stp)].flatMap stc) ∧ Blk (w5.setCell ⟨w.heap.size + 4, s, none⟩ (.bool true)) (w.heap.size + 4) 4 (bvl (fset (List.replicate n false) (s : Int))) ∧ Blk (w5.setCell ⟨w.heap.size + 4, s, none⟩ (.bool true)) (w.heap.size + 5) 102 [.slice (some ⟨w.heap.size + 4, 0, none⟩) n n] from
  ⟨hb5.setCell (p := ⟨w.heap.size + 4, s, none⟩) (by show w.heap.size ≤ w.heap.size + 4; omega) _, k0.kept hgs (hne9 _ (by omega)), k1.kept hgs (hne9 _ (by omega)), k3.kept hgs (hne9 _ (by omega)), k2.kept hgs (own_ne_blk k2 k4 (by decide)), hk4, k5.kept hgs (hne9 _ (by omega))⟩)
 have HS6 := Lib.hid (show (w5.setCell ⟨w.heap.size + 4, s, none⟩ (.bool true)).heap.size = w.heap.size + 6 by rw [show (w5.setCell ⟨w.heap.size + 4, s, none⟩ (.bool true)).heap.size = w5.heap.size by simp [World.setCell]]; exact hs5)
 clear c11 f4 c4 l4 k0 k1 k2 k3 k4 k5 hb5 hs5 hk4 hgs hne9
 obtain ⟨w6, hw6⟩ : ∃ w6, w6 = w5.setCell ⟨w.heap.size + 4, s, none⟩ (.bool true) := ⟨_, rfl⟩
 rw [← hw6] at HM5 HS6
 have hw6' : w5.setCell ⟨w.heap.size + 1 + 1 + 1 + 1, s, none⟩ (.bool true) = w6 := hw6.symm
 rw [hw6']
 clear hw6 hw6'
 have HPT := Lib.hid (show PtM w (w6.alloc (.cells #[.int .i64 0] 3)) x ba n pv [] w6.heap.size 0 (some ⟨w.heap.size + 2, 0, none⟩) 1 1 [⟨s, -1, -1⟩] (fset (List.replicate n false) (s : Int)) from by
  obtain ⟨h1, h2, h3, h4, h5, h6, h7⟩ := HM5.out
  have hb := box_below w6 (.cells #[.int .i64 0] 3)
  have hz := HS6.out
  exact ⟨h1.trans (hb.mono (by omega)), h2.below hb h2.lt, h3.below hb h3.lt, h4.below hb h4.lt, own_below h5 hb, h6.below hb h6.lt, h7.below hb h7.lt, Blk.new _ _ [_], by omega, rfl, List.nodup_nil, fun D hD => by cases hD⟩)
 have HSW := Lib.hid (StW.start (n := n) (s := (s : Int)) (by omega) (by omega))
 have HRR := Lib.hid (show pthF a want perm (n + 1 - 0) 0 [⟨s, -1, -1⟩] (fset (List.replicate n false) (s : Int)) = RES from by
  have h := HR.out
  unfold pathS at h
  rw [HST.out] at h
  exact h)
 go_wp2
 refine wp_loop_ghost (fun g a' W => ∃ (i m bI : Nat) (A9 : Option Addr) (c9 : Nat) (l : List Stp) (N : List Bool) (ds : List Nat), Frm [.agg #[.slice A na ca, .int .i64 (n : Int), .slice M nm cm, .slice E ne ce, .slice (some ⟨ba, 0, none⟩) (n + 1) (n + 1)], .int .i64 (s : Int), .func (.func fw) #[] #[cw], .func (.func fp) #[] #[], .pointer (some ⟨w.heap.size, 0, none⟩), undef, undef, .pointer (some ⟨w.heap.size + 1, 0, none⟩), .slice none 0 0, .bool false, .pointer (some ⟨w.heap.size + 1 + 1 + 1, 0, none⟩), .pointer (some ⟨w.heap.size + 1 + 1 + 1 + 1 + 1, 0, none⟩), .pointer (some ⟨bI, 0, none⟩)] ds a' ∧ Hid (PtM w W x ba n pv ds bI i A9 c9 m l N) ∧ Hid (StW n l N) ∧ Hid (pthF a want perm (n + 1 - i) i l N = RES) ∧ i ≤ m ∧ g = n + 1 - i) (n + 1) ?start ?round
 case start => exact ⟨0, 1, w6.heap.size, some ⟨w.heap.size + 2, 0, none⟩, 1, [⟨s, -1, -1⟩], fset (List.replicate n false) (s : Int), [], ⟨rfl, rfl, rfl⟩, HPT, HSW, HRR, Nat.zero_le _, rfl⟩
 case round =>
  clear HPT HSW HRR HM5 HS6
  rintro g a' W ⟨i, m, bI, A9, c9, l, N, ds, hfr, HM, HSW, HRR, hi, rfl⟩
  refine Frm.elim (Q := fun z => Code.wp _ _ _ z _) ?_ a' hfr
  clear hfr a'
  intro y13 y14 y15 y16 y17 y18 y19 y20 y21 y22 y23 y24 y25 y26 y27 y28 y29 y30 y31 y32 y33 y34 y35 y36 y37 y38 y39 y40 y41 y42 y43 y44 y45 y46 y47 y48 y49 y50 y51 y52 y53 y54 y55 y56 y57 y58 y59 y60 y61 y62 y63 y64 y65 y66 y67 y68 y69 y70 y71 y72 y73 y74 y75 y76 y77 y78 y79 y80 y81 y82 y83 y84 y85 y86 y87 y88 y89 y90 y91 y92 y93 y94
  simp only [List.cons_append, List.nil_append]
  have cI := HM.out.bi.cell (j := 0) rfl
  have c10 : W.cell? ⟨w.heap.size + 1 + 1 + 1, 0, none⟩ = some (.slice A9 m c9) := HM.out.b10.cell (j := 0) rfl
  have hmn : m ≤ n := by have := HSW.out.num; have := HM.out.len; omega
  have hsz := HM.out.siz
  obtain ⟨hc1, hc2⟩ := own_cap' HM.out.row
  by_cases hlt : i < m
  ·obtain ⟨ad, t, hA, hab, ht, hcell⟩ := RdR.get (RdR.of_own (f := stc) (by omega) (fun _ _ => rfl) HM.out.row) (k := i) (by rw [HM.out.len]; exact hlt)
   subst hA
   have b1 : (i : Int) < (m : Int) := by omega
   have q0 : W.cell? (ad.add (i * 3)) = some (.int .i64 t.s) := hcell 0 _ rfl
   have htr := HSW.out.rng t (List.mem_of_getElem? ht)
   obtain ⟨q, hq⟩ : ∃ q, want t.s = q := ⟨_, rfl⟩
   have HWT := Lib.hid (HW.out t.s W htr.1 htr.2 HM.out.bel)
   rw [hq] at HWT
   have HT := Lib.hid ht
   have HQ := Lib.hid hq
   clear hq hcell
   cases q with
   | true =>
    have HRES := Lib.hid (show RES = some (bckS l m i).reverse from by
     rw [← HRR.out, show n + 1 - i = (n - i) + 1 by omega]
     unfold pthF
     rw [HT.out]
     simp only
     rw [HQ.out, if_pos rfl, HM.out.len])
    have HCX := Lib.hid (fun (V : World) (hb : Below W.heap.size W V) => (show V.cell? ⟨w.heap.size + 1 + 1 + 1, 0, none⟩ = some (.slice (some ad) m c9) from (HM.out.b10.below hb HM.out.b10.lt).cell (j := 0) rfl))
    have HRX := Lib.hid (RdR.of_own (f := stc) (by omega) (fun _ _ => rfl) HM.out.row)
    go_wp2_with (go_at_fn fw; refine HWT.out.mono ?_; rintro e W' ⟨rfl, rfl⟩)
    go_loopw [13, 14] (fun s13 s14 wr => ∃ (kk mm : Nat) (v : Value) (wd : List Int), s13 = v ∧ s14 = .int .i64 kk ∧ kk < m ∧ mm + kk ≤ i ∧ Hid (wd.length = mm) ∧ Hid (wr.ownsRow W.heap.size 3 1 v mm (iv wd)) ∧ Hid (bckS l m i = wd ++ bckS l (kk + 1) kk) ∧ Hid (Below W.heap.size W wr)) (fun _ s14 _ => (intOf s14).toNat)
    case atStart => exact ⟨i, 0, _, [], rfl, rfl, hlt, by omega, Lib.hid rfl, Lib.hid (World.ownsRow_nil _ _ _ _), Lib.hid (bckS_any HSW.out i m (i + 1) hlt (by omega)), Lib.hid (Below.refl _ _)⟩
    case round =>
     clear cI c10 q0
     obtain ⟨kk, mm, v, wd, rfl, rfl, hkk, hmm, HWL, HWO, HBK, HBW⟩ := hrel
     obtain ⟨WA, wc9, rfl⟩ := own_shape HWO.out
     obtain ⟨ad2, t2, hA2, hab2, ht2, hcell2⟩ := RdR.get HRX.out (k := kk) (by rw [HM.out.len]; exact hkk)
     obtain rfl : ad = ad2 := by injection hA2
     have HE := Lib.hid (fun (V : World) (hb : Below W.heap.size W V) => (show V.cell? ⟨w.heap.size + 1 + 1 + 1, 0, none⟩ = some (.slice (some ad) m c9) ∧ V.cell? ⟨(ad.add (kk * 3)).block, (ad.add (kk * 3)).off + 1, none⟩ = some (.int .i64 t2.f) ∧ V.cell? ⟨(ad.add (kk * 3)).block, (ad.add (kk * 3)).off + 2, none⟩ = some (.int .i64 t2.e) from
      ⟨HCX.out V hb, st_cells (j := 0) ((hb.cell (p := ad.add (kk * 3 + 1)) (by rw [block_of_add]; exact hab2)).trans (hcell2 1 _ rfl)), st_cells (j := 1) ((hb.cell (p := ad.add (kk * 3 + 2)) (by rw [block_of_add]; exact hab2)).trans (hcell2 2 _ rfl))⟩))
     have b2 : (kk : Int) < (m : Int) := by omega
     have hbk := HSW.out.back kk t2 ht2
     have hws := HBW.out.size
     obtain ⟨d0, d1, d2⟩ := HE.out wr HBW.out
     by_cases hf : 0 ≤ t2.f
     ·obtain ⟨kf, hkf⟩ : ∃ k : Nat, t2.f = (k : Int) := ⟨t2.f.toNat, by omega⟩
      have HBG := Lib.hid (bckS_go HSW.out ht2 hkf)
      rw [hkf] at hf hbk d1 HE
      clear hcell2 hab2 ht2
      go_wp2_with (first
       | (at_builtin; refine wpList_pushA wr [.int .i64 t2.e] rfl (.tmp 51) (.tmp 57) 31 rfl W.heap.size 3 (.int .i64 0) 1 8 Try.underlying31 int_info rfl (by decide) rfl (.slice WA mm wc9) mm _ rfl HWO.out rfl (fun z hz => by simp at hz; subst hz; rfl) (by omega) (by omega) hws ?_; intro A6 c6 w7 ho6 hg6 hl6; have HO6 := Lib.hid (show w7.ownsRow W.heap.size 3 1 (.slice A6 (mm + 1) c6) (mm + 1) (iv (wd ++ [t2.e])) from by rw [iv_append]; exact ho6); have HB6 := Lib.hid (HBW.out.grown hg6 hws (fun z hz => (HWO.out.lt z hz).1)); clear ho6 hg6 hl6 d0 d1 d2; obtain ⟨d0, d1, d2⟩ := HE.out w7 HB6.out)
       | fail)
      go_roundw
      case rel => exact ⟨kf, mm + 1, _, wd ++ [t2.e], rfl, rfl, by omega, by omega, Lib.hid (by rw [List.length_append, HWL.out]; rfl), HO6, Lib.hid (by rw [HBK.out, HBG.out, List.append_assoc]; rfl), HB6⟩
      case measure => simp [intOf]; omega
     ·have HW9 := Lib.hid (show bckS l m i = wd from by rw [HBK.out, bckS_stop ht2 (by omega), List.append_nil])
      have hf' : ¬ (t2.f ≥ 0) := hf
      have HRV := Lib.hid (reverse_own W.heap.size mm (.slice WA mm wc9) wd wr HWO.out HWL.out (by omega))
      clear hcell2 hab2 ht2
      go_wp2_with (first | (go_at_call 72; refine HRV.out.mono ?_; rintro e w7 ⟨rfl, ho7, hg7⟩) | fail)
      have HB7 := Lib.hid (HBW.out.grown hg7 hws (fun z hz => (HWO.out.lt z hz).1))
      change LeavesInM Fence.wide 6 Try.prog Try.f51 _ _ (marks ds) .returning _
      refine leaves_marksI (B := w.heap.size) (fun V => Below w.heap.size w V ∧ V.ownsRow W.heap.size 3 1 (.slice WA mm wc9) mm (iv wd.reverse)) (fun V D hV hB hD => ⟨hV.1.trans (belowK_b (w := w) (Nat.le_refl _) V D _ _ hB hD rfl rfl), own_ncl hV.2 (grownBy_putObj' V D _) (fun r e => by cases e; exact ⟨_, hD, rfl⟩)⟩) ds w7 HM.out.nd (fun D hD => ⟨(HM.out.mrk D hD).1, (HB7.out.block D (Array.getElem?_eq_some_iff.1 (HM.out.mrk D hD).2).1).trans (HM.out.mrk D hD).2⟩) ⟨HM.out.bel.trans (HB7.out.mono (by omega)), ho7⟩ (fun V hV => ⟨.tuple #[.slice WA mm wc9, .bool true], by simp [results, Try.results51, go_sem], ?_⟩)
      rw [HRES.out, HW9.out]
      exact ⟨_, rfl, by rw [List.length_reverse, HWL.out]; exact own_base hV.2 (by omega), hV.1⟩
   | false =>
    have HPF := Lib.hid (show pthF a want perm (n + 1 - (i + 1)) (i + 1) (rowS perm i (outE a t.s) l N).1 (rowS perm i (outE a t.s) l N).2 = RES from by
     have h := HRR.out
     rw [show n + 1 - i = (n + 1 - (i + 1)) + 1 by omega] at h
     unfold pthF at h
     rw [HT.out] at h
     simp only at h
     rw [HQ.out, if_neg (by simp)] at h
     exact h)
    obtain ⟨ts, hts⟩ : ∃ k : Nat, t.s = (k : Int) := ⟨t.s.toNat, by omega⟩
    have htn : ts < n := by omega
    have HAX := Lib.hid (fun (V : World) (hb : Below W.heap.size W V) => (show (V.cell? ⟨w.heap.size, 0, none⟩ = some (.slice A na ca) ∧ V.cell? ⟨w.heap.size, 1, none⟩ = some (.int .i64 (n : Int)) ∧ V.cell? ⟨w.heap.size, 2, none⟩ = some (.slice M nm cm) ∧ V.cell? ⟨w.heap.size, 3, none⟩ = some (.slice E ne ce) ∧ V.cell? ⟨w.heap.size, 4, none⟩ = some (.slice (some ⟨ba, 0, none⟩) (n + 1) (n + 1))) ∧ V.cell? ⟨w.heap.size + 1 + 1 + 1, 0, none⟩ = some (.slice (some ad) m c9) ∧ V.cell? ⟨bI, 0, none⟩ = some (.int .i64 (i : Int)) ∧ V.cell? (ad.add (i * 3)) = some (.int .i64 t.s) from by
     have kg := HM.out.g.below hb HM.out.g.lt
     rw [HGC.out] at kg
     exact ⟨⟨kg.cell (j := 0) rfl, kg.cell (j := 1) rfl, kg.cell (j := 2) rfl, kg.cell (j := 3) rfl, kg.cell (j := 4) rfl⟩, (HM.out.b10.below hb HM.out.b10.lt).cell (j := 0) rfl, (HM.out.bi.below hb HM.out.bi.lt).cell (j := 0) rfl, (hb.cell (p := ad.add (i * 3)) (by rw [block_of_add]; exact hab)).trans q0⟩))
    rw [hts] at HAX q0 HWT HPF
    have hst9 : t.s = (ts : Int) := hts
    go_wp2_with (go_at_fn fw; refine HWT.out.mono ?_; rintro e W' ⟨rfl, rfl⟩)
    go_upto_region 15 with fail
    refine wp_region_U (fun V => (V.cell? ⟨w.heap.size, 0, none⟩ = some (.slice A na ca) ∧ V.cell? ⟨w.heap.size, 1, none⟩ = some (.int .i64 (n : Int)) ∧ V.cell? ⟨w.heap.size, 2, none⟩ = some (.slice M nm cm) ∧ V.cell? ⟨w.heap.size, 3, none⟩ = some (.slice E ne ce) ∧ V.cell? ⟨w.heap.size, 4, none⟩ = some (.slice (some ⟨ba, 0, none⟩) (n + 1) (n + 1))) ∧ V.cell? ⟨w.heap.size + 1 + 1 + 1, 0, none⟩ = some (.slice (some ad) m c9) ∧ V.cell? ⟨bI, 0, none⟩ = some (.int .i64 (i : Int)) ∧ V.cell? (ad.add (i * 3)) = some (.int .i64 (ts : Int))) (fun _ => True) 6 (by kernel_rfl) ?_
    change anyU _ _ _ _ _ _ _ 7 _ _ _
    have hB0 : True := trivial
    have HBD := Lib.hid (below_dr W)
    have hA0 := HAX.out _ HBD.out
    clear cI c10 q0 HWT
    generalize W.drew = wd at HBD hA0 ⊢
    have HED := Lib.hid (edges_ok x ba n (ts : Int) wd)
    rw [HGC.out] at HED
    (refine uA 0 ?_ rfl hA0 hB0 (fun W hA => ?_) ?_; rotate_left; (· (obtain ⟨⟨a0, a1, a2, a3, a4⟩, _⟩ := hA; go_simp; try with_reducible rfl)); (try simp only [Act.put, List.setIfInBounds_toArray, List.set_cons_zero, List.set_cons_succ]))
    (refine uA 1 ?_ rfl hA0 hB0 (fun W hA => ?_) ?_; rotate_left; (· (obtain ⟨_, a0, _⟩ := hA; go_simp; try with_reducible rfl)); (try simp only [Act.put, List.setIfInBounds_toArray, List.set_cons_zero, List.set_cons_succ]))
    (refine uA 2 ?_ rfl hA0 hB0 (fun W hA => ?_) ?_; rotate_left; (· (obtain ⟨_, _, a0, _⟩ := hA; go_simp; try with_reducible rfl)); (try simp only [Act.put, List.setIfInBounds_toArray, List.set_cons_zero, List.set_cons_succ]))
    (refine uA 3 ?_ rfl hA0 hB0 (fun W hA => ?_) ?_; rotate_left; (· (go_simp; try with_reducible rfl)); refine uA 4 ?_ rfl hA0 hB0 (fun W hA => ?_) ?_; rotate_left; (· (go_simp; try with_reducible rfl)); (try simp only [Act.put, List.setIfInBounds_toArray, List.set_cons_zero, List.set_cons_succ]))
    (refine uA 5 ?_ rfl hA0 hB0 (fun W hA => ?_) ?_; rotate_left; (· (obtain ⟨_, _, _, a0⟩ := hA; go_simp; try with_reducible rfl)); (try simp only [Act.put, List.setIfInBounds_toArray, List.set_cons_zero, List.set_cons_succ]))
    refine uOne (i := 6) rfl (by kernel_rfl) (fun K hK => ?_)
    go_simp
    go_at_call 92
    refine HED.out.mono ?_
    rintro e we ⟨rfl, hwe⟩
    have hbx1 := box_below wd (.cells (grc x ba n).toArray 98)
    have hbx2 := hbx1.alloc hbx1.size (.cells #[.int .i64 (ts : Int)] 3)
    have kg1 := (Blk.new wd 98 (grc x ba n)).al (.cells #[.int .i64 (ts : Int)] 3)
    have ks1 := Blk.at_ (b := wd.heap.size + 1) (wd.alloc (.cells (grc x ba n).toArray 98)) 3 [.int .i64 (ts : Int)] (by simp)
    rw [HGC.out] at hbx2 kg1 ks1
    rw [← hwe] at hbx2
    rw [show ((wd.alloc (.cells (#[.slice A na ca, .int .i64 (n : Int), .slice M nm cm, .slice E ne ce, .slice (some ⟨ba, 0, none⟩) (n + 1) (n + 1)]) 98)).alloc (.cells #[.int .i64 (ts : Int)] 3)) = we from hwe.symm] at kg1 ks1
    rw [← HGC.out] at kg1
    have HBE := Lib.hid (HBD.out.trans (hbx2.mono HBD.out.size))
    have hA1 := HAX.out we HBE.out
    clear hA0
    have hA0 := hA1
    have hwz : wd.heap.size + 1 < we.heap.size := ks1.lt
    have hwd : W.heap.size ≤ wd.heap.size := HBD.out.size
    have HKG := Lib.hid kg1
    have HKS := Lib.hid ks1
    clear hwe hbx1 hbx2 kg1 ks1 HED
    (refine hK _ _ ⟨hA1, fun _ => hB0⟩ ?_; clear hK K; (try simp only [Act.put, List.setIfInBounds_toArray, List.set_cons_zero, List.set_cons_succ]))
    refine anyU_done (by kernel_rfl) ?_ _
    clear hA0
    go_wp2
    have HME := Lib.hid (HM.out.quiet HBE.out)
    have hwe : W.heap.size ≤ we.heap.size := HBE.out.size
    have HGE := Lib.hid (HG.out.keep HME.out.bel)
    refine rf_named (fun a0 ha0 => ?_)
    refine (wpIn_wide (n := 6)).1 ?_
    refine wpIn_rangeFunc_ownH (F := Fence.wide) (n := 6) rfl (by omega) (gf := 120) (lb := #[.pointer (some ⟨wd.heap.size, 0, none⟩), .pointer (some ⟨wd.heap.size + 1, 0, none⟩)]) (by rw [ha0]; rfl) trivial (enters_of Try.func120 (by kernel_rfl) rfl)
     (edges_stops 5 (by omega) wd.heap.size (wd.heap.size + 1) w.heap.size n ts ba x htn we HKG.out HKS.out HGE.out (by omega)) KpG.t (KpG.b (by omega)) (Below.refl _ _) (fun _ => rfl)
     (fun pre V => ∃ (A2 : Option Addr) (c2 m2 : Nat) (l2 : List Stp) (N2 : List Bool), Hid (rowS perm i (pre.map Subtype.val) l N = (l2, N2)) ∧ Hid (PtM w V x ba n pv ds bI i A2 c2 m2 l2 N2) ∧ Hid (StW n l2 N2) ∧ m ≤ m2 ∧ Hid (Blk V wd.heap.size 98 (grc x ba n)) ∧ Hid (Blk V (wd.heap.size + 1) 3 [.int .i64 (ts : Int)]))
     (fun _ _ _ => False) ?hI (fun _ _ _ _ _ hs _ _ => hs) ⟨some ad, c9, m, l, N, Lib.hid rfl, HME, HSW, Nat.le_refl _, HKG, HKS⟩
     (fun e a' V => ∃ Bx : Nat, w.heap.size + 6 < Bx ∧ Hid (Blk V Bx 106 [.int .i64 e.1.f, .int .i64 e.1.e, .int .i64 e.1.t]) ∧ a' = { tmps := (a0.tmps.setIfInBounds 69 (.agg #[.int .i64 e.1.f, .int .i64 e.1.e, .int .i64 e.1.t])).setIfInBounds 15 (.pointer (some ⟨Bx, 0, none⟩)), defers := [] })
     ?hAx ?assign ?body ?done ?stop
    case hI =>
     rintro pre V V' row ⟨A2, c2, m2, l2, N2, HRW, HM2, HS2, hm2, HG2, HI2⟩ hgr hrw
     exact ⟨A2, c2, m2, l2, N2, HRW, Lib.hid (HM2.out.ncl hgr hrw (fun D hD => by have := (Array.getElem?_eq_some_iff.1 (HM.out.mrk D hD).2).1; omega) (by omega)), HS2, hm2, Lib.hid (HG2.out.ncl hgr (fun r e => (hrw r e).2)), Lib.hid (HI2.out.ncl hgr (fun r e => (hrw r e).2))⟩
    case hAx =>
     rintro e a' _ V V' row ⟨Bx, h1, h2, h3⟩ hgr hrw
     exact ⟨Bx, h1, Lib.hid (h2.out.ncl hgr (fun r e => (hrw r e).2)), h3⟩
    case assign =>
     rintro ll pre e V K ⟨A2, c2, m2, l2, N2, HRW, HM2, HS2, hm2, HG2, HI2⟩ hK
     subst ha0
     dsimp only [evl]
     gi_wp2
     have hbv := box_below V (.cells #[.int .i64 e.1.f, .int .i64 e.1.e, .int .i64 e.1.t] 106)
     have hsv := HM2.out.siz
     refine hK _ _ ((KeepsOthers.alloc _ _).from _) ⟨hbv.mono (by omega), fun t vs hb => hb.al _, fun t vs hb => hb.al _⟩ ⟨A2, c2, m2, l2, N2, HRW, Lib.hid (HM2.out.quiet hbv), HS2, hm2, Lib.hid (HG2.out.al _), Lib.hid (HI2.out.al _)⟩ ⟨V.heap.size, by omega, Lib.hid (Blk.new _ _ [_, _, _]), rfl⟩
    case body =>
     rintro ll pre ⟨ee, hee⟩ a' V hl9 ⟨r9, hr9⟩ ⟨A2, c2, m2, l2, N2, HRW, HM2, HS2, hm2, HG2, HI2⟩ ⟨Bx, hBx, HKX, rfl⟩ hlen
     subst ha0
     dsimp only at HKX
     simp only [List.setIfInBounds_toArray, List.set_cons_succ, List.set_cons_zero]
     have hme := outE_mem.1 hee
     rw [HXA.out] at hme
     have hev := HWF.out.ev_rng hme.1
     rw [HST.out] at hev
     obtain ⟨fq, hfq⟩ : ∃ q, fl N2 ee.t = q := ⟨_, rfl⟩
     have hNl := HS2.out.nl
     have c11 : V.cell? ⟨w.heap.size + 1 + 1 + 1 + 1 + 1, 0, none⟩ = some (.slice (some ⟨w.heap.size + 1 + 1 + 1 + 1, 0, none⟩) n n) := HM2.out.b11.cell (j := 0) rfl
     have x0 := HKX.out.cell (j := 0) rfl
     have x1 := HKX.out.cell (j := 1) rfl
     have x2 := HKX.out.cell (j := 2) rfl
     have g1 : V.cell? ⟨w.heap.size + 1 + 1 + 1 + 1, ee.t.toNat, none⟩ = some (.bool fq) := HM2.out.bn.cell (by rw [bvl_get, fl_get hfq (by omega) (by omega)]; rfl)
     have cpv : V.cell? ⟨w.heap.size + 1, 0, none⟩ = some pv := HM2.out.p.cell (j := 0) rfl
     rw [HPV.out] at cpv
     have t0 : ¬ ee.t < 0 := by omega
     have t1 : ee.t < (n : Int) := by omega
     have t2 : (0 : Int) ≤ ee.t := by omega
     have t3 : ee.t.toNat < n := by omega
     cases fq with
     | true =>
      have HNO := Lib.hid (rowS_no (e := ee) HRW.out (by rw [hfq]; simp))
      gi_wp2
      refine ⟨fun _ h => (by cases h), ?_⟩
      gi_wp2
      exact ⟨KeepsFrom.refl _ _, ⟨Below.refl _ _, fun _ _ h => h, fun _ _ h => h⟩, A2, c2, m2, l2, N2, Lib.hid (by rw [List.map_append]; exact HNO.out), HM2, HS2, hm2, HG2, HI2⟩
     | false =>
      have HPE := Lib.hid (HP.out ee V hme.1 HM2.out.bel)
      obtain ⟨pq, hpq⟩ : ∃ q, perm ee = q := ⟨_, rfl⟩
      rw [hpq] at HPE
      unfold evl at HPE
      rw [hme.2] at HPE
      gi_wp2
      refine ⟨trivial, ?_⟩
      refine (CallsIn.inRound ll (callsIn_wide.2 HPE.out)).mono ?_
      rintro r V2 ⟨rfl, hv2⟩
      have HM3 := Lib.hid (HM2.out.quiet hv2)
      have HK3 := Lib.hid (HKX.out.below hv2 HKX.out.lt)
      have HV2 := Lib.hid hv2
      have hsv2 := hv2.size
      clear c11 x0 x1 x2 g1 cpv hv2
      cases pq with
      | false =>
       have HNO := Lib.hid (rowS_no (e := ee) HRW.out (by rw [hpq]; simp))
       gi_wp2
       exact ⟨(KeepsOthers.of_grownBy (grown_below HV2.out none) (fun _ _ e => by cases e)).from _, ⟨HV2.out.mono (by have := HM2.out.siz; omega), fun _ _ h => h.below HV2.out h.lt, fun _ _ h => h.below HV2.out h.lt⟩, A2, c2, m2, l2, N2, Lib.hid (by rw [List.map_append]; exact HNO.out), HM3, HS2, hm2, Lib.hid (HG2.out.below HV2.out HG2.out.lt), Lib.hid (HI2.out.below HV2.out HI2.out.lt)⟩
      | true =>
       have HYE := Lib.hid (rowS_yes (e := ee) HRW.out ⟨hfq, hpq⟩)
       have HS3 := Lib.hid (HS2.out.push (x := ee) (i := i) (by rw [HM2.out.len]; omega) t2 t1 (by omega) (by omega) hfq)
       have c11 : V2.cell? ⟨w.heap.size + 1 + 1 + 1 + 1 + 1, 0, none⟩ = some (.slice (some ⟨w.heap.size + 1 + 1 + 1 + 1, 0, none⟩) n n) := HM3.out.b11.cell (j := 0) rfl
       have x0 := HK3.out.cell (j := 0) rfl
       have x1 := HK3.out.cell (j := 1) rfl
       have x2 := HK3.out.cell (j := 2) rfl
       have g1 : V2.cell? ⟨w.heap.size + 1 + 1 + 1 + 1, ee.t.toNat, none⟩ = some (.bool false) := HM3.out.bn.cell (by rw [bvl_get, fl_get hfq (by omega) (by omega)]; rfl)
       have f1 : V2.frozen? ⟨w.heap.size + 1 + 1 + 1 + 1, ee.t.toNat, none⟩ = false := HM3.out.bn.free _
       have l1 : w.heap.size + 1 + 1 + 1 + 1 < V2.heap.size := HM3.out.bn.lt
       have c10 : V2.cell? ⟨w.heap.size + 1 + 1 + 1, 0, none⟩ = some (.slice A2 m2 c2) := HM3.out.b10.cell (j := 0) rfl
       have cI := HM3.out.bi.cell (j := 0) rfl
       have hli := HM3.out.lti
       have nb1 : ¬ bI = w.heap.size + 1 + 1 + 1 + 1 := by omega
       have nb2 : ¬ Bx = w.heap.size + 1 + 1 + 1 + 1 := by omega
       have HM4 := Lib.hid (HM3.out.flag (s := ee.t) t2 (by omega))
       obtain ⟨i0, hi0, hz0, hz1, hz2⟩ := info_parts stp_info
       have hmb : m2 + 1 ≤ 4097 := by have := HS2.out.num; have := HM2.out.len; omega
       have HBX := Lib.hid (box_below (V2.setCell ⟨w.heap.size + 4, ee.t.toNat, none⟩ (.bool true)) (.cells #[.int .i64 ee.t, .int .i64 (i : Int), .int .i64 ee.e] 160))
       have HM5 := Lib.hid (HM4.out.quiet HBX.out)
       have HNW := Lib.hid (show Blk ((V2.setCell ⟨w.heap.size + 4, ee.t.toNat, none⟩ (.bool true)).alloc (.cells #[.int .i64 ee.t, .int .i64 (i : Int), .int .i64 ee.e] 160)) (V2.setCell ⟨w.heap.size + 4, ee.t.toNat, none⟩ (.bool true)).heap.size 160 [.int .i64 ee.t, .int .i64 (i : Int), .int .i64 ee.e] from Blk.new _ _ [_, _, _])
       have HSZ := Lib.hid (show (V2.setCell ⟨w.heap.size + 4, ee.t.toNat, none⟩ (.bool true)).heap.size = V2.heap.size by simp [World.setCell])
       rw [HSZ.out] at HNW
       have hb3 : w.heap.size ≤ ((V2.setCell ⟨w.heap.size + 4, ee.t.toNat, none⟩ (.bool true)).alloc (.cells #[.int .i64 ee.t, .int .i64 (i : Int), .int .i64 ee.e] 160)).heap.size := by have := HM5.out.siz; omega
       gi_wp2_with (first
        | (gi_at_builtin; refine wpListIn_append_own ((V2.setCell ⟨w.heap.size + 4, ee.t.toNat, none⟩ (.bool true)).alloc (.cells #[.int .i64 ee.t, .int .i64 (i : Int), .int .i64 ee.e] 160)) rfl (.tmp 85) (.tmp 92) 161 rfl w.heap.size 160 i0 (.agg #[.int .i64 0, .int .i64 0, .int .i64 0]) 3 24 Try.underlying161 hi0 hz0 hz1 hz2 rfl (by decide) (.slice A2 m2 c2) m2 _ rfl HM5.out.row ⟨V2.heap.size, 0, none⟩ 1 1 [.int .i64 ee.t, .int .i64 (i : Int), .int .i64 ee.e] rfl rfl (fun j u hu => by rw [add_lit0]; exact HNW.out.cell hu) (fun u hu => by simp at hu; rcases hu with rfl | rfl | rfl <;> rfl) (by unfold maxLen; omega) (by omega) hb3 ?_; intro v9 w9 ho9 hg9 _; obtain ⟨A9, c99, rfl⟩ := own_shape ho9; have k10 := HM5.out.b10.kept hg9 (blk_ne_own HM5.out.row HM5.out.b10 (by decide)); have e10 : w9.cell? ⟨w.heap.size + 1 + 1 + 1, 0, none⟩ = some (.slice A2 m2 c2) := k10.cell (j := 0) rfl; have f10 : w9.frozen? ⟨w.heap.size + 1 + 1 + 1, 0, none⟩ = false := k10.free 0; have l10 : w.heap.size + 1 + 1 + 1 < w9.heap.size := k10.lt)
        | fail)
       have HMF := Lib.hid (HM5.out.push (t := ⟨ee.t, i, ee.e⟩) ho9 hg9)
       have hv0 := HM2.out.siz
       have kp : ∀ b, w.heap.size + 6 < b → some b ≠ (Value.slice A2 m2 c2).ownBlock → ∀ t vs, Blk V b t vs → Blk (w9.setCell ⟨w.heap.size + 3, 0, none⟩ (.slice A9 (m2 + 1) c99)) b t vs := fun b hb hne t vs h =>
        ((((h.below HV2.out h.lt).kept (grown_setCell V2 (w.heap.size + 4) ee.t.toNat (.bool true)) (fun e => by injection e with e; omega)).al _).kept hg9 hne).kept (grown_setCell w9 (w.heap.size + 3) 0 (.slice A9 (m2 + 1) c99)) (fun e => by injection e with e; omega)
       have k4 : ∀ b, w.heap.size + 6 < b → ∀ t vs, Blk V b t vs → Blk ((V2.setCell ⟨w.heap.size + 4, ee.t.toNat, none⟩ (.bool true)).alloc (.cells #[.int .i64 ee.t, .int .i64 (i : Int), .int .i64 ee.e] 160)) b t vs := fun b hb t vs h =>
        ((h.below HV2.out h.lt).kept (grown_setCell V2 (w.heap.size + 4) ee.t.toNat (.bool true)) (fun e => by injection e with e; omega)).al _
       have n1 := blk_ne_own HM5.out.row (k4 _ (by omega) _ _ HG2.out) (by decide)
       have n2 := blk_ne_own HM5.out.row (k4 _ (by omega) _ _ HI2.out) (by decide)
       have B1 : Below w.heap.size V V2 := HV2.out.mono (by omega)
       have B2 := B1.setCell (p := ⟨w.heap.size + 4, ee.t.toNat, none⟩) (by show w.heap.size ≤ w.heap.size + 4; omega) (.bool true)
       have B3 := B2.alloc (by have := HSZ.out; omega) (.cells #[.int .i64 ee.t, .int .i64 (i : Int), .int .i64 ee.e] 160)
       have B4 := (B3.grown hg9 hb3 (fun k e => (HM5.out.row.lt k e).1)).setCell (p := ⟨w.heap.size + 3, 0, none⟩) (by show w.heap.size ≤ w.heap.size + 3; omega) (.slice A9 (m2 + 1) c99)
       have ko := ((((KeepsOthers.of_grownBy (grown_below HV2.out none) (fun _ _ e => by cases e)).trans (KeepsOthers.setCell V2 ⟨w.heap.size + 4, ee.t.toNat, none⟩ (.bool true))).trans (KeepsOthers.alloc _ (.cells #[.int .i64 ee.t, .int .i64 (i : Int), .int .i64 ee.e] 160))).trans (KeepsOthers.of_grownBy hg9 (own_cells HM5.out.row))).trans (KeepsOthers.setCell w9 ⟨w.heap.size + 3, 0, none⟩ (.slice A9 (m2 + 1) c99))
       exact ⟨ko.from _, ⟨B4, kp _ (by omega) n1, kp _ (by omega) n2⟩, A9, c99, m2 + 1, l2 ++ [⟨ee.t, i, ee.e⟩], fset N2 ee.t, Lib.hid (by rw [List.map_append]; exact HYE.out), HMF, HS3, by omega, Lib.hid (kp _ (by omega) n1 _ _ HG2.out), Lib.hid (kp _ (by omega) n2 _ _ HI2.out)⟩
    case done =>
     rintro D ys V hD hys ⟨A2, c2, m2, l2, N2, HRW, HM2, HS2, hm2, _, _⟩ hK
     rw [hys, HXA.out] at HRW
     rw [HRW.out] at HPF
     subst ha0
     have cI2 := HM2.out.bi.cell (j := 0) rfl
     have hin : (i : Int) + 1 ≤ 9223372036854775807 := by omega
     have hszw := HME.out.siz
     have hnx := Lib.hid (HM2.out.next (D := D) hK (by omega) (fun h => by have := (Array.getElem?_eq_some_iff.1 (HME.out.mrk D h).2).1; omega))
     clear hszw
     go_wp2
     exact ⟨n + 1 - (i + 1), by omega, i + 1, m2, V.heap.size, A2, c2, l2, N2, D :: ds, ⟨rfl, rfl, rfl⟩, hnx, HS2, HPF, by omega, rfl⟩
    case stop =>
     rintro D c pre V _ _ h _
     exact h.elim
  ·obtain rfl : i = m := by omega
   have b1 : ¬ (i : Int) < (i : Int) := by omega
   have HNO := Lib.hid (show RES = none from by
    rw [← HRR.out, show n + 1 - i = (n - i) + 1 by omega]
    unfold pthF
    rw [List.getElem?_eq_none (by rw [HM.out.len]; exact Nat.le_refl _)])
   go_wp2
   change LeavesInM Fence.wide 6 Try.prog Try.f51 _ _ (marks ds) .returning _
   refine leaves_marksI (B := w.heap.size) (fun V => Below w.heap.size w V) (fun V D hV hB hD => hV.trans (belowK_b (w := w) (Nat.le_refl _) V D _ _ hB hD rfl rfl)) ds W HM.out.nd HM.out.mrk HM.out.bel (fun V hV => ⟨.tuple #[.slice none 0 0, .bool false], by simp [results, Try.results51, go_sem], ?_⟩)
   rw [HNO.out]
   exact ⟨rfl, hV⟩
end Go.Proofs.Ytddhaidimadliaa

/- Walks: the closures of reach.Cycle and of round. -/
namespace Go.Proofs.Ytddhaidimadliaa
open Go.RowKit Go

/-- is an event permitted? -/
theorem cycle1_ok (b : Nat) (N : List Bool) (e : Ed) (w : World) (hk : Blk w b 169 (bvl N)) (hN : N.length = 32) (h0 : 0 ≤ e.e) (h1 : e.e < 32) :
  Calls Try.prog 101 #[evl e, .pointer (some ⟨b, 0, none⟩)] w fun r w' => r = .returned (.bool (fl N e.e)) ∧ Below w.heap.size w w' := by
 have hb := box_below w (.cells #[.int .i64 e.f, .int .i64 e.e, .int .i64 e.t] 106)
 obtain ⟨q, hq⟩ : ∃ q, fl N e.e = q := ⟨_, rfl⟩
 rw [hq]
 have c0 := (hk.al (.cells #[.int .i64 e.f, .int .i64 e.e, .int .i64 e.t] 106)).cell (j := e.e.toNat) (u := .bool q) (by rw [bvl_get, fl_get hq (by omega) (by omega)]; rfl)
 have t0 : ¬ e.e < 0 := by omega
 have t3 : e.e.toNat < 32 := by omega
 have hlt := hk.lt
 unfold evl
 clear hq hk
 go_enter Try.func101, Try.ntmps101
 go_wp2
 go_ret
 exact ⟨rfl, hb⟩
theorem cycle2_ok (b : Nat) (s t : Int) (w : World) (hk : Blk w b 3 [.int .i64 s]) :
  Calls Try.prog 104 #[.int .i64 t, .pointer (some ⟨b, 0, none⟩)] w fun r w' => r = .returned (.bool (t == s)) ∧ w = w' := by
 have c0 := hk.cell (j := 0) rfl
 go_enter Try.func104, Try.ntmps104
 go_wp2
 go_ret
 exact ⟨rfl, rfl⟩
theorem round1_ok (b : Nat) (s t : Int) (w : World) (hk : Blk w b 3 [.int .i64 s]) :
  Calls Try.prog 122 #[.int .i64 t, .pointer (some ⟨b, 0, none⟩)] w fun r w' => r = .returned (.bool (t == s)) ∧ w = w' := by
 have c0 := hk.cell (j := 0) rfl
 go_enter Try.func122, Try.ntmps122
 go_wp2
 go_ret
 exact ⟨rfl, rfl⟩
end Go.Proofs.Ytddhaidimadliaa

/- The graph's round: its plain law and its memory. -/
namespace Go.Proofs.Ytddhaidimadliaa
open Go.RowKit Go

/-- the steps are edges that are permitted -/
def StP (a : Aut) (perm : Ed → Bool) (l : List Stp) : Prop := ∀ t ∈ l, t.f < 0 ∨ ∃ x ∈ a.ed, perm x = true ∧ x.e = t.e
theorem rowS_inv {a : Aut} {perm : Ed → Bool} (h : WF a) {n : Nat} (hn : a.st = (n : Int)) {i : Nat} : ∀ (r : List Ed) (l : List Stp) (N : List Bool), (∀ x ∈ r, x ∈ a.ed) → StW n l N → StP a perm l → i < l.length →
  StW n (rowS perm i r l N).1 (rowS perm i r l N).2 ∧ StP a perm (rowS perm i r l N).1
 | [], _, _, _, hw, hp, _ => ⟨hw, hp⟩
 | x :: r, l, N, hr, hw, hp, hi => by
  have hx := hr x (List.mem_cons_self ..)
  by_cases hc : fl N x.t = false ∧ perm x = true
  ·rw [rowS_pos hc]
   have hg := h.ev_rng hx
   refine rowS_inv h hn r _ _ (fun y hy => hr y (List.mem_cons_of_mem _ hy)) (hw.push hi hg.2.2.1 (by omega) hg.2.2.2.2.1 hg.2.2.2.2.2 hc.1) (fun t ht => ?_) (by rw [List.length_append]; omega)
   rcases List.mem_append.1 ht with ht | ht
   ·exact hp t ht
   ·rw [List.mem_singleton.1 ht]; exact .inr ⟨x, hx, hc.2, rfl⟩
  ·rw [rowS_neg hc]
   exact rowS_inv h hn r _ _ (fun y hy => hr y (List.mem_cons_of_mem _ hy)) hw hp hi
theorem bckS_in {a : Aut} {perm : Ed → Bool} {l : List Stp} (hp : StP a perm l) : ∀ (g : Nat) (k : Int), (bckS l g k).length ≤ g ∧ ∀ v ∈ bckS l g k, ∃ x ∈ a.ed, perm x = true ∧ x.e = v
 | 0, _ => ⟨Nat.le_refl _, fun v hv => by cases hv⟩
 | g + 1, k => by
  unfold bckS
  cases ht : l[k.toNat]? with
  | none => exact ⟨Nat.zero_le _, fun v hv => by cases hv⟩
  | some t =>
   simp only
   by_cases hf : t.f < 0
   ·rw [if_pos hf]; exact ⟨Nat.zero_le _, fun v hv => by cases hv⟩
   ·rw [if_neg hf]
    have hi := bckS_in hp g t.f
    refine ⟨by simp only [List.length_cons]; omega, fun v hv => ?_⟩
    rcases List.mem_cons.1 hv with rfl | hv
    ·rcases hp t (List.mem_of_getElem? ht) with h | h
     ·exact absurd h hf
     ·exact h
    ·exact hi.2 v hv
theorem pthF_in {a : Aut} {want : Int → Bool} {perm : Ed → Bool} (h : WF a) {n : Nat} (hn : a.st = (n : Int)) : ∀ (g i : Nat) (l : List Stp) (N : List Bool) (ws : List Int), StW n l N → StP a perm l → pthF a want perm g i l N = some ws → ws.length ≤ n ∧ ∀ v ∈ ws, ∃ x ∈ a.ed, perm x = true ∧ x.e = v
 | 0, _, _, _, _, _, _, e => by cases e
 | g + 1, i, l, N, ws, hw, hp, e => by
  unfold pthF at e
  cases ht : l[i]? with
  | none => rw [ht] at e; cases e
  | some t =>
   rw [ht] at e
   simp only at e
   by_cases hq : want t.s = true
   ·rw [if_pos hq] at e
    injection e with e
    subst e
    have hb := bckS_in hp l.length (i : Int)
    have := hw.num
    exact ⟨by rw [List.length_reverse]; omega, fun v hv => hb.2 v (List.mem_reverse.1 hv)⟩
   ·rw [if_neg hq] at e
    have hr := rowS_inv (i := i) h hn (outE a t.s) l N (fun x hx => (outE_mem.1 hx).1) hw hp (List.getElem?_eq_some_iff.1 ht).1
    exact pthF_in h hn g _ _ _ ws hr.1 hr.2 e
/-- a path is short, and its events are permitted -/
theorem pathS_in {a : Aut} {want : Int → Bool} {perm : Ed → Bool} (h : WF a) {n : Nat} (hn : a.st = (n : Int)) {s : Int} (h0 : 0 ≤ s) (h1 : s < (n : Int)) {ws : List Int} (e : pathS a s want perm = some ws) : ws.length ≤ n ∧ ∀ v ∈ ws, ∃ x ∈ a.ed, perm x = true ∧ x.e = v := by
 unfold pathS at e
 rw [hn, Int.toNat_natCast] at e
 exact pthF_in h hn _ _ _ _ ws (StW.start h0 h1) (fun t ht => by rw [List.mem_singleton.1 ht]; exact .inl (by show (-1 : Int) < 0; omega)) e
/-- one edge of a round -/
def rndX (a : Aut) (s : Int) (perm : Ed → Bool) (c : List Int × Bool) (x : Ed) : List Int × Bool :=
 if perm x = true then
  match pathS a x.t (fun t => t == s) perm with
  | none => c
  | some ws => if c.2 = false ∨ ws.length + 1 < c.1.length then (x.e :: ws, true) else c
 else c
/-- the same, by the path that was found -/
def rndY (e : Int) (c : List Int × Bool) : Option (List Int) → List Int × Bool
 | none => c
 | some ws => if c.2 = false ∨ ws.length + 1 < c.1.length then (e :: ws, true) else c
theorem rndX_yes {a : Aut} {s : Int} {perm : Ed → Bool} {c : List Int × Bool} {x : Ed} {t : Int} {res : Option (List Int)} (hp : perm x = true) (ht : x.t = t) (hr : pathS a t (fun t => t == s) perm = res) : rndX a s perm c x = rndY x.e c res := by
 unfold rndX
 rw [if_pos hp, ht, hr]
 cases res <;> rfl
/-- the least word that leads from a state to itself -/
def rndF (a : Aut) (s : Int) (perm : Ed → Bool) : List Int × Bool := (outE a s).foldl (rndX a s perm) ([], false)
/-- round's memory -/
structure RnM (w V : World) (x : AV) (ba n : Nat) (s : Int) (pv : Value) (bv : Value) (m : Nat) (l : List Int) (fd : Bool) : Prop where
 bel : Below w.heap.size w V
 g : Blk V w.heap.size 98 (grc x ba n)
 s0 : Blk V (w.heap.size + 1) 3 [.int .i64 s]
 p : Blk V (w.heap.size + 2) 107 [pv]
 kb : Blk V (w.heap.size + 3) 31 [bv]
 kf : Blk V (w.heap.size + 4) 4 [.bool fd]
 row : V.ownsRow (w.heap.size + 5) 3 1 bv m (iv l)
section
variable {w V W : World} {x : AV} {ba n : Nat} {s : Int} {pv bv : Value} {m : Nat} {l : List Int} {fd : Bool}
theorem RnM.siz (h : RnM w V x ba n s pv bv m l fd) : w.heap.size + 4 < V.heap.size := h.kf.lt
theorem RnM.quiet (h : RnM w V x ba n s pv bv m l fd) (hb : Below V.heap.size V W) : RnM w W x ba n s pv bv m l fd :=
 have hs := h.siz
 ⟨h.bel.trans (hb.mono (by omega)), h.g.below hb h.g.lt, h.s0.below hb h.s0.lt, h.p.below hb h.p.lt, h.kb.below hb h.kb.lt, h.kf.below hb h.kf.lt, own_below h.row hb⟩
theorem RnM.ncl (h : RnM w V x ba n s pv bv m l fd) {row : Option Nat} {B : Nat} (hg : V.grownBy W row) (hr : ∀ r, row = some r → B ≤ r ∧ ∃ o : Obj, V.heap[r]? = some o ∧ o.isCells = false) (hwB : w.heap.size ≤ B) : RnM w W x ba n s pv bv m l fd :=
 have hs := h.siz
 have hr' := fun r e => (hr r e).2
 ⟨h.bel.grown hg (by omega) (fun k e => by have := (hr k e).1; omega), h.g.ncl hg hr', h.s0.ncl hg hr', h.p.ncl hg hr', h.kb.ncl hg hr', h.kf.ncl hg hr', own_ncl h.row hg hr'⟩
/-- a word is taken: it lies in a row that was made since -/
theorem RnM.take (h : RnM w V x ba n s pv bv m l fd) (hb : Below V.heap.size V W) {bv' : Value} {m' : Nat} {l' : List Int} (ho : W.ownsRow (w.heap.size + 5) 3 1 bv' m' (iv l')) :
  RnM w ((W.setCell ⟨w.heap.size + 3, 0, none⟩ bv').setCell ⟨w.heap.size + 4, 0, none⟩ (.bool true)) x ba n s pv bv' m' l' true := by
 have hq := h.quiet hb
 have h1 := grown_setCell W (w.heap.size + 3) 0 bv'
 have h2 := grown_setCell (W.setCell ⟨w.heap.size + 3, 0, none⟩ bv') (w.heap.size + 4) 0 (.bool true)
 have hne3 : ∀ k, k ≠ w.heap.size + 3 → some k ≠ some (w.heap.size + 3) := fun k hk e => hk (by injection e)
 have hne4 : ∀ k, k ≠ w.heap.size + 4 → some k ≠ some (w.heap.size + 4) := fun k hk e => hk (by injection e)
 have k3 := hq.kb.set (j := 0) (by simp) bv'
 have k4 := (hq.kf.kept h1 (hne3 _ (by omega))).set (j := 0) (by simp) (.bool true)
 have r1 := ho.kept h1 (own_ne_blk ho hq.kb (by decide))
 exact ⟨(hq.bel.setCell (p := ⟨w.heap.size + 3, 0, none⟩) (by show w.heap.size ≤ w.heap.size + 3; omega) _).setCell (p := ⟨w.heap.size + 4, 0, none⟩) (by show w.heap.size ≤ w.heap.size + 4; omega) _,
  (hq.g.kept h1 (hne3 _ (by omega))).kept h2 (hne4 _ (by omega)), (hq.s0.kept h1 (hne3 _ (by omega))).kept h2 (hne4 _ (by omega)), (hq.p.kept h1 (hne3 _ (by omega))).kept h2 (hne4 _ (by omega)),
  k3.kept h2 (hne4 _ (by omega)), k4, r1.kept h2 (own_ne_blk r1 (hq.kf.kept h1 (hne3 _ (by omega))) (by decide))⟩
end
end Go.Proofs.Ytddhaidimadliaa

/- Walks: the graph's round. Printed by wip/mknk.py. -/
namespace Go.Proofs.Ytddhaidimadliaa
open Go.RowKit Go

attribute [local go_sem] Oper.semAt_some
/-- round's memory at its start -/
theorem RnM.made (w : World) (x : AV) (ba n : Nat) (s : Int) (pv : Value) (G : List Value) (hG : grc x ba n = G) : ∃ W, W = (((((w.alloc (.cells G.toArray 98)).alloc (.cells #[.int .i64 s] 3)).alloc (.cells #[pv] 107)).alloc (.cells #[.slice none 0 0] 31)).alloc (.cells #[.bool false] 4)) ∧
  W.heap.size = w.heap.size + 5 ∧ RnM w W x ba n s pv (.slice none 0 0) 0 [] false := by
 subst hG
 have b0 := box_below w (.cells (grc x ba n).toArray 98)
 have k0 := Blk.new w 98 (grc x ba n)
 have s0 : (w.alloc (.cells (grc x ba n).toArray 98)).heap.size = w.heap.size + 1 := by simp
 generalize w.alloc (.cells (grc x ba n).toArray 98) = w1 at b0 k0 s0 ⊢
 have b1 := box_below w1 (.cells #[.int .i64 s] 3)
 have k1 := Blk.new w1 3 [.int .i64 s]
 have s1 : (w1.alloc (.cells #[.int .i64 s] 3)).heap.size = w.heap.size + 2 := by simp [s0]
 rw [s0] at k1
 generalize w1.alloc (.cells #[.int .i64 s] 3) = w2 at b1 k1 s1 ⊢
 have b2 := box_below w2 (.cells #[pv] 107)
 have k2 := Blk.new w2 107 [pv]
 have s2 : (w2.alloc (.cells #[pv] 107)).heap.size = w.heap.size + 3 := by simp [s1]
 rw [s1] at k2
 generalize w2.alloc (.cells #[pv] 107) = w3 at b2 k2 s2 ⊢
 have b3 := box_below w3 (.cells #[.slice none 0 0] 31)
 have k3 := Blk.new w3 31 [.slice none 0 0]
 have s3 : (w3.alloc (.cells #[.slice none 0 0] 31)).heap.size = w.heap.size + 4 := by simp [s2]
 rw [s2] at k3
 generalize w3.alloc (.cells #[.slice none 0 0] 31) = w4 at b3 k3 s3 ⊢
 have b4 := box_below w4 (.cells #[.bool false] 4)
 have k4 := Blk.new w4 4 [.bool false]
 rw [s3] at k4
 refine ⟨_, rfl, by simp [s3], b0.trans ((b1.mono (by omega)).trans ((b2.mono (by omega)).trans ((b3.mono (by omega)).trans (b4.mono (by omega))))), ?_, ?_, ?_, k3.below b4 k3.lt, k4, World.ownsRow_nil _ _ _ _⟩
 ·exact (((k0.below b1 k0.lt).below b2 (k0.below b1 k0.lt).lt).below (b3.mono (by omega)) (B := w.heap.size + 1) (by omega)).below (b4.mono (by omega)) (B := w.heap.size + 1) (by omega)
 ·exact ((k1.below b2 k1.lt).below (b3.mono (by omega)) (B := w.heap.size + 2) (by omega)).below (b4.mono (by omega)) (B := w.heap.size + 2) (by omega)
 ·exact (k2.below b3 k2.lt).below (b4.mono (by omega)) (B := w.heap.size + 3) (by omega)
set_option maxRecDepth 100000 in
/-- a row of one, and a row behind it -/
theorem wpListIn_cons_own {F : Fence} {nF : Nat} (w : World) {ops : Array Oper} {rest : List Oper} {o : Oper} {a : Act} {Q : Exit → Act → World → Prop} (hg : o.guard = none) (s x : Operand)
  (hop : o.op = Op.call { callee := Callee.builtin Builtin.append, args := #[s, x], argTypes := #[31, 31] }) (gx : Nat) (y : Int) (hs : a.eval s = .slice (some ⟨gx, 0, none⟩) 1 1) (hk : Blk w gx 3 [.int .i64 y])
  (base : Nat) (u : Value) (m : Nat) (ws : List Int) (hx : a.eval x = u) (hu : w.ownsRow base 3 1 u m (iv ws)) (hm : m ≤ 1000000)
  (hK : ∀ v' w', w'.ownsRow gx 3 1 v' (m + 1) (iv (y :: ws)) → w.grownBy w' (some gx) → wpListIn F nF Try.prog ops Q rest (a.put o.dst v') w') : wpListIn F nF Try.prog ops Q (o :: rest) a w := by
 obtain ⟨i0, hi0, hz0, hz1, hz2⟩ := info_parts int_info
 have hlt := hk.lt
 have hlit : w.ownsRow gx 3 1 (.slice (some ⟨gx, 0, none⟩) 1 1) 1 [.int .i64 y] := ⟨rfl, .inr ⟨gx, 1, #[.int .i64 y], rfl, Nat.le_refl _, hk, Nat.le_refl _, by simp [maxLen], rfl, rfl⟩⟩
 have hu9 := hu
 rcases hu.2 with ⟨rfl, rfl⟩ | ⟨g, cap, cur, hv, hgb, hgl, hc1, hc2, hc3, hc4⟩
 ·have hws : ws = [] := List.eq_nil_of_length_eq_zero (by have := hu.1; rw [iv_length] at this; omega)
  subst hws
  have hi1 : i0.size = 1 := hz1
  have hS : Src Try.prog i0.size 31 (.slice none 0 0) 0 [] w := Src.ofNil w Try.underlying31 0
  have hrun := run_append_room_src (P := Try.prog) w 31 31 o.type 3 i0 Try.underlying31 hi0 gx 0 1 1 _ 0 _ hS (by omega) (fun j hj => by cases hj) (fun j hj => by cases hj)
  have hrun2 : (Builtin.append_ #[31, 31] o.type #[.slice (some ⟨gx, 0, none⟩) 1 1, .slice none 0 0]).run Try.prog w = .ok (.slice (some ⟨gx, 0, none⟩) 1 1) w := hrun
  clear hrun
  refine wpListIn_plain hg fun K hK' => ?_
  unfold Oper.wpIn
  refine ⟨?_, ?_⟩
  ·simp [Oper.about, hop, resolve, Target.leads, Sem.run_pure]
  ·rw [Oper.semAt_plain F _ _ (by rw [hop]; intro c hc'; cases hc')]
   simp [execOp, hop, resolve, invoke, builtin, hs, hx, hrun2, Result.andThen]
   exact hK' _ _ (hK _ w hlit ⟨rfl, rfl, rfl, Nat.le_refl _, fun _ _ _ => rfl⟩)
 ·have hml : ws.length = m := by have := hu.1; rw [iv_length] at this; omega
  subst hv
  refine wpListIn_append_own w hg s x 31 hop gx 3 i0 (.int .i64 0) 1 8 Try.underlying31 hi0 hz0 hz1 hz2 rfl (by decide) _ 1 _ hs hlit ⟨g, 0, none⟩ m cap (iv ws) hx (by rw [iv_length]; omega) (fun j u hu' => ?_) (iv_one ws) (by unfold maxLen; omega) (by omega) (by omega) ?_
  ·obtain ⟨ad, e, _, hc⟩ := RdV.of_own hu9 j u hu'
   injection e with e
   subst e
   exact hc
  ·intro v' w' ho hgr _
   rw [Nat.add_comm] at ho
   exact hK v' w' ho hgr
/-- what round returns -/
def RetRnd (c : List Int × Bool) (w : World) (e : Ending) (w' : World) : Prop := ∃ v, e = .returned (.tuple #[v, .bool c.2]) ∧ w'.ownsRow w.heap.size 3 1 v c.1.length (iv c.1) ∧ Below w.heap.size w w'
set_option maxRecDepth 100000 in
set_option maxHeartbeats 3200000 in
theorem round_ok (x : AV) (ba n s : Nat) (fp : Nat) (cp : Value) (perm : Ed → Bool) (RES : List Int × Bool) (w : World) (hg : GrR w w.heap.size x ba n) (hs : s < n)
  (efp : ∀ args W, (callFunc fp args).run Try.prog W = .ok (.enter fp args) W)
  (hp : ∀ (e : Ed) W, e ∈ x.a.ed → Below w.heap.size w W → Calls Try.prog fp #[evl e, cp] W fun r W' => r = .returned (.bool (perm e)) ∧ Below W.heap.size W W')
  (hr : rndF x.a (s : Int) perm = RES) :
  Calls Try.prog 103 #[.agg (grc x ba n).toArray, .int .i64 (s : Int), .func (.func fp) #[] #[cp]] w (RetRnd RES w) := by
 obtain ⟨A, na, ca, M, nm, cm, E, ne, ce, a⟩ := x
 dsimp only at hp hr
 have hst : a.st = (n : Int) := hg.st
 have hwf : WF a := hg.wf
 obtain ⟨pv, hpv⟩ : ∃ v : Value, v = .func (.func fp) #[] #[cp] := ⟨_, rfl⟩
 obtain ⟨x, hx⟩ : ∃ z : AV, z = ⟨A, na, ca, M, nm, cm, E, ne, ce, a⟩ := ⟨_, rfl⟩
 rw [← hx] at hg ⊢
 have hxa : x.a = a := by rw [hx]
 have hgc : grc x ba n = [.slice A na ca, .int .i64 (n : Int), .slice M nm cm, .slice E ne ce, .slice (some ⟨ba, 0, none⟩) (n + 1) (n + 1)] := by unfold grc; rw [hx, ← hst]
 have hgc9 := hgc
 rw [hgc]
 obtain ⟨w5, hw5, hs5, hrn⟩ := RnM.made w x ba n (s : Int) pv _ hgc9
 rw [hpv] at hw5
 have HP := Lib.hid hp; clear hp
 have HG := Lib.hid hg; clear hg
 have HST := Lib.hid hst; clear hst
 have HWF := Lib.hid hwf; clear hwf
 have HGC := Lib.hid hgc; clear hgc
 have HXA := Lib.hid hxa; clear hxa
 have HR := Lib.hid hr; clear hr
 have HPV := Lib.hid hpv; clear hpv
 have HRN := Lib.hid hrn; clear hrn
 have HS5 := Lib.hid hs5; clear hs5
 have HW5 := Lib.hid hw5; clear hw5
 clear hx hgc9
 refine (callsIn_wide (n := 6)).1 ?_
 refine callsIn_of_wp_marks Try.func103 rfl trivial ?_ rfl
 simp only [Try.ntmps103, List.size_toArray, List.length_cons, List.length_nil, Nat.reduceAdd, Nat.reduceSub, Array.replicate_succ, Array.replicate_zero, List.push_toArray, List.append_toArray, List.nil_append, List.cons_append]
 refine wpIn_wide.2 ?_
 refine wp_mono ?_ noPanic_le
 go_upto_region 3 with fail
 rw [← HW5.out]
 clear HW5
 have HED := Lib.hid (edges_ok x ba n (s : Int) w5)
 rw [HGC.out] at HED
 have kg := HRN.out.g
 rw [HGC.out] at kg
 have a0 := kg.cell (j := 0) rfl
 have a1 := kg.cell (j := 1) rfl
 have a2 := kg.cell (j := 2) rfl
 have a3 := kg.cell (j := 3) rfl
 have a4 := kg.cell (j := 4) rfl
 have a5 := HRN.out.s0.cell (j := 0) rfl
 go_wp2_with fail
 refine HED.out.mono ?_
 rintro e we ⟨rfl, hwe⟩
 have hbx1 := box_below w5 (.cells (grc x ba n).toArray 98)
 have hbx2 := hbx1.alloc hbx1.size (.cells #[.int .i64 (s : Int)] 3)
 have kg1 := (Blk.new w5 98 (grc x ba n)).al (.cells #[.int .i64 (s : Int)] 3)
 have ks1 := Blk.at_ (b := w5.heap.size + 1) (w5.alloc (.cells (grc x ba n).toArray 98)) 3 [.int .i64 (s : Int)] (by simp)
 rw [HGC.out] at hbx2 kg1 ks1
 rw [← hwe] at hbx2
 rw [show ((w5.alloc (.cells (#[.slice A na ca, .int .i64 (n : Int), .slice M nm cm, .slice E ne ce, .slice (some ⟨ba, 0, none⟩) (n + 1) (n + 1)]) 98)).alloc (.cells #[.int .i64 (s : Int)] 3)) = we from hwe.symm] at kg1 ks1
 rw [← HGC.out] at kg1
 have HBE := Lib.hid hbx2
 have hwz : w5.heap.size + 1 < we.heap.size := ks1.lt
 have hsz5 := HRN.out.siz
 have HKG := Lib.hid kg1
 have HKS := Lib.hid ks1
 clear hwe hbx1 hbx2 kg1 ks1 HED kg a0 a1 a2 a3 a4 a5
 go_wp2
 have HME := Lib.hid (HRN.out.quiet HBE.out)
 have HGE := Lib.hid (HG.out.keep HME.out.bel)
 refine rf_named (fun a0 ha0 => ?_)
 refine (wpIn_wide (n := 6)).1 ?_
 refine wpIn_rangeFunc_ownH (F := Fence.wide) (n := 6) rfl (by omega) (gf := 120) (lb := #[.pointer (some ⟨w5.heap.size, 0, none⟩), .pointer (some ⟨w5.heap.size + 1, 0, none⟩)]) (by rw [ha0]; rfl) trivial (enters_of Try.func120 (by kernel_rfl) rfl)
  (edges_stops 5 (by omega) w5.heap.size (w5.heap.size + 1) w.heap.size n s ba x hs we HKG.out HKS.out HGE.out (by have := HME.out.siz; omega)) KpG.t (KpG.b (by have := HME.out.siz; omega)) (Below.refl _ _) (fun _ => rfl)
  (fun pre V => ∃ (bv : Value) (m : Nat) (c : List Int × Bool), Hid ((pre.map Subtype.val).foldl (rndX a (s : Int) perm) ([], false) = c) ∧ Hid (RnM w V x ba n (s : Int) pv bv m c.1 c.2) ∧ Hid (Blk V w5.heap.size 98 (grc x ba n)) ∧ Hid (Blk V (w5.heap.size + 1) 3 [.int .i64 (s : Int)]))
  (fun _ _ _ => False) ?hI (fun _ _ _ _ _ hs _ _ => hs) ⟨.slice none 0 0, 0, ([], false), Lib.hid rfl, HME, HKG, HKS⟩
  (fun e a' V => ∃ Bx : Nat, w5.heap.size + 1 < Bx ∧ Hid (Blk V Bx 106 [.int .i64 e.1.f, .int .i64 e.1.e, .int .i64 e.1.t]) ∧ a' = { tmps := (a0.tmps.setIfInBounds 16 (.agg #[.int .i64 e.1.f, .int .i64 e.1.e, .int .i64 e.1.t])).setIfInBounds 10 (.pointer (some ⟨Bx, 0, none⟩)), defers := [] })
  ?hAx ?assign ?body ?done ?stop
 case hI =>
  rintro pre V V' row ⟨bv, m, c, HC, HM, HG2, HI2⟩ hgr hrw
  exact ⟨bv, m, c, HC, Lib.hid (HM.out.ncl hgr hrw (by have := HRN.out.siz; omega)), Lib.hid (HG2.out.ncl hgr (fun r e => (hrw r e).2)), Lib.hid (HI2.out.ncl hgr (fun r e => (hrw r e).2))⟩
 case hAx =>
  rintro e a' _ V V' row ⟨Bx, h1, h2, h3⟩ hgr hrw
  exact ⟨Bx, h1, Lib.hid (h2.out.ncl hgr (fun r e => (hrw r e).2)), h3⟩
 case assign =>
  rintro ll pre e V K ⟨bv, m, c, HC, HM, HG2, HI2⟩ hK
  subst ha0
  dsimp only [evl]
  gi_wp2
  have hbv := box_below V (.cells #[.int .i64 e.1.f, .int .i64 e.1.e, .int .i64 e.1.t] 106)
  have hsv := HM.out.siz
  have hi2 := HI2.out.lt
  refine hK _ _ ((KeepsOthers.alloc _ _).from _) ⟨hbv.mono (by omega), fun t vs hb => hb.al _, fun t vs hb => hb.al _⟩ ⟨bv, m, c, HC, Lib.hid (HM.out.quiet hbv), Lib.hid (HG2.out.al _), Lib.hid (HI2.out.al _)⟩ ⟨V.heap.size, by omega, Lib.hid (Blk.new _ _ [_, _, _]), rfl⟩
 case body =>
  rintro ll pre ⟨ee, hee⟩ a' V hl9 ⟨r9, hr9⟩ ⟨bv, m, c, HC, HM, HG2, HI2⟩ ⟨Bx, hBx, HKX, rfl⟩ hlen
  subst ha0
  dsimp only at HKX
  simp only [List.setIfInBounds_toArray, List.set_cons_succ, List.set_cons_zero]
  have hme := outE_mem.1 hee
  rw [HXA.out] at hme
  have hev := HWF.out.ev_rng hme.1
  rw [HST.out] at hev
  have HCX := Lib.hid (show ((pre ++ [(⟨ee, hee⟩ : { e : Ed // e ∈ outE x.a s })]).map Subtype.val).foldl (rndX a (s : Int) perm) ([], false) = rndX a (s : Int) perm c ee by rw [List.map_append, List.foldl_append, HC.out]; rfl)
  have x0 := HKX.out.cell (j := 0) rfl
  have x1 := HKX.out.cell (j := 1) rfl
  have x2 := HKX.out.cell (j := 2) rfl
  have cpv : V.cell? ⟨w.heap.size + 1 + 1, 0, none⟩ = some pv := HM.out.p.cell (j := 0) rfl
  rw [HPV.out] at cpv
  have HPE := Lib.hid (HP.out ee V hme.1 HM.out.bel)
  obtain ⟨pq, hpq⟩ : ∃ q, perm ee = q := ⟨_, rfl⟩
  rw [hpq] at HPE
  unfold evl at HPE
  rw [hme.2] at HPE
  gi_wp2
  refine ⟨trivial, ?_⟩
  refine (CallsIn.inRound ll (callsIn_wide.2 HPE.out)).mono ?_
  rintro r V2 ⟨rfl, hv2⟩
  have HM2 := Lib.hid (HM.out.quiet hv2)
  have HK3 := Lib.hid (HKX.out.below hv2 HKX.out.lt)
  have HV2 := Lib.hid hv2
  clear x0 x1 x2 cpv hv2
  cases pq with
  | false =>
   have HNO := Lib.hid (show rndX a (s : Int) perm c ee = c by unfold rndX; rw [hpq]; rfl)
   gi_wp2
   exact ⟨(KeepsOthers.of_grownBy (grown_below HV2.out none) (fun _ _ e => by cases e)).from _, ⟨HV2.out.mono (by have := HM.out.siz; omega), fun _ _ h => h.below HV2.out h.lt, fun _ _ h => h.below HV2.out h.lt⟩, bv, m, c, Lib.hid (HCX.out.trans HNO.out), HM2, Lib.hid (HG2.out.below HV2.out HG2.out.lt), Lib.hid (HI2.out.below HV2.out HI2.out.lt)⟩
  | true =>
   obtain ⟨tt, htt⟩ : ∃ k : Nat, ee.t = (k : Int) := ⟨ee.t.toNat, by omega⟩
   obtain ⟨res, hres⟩ : ∃ r, pathS a (tt : Int) (fun t => t == (s : Int)) perm = r := ⟨_, rfl⟩
   have HPA := Lib.hid (path_ok x ba n tt 122 fp (.pointer (some ⟨w.heap.size + 1, 0, none⟩)) cp (fun t => t == (s : Int)) perm res V2 ((HG.out.keep HM2.out.bel).more (by have := HM2.out.siz; omega)) (by omega) (fun _ _ => rfl) efp (fun t W _ _ hb => round1_ok (w.heap.size + 1) (s : Int) t W (HM2.out.s0.below hb HM2.out.s0.lt)) (fun e W he hb => by rw [HXA.out] at he; exact HP.out e W he (HM2.out.bel.trans (hb.mono (by have := HM2.out.siz; omega)))) (by rw [HXA.out]; exact hres))
   rw [HGC.out] at HPA
   have HRX := Lib.hid (show rndX a (s : Int) perm c ee = rndY ee.e c res from rndX_yes hpq htt hres)
   have kg := HM2.out.g
   rw [HGC.out] at kg
   have a0 := kg.cell (j := 0) rfl
   have a1 := kg.cell (j := 1) rfl
   have a2 := kg.cell (j := 2) rfl
   have a3 := kg.cell (j := 3) rfl
   have a4 := kg.cell (j := 4) rfl
   have x0 := HK3.out.cell (j := 0) rfl
   have x1 := HK3.out.cell (j := 1) rfl
   have x2 := HK3.out.cell (j := 2) rfl
   rw [htt] at x2
   have cpv : V2.cell? ⟨w.heap.size + 1 + 1, 0, none⟩ = some pv := HM2.out.p.cell (j := 0) rfl
   rw [HPV.out] at cpv
   have HLN := Lib.hid (show ∀ ws, res = some ws → ws.length ≤ 1000000 from fun ws e => by have h9 := (pathS_in HWF.out HST.out (by omega) (by omega) (hres.trans e)).1; have := HWF.out.st1; have := HST.out; omega)
   clear hres htt hev kg HPE
   gi_wp2
   refine ⟨trivial, ?_⟩
   refine (CallsIn.inRound ll (callsIn_wide.2 HPA.out)).mono ?_
   rintro r V3 hr3
   clear a0 a1 a2 a3 a4 x0 x1 x2 cpv HPA
   cases res with
   | none =>
    obtain ⟨rfl, hv3⟩ := hr3
    have HM3 := Lib.hid (HM2.out.quiet hv3)
    have HV3 := Lib.hid (HV2.out.trans (hv3.mono HV2.out.size))
    have HNO := Lib.hid (show rndY ee.e c none = c from rfl)
    clear hv3
    gi_wp2
    all_goals first
     | (rename_i h9 _; cases Option.some.inj h9; done)
     | exact ⟨(KeepsOthers.of_grownBy (grown_below HV3.out none) (fun _ _ e => by cases e)).from _, ⟨HV3.out.mono (by have := HM.out.siz; omega), fun _ _ h => h.below HV3.out h.lt, fun _ _ h => h.below HV3.out h.lt⟩, bv, m, c, Lib.hid (HCX.out.trans (HRX.out.trans HNO.out)), HM3, Lib.hid (HG2.out.below HV3.out HG2.out.lt), Lib.hid (HI2.out.below HV3.out HI2.out.lt)⟩
   | some ws =>
    obtain ⟨u, rfl, hu, hv3⟩ := hr3
    have HLW := Lib.hid (HLN.out ws rfl)
    obtain ⟨uA, uc, rfl⟩ := own_shape hu
    obtain ⟨bA, bc, rfl⟩ := own_shape HM2.out.row
    have HU := Lib.hid hu
    have HM3 := Lib.hid (HM2.out.quiet hv3)
    have HS3 := Lib.hid hv3.size
    have HV3 := Lib.hid (HV2.out.trans (hv3.mono HV2.out.size))
    have hK3 := HK3.out.below hv3 HK3.out.lt
    have HKX3 := Lib.hid hK3
    clear hv3 hu hK3
    have hml : m = c.1.length := by have := HM3.out.row.1; rw [iv_length] at this; omega
    have HTK := Lib.hid (show (c.2 = false ∨ ws.length + 1 < c.1.length) → rndY ee.e c (some ws) = (ee.e :: ws, true) from fun h => if_pos h)
    have HNT := Lib.hid (show ¬ (c.2 = false ∨ ws.length + 1 < c.1.length) → rndY ee.e c (some ws) = c from fun h => if_neg h)
    have c3 := HM3.out.kb.cell (j := 0) rfl
    have c4 := HM3.out.kf.cell (j := 0) rfl
    obtain ⟨cl, cf⟩ := c
    dsimp only at c3 c4 hml HTK HNT
    cases cf with
    | false =>
     have HTE := Lib.hid (HTK.out (.inl rfl))
     clear HTK HNT hml
     have x0 := HKX3.out.cell (j := 0) rfl
     have x1 := HKX3.out.cell (j := 1) rfl
     have x2 := HKX3.out.cell (j := 2) rfl
     have HBX := Lib.hid (box_below V3 (.cells #[.int .i64 ee.e] 3))
     have HM6 := Lib.hid (HM3.out.quiet HBX.out)
     have HNW := Lib.hid (show Blk (V3.alloc (.cells #[.int .i64 ee.e] 3)) V3.heap.size 3 [.int .i64 ee.e] from Blk.new _ _ [_])
     have HU6 := Lib.hid (own_below HU.out HBX.out)
     have hm6 : ws.length ≤ 1000000 := HLW.out
     gi_wp2_with (first
      | (gi_at_builtin; refine wpListIn_cons_own (V3.alloc (.cells #[.int .i64 ee.e] 3)) rfl (.tmp 45) (.tmp 46) rfl V3.heap.size ee.e rfl HNW.out V2.heap.size _ ws.length ws rfl HU6.out hm6 ?_; intro v9 w9 ho9 hg9; obtain ⟨A9, c9, rfl⟩ := own_shape ho9; have k3 := HM6.out.kb.kept hg9 (fun e => by have := HM3.out.siz; injection e with e; omega); have e3 : w9.cell? ⟨w.heap.size + 1 + 1 + 1, 0, none⟩ = some (.slice bA m bc) := k3.cell (j := 0) rfl; have f3 : w9.frozen? ⟨w.heap.size + 1 + 1 + 1, 0, none⟩ = false := k3.free 0; have l3 : w.heap.size + 1 + 1 + 1 < w9.heap.size := k3.lt; have k4 := HM6.out.kf.kept hg9 (fun e => by have := HM3.out.siz; injection e with e; omega); have e4 : w9.cell? ⟨w.heap.size + 1 + 1 + 1 + 1, 0, none⟩ = some (.bool false) := k4.cell (j := 0) rfl; have f4 : w9.frozen? ⟨w.heap.size + 1 + 1 + 1 + 1, 0, none⟩ = false := k4.free 0; have l4 : w.heap.size + 1 + 1 + 1 + 1 < w9.heap.size := k4.lt)
      | fail)
     have hz3 := HM3.out.siz
     have hbw : Below V3.heap.size V3 w9 := HBX.out.grown hg9 (by simp) (fun k e => by injection e with e; omega)
     have HMT := Lib.hid (HM3.out.take (W := w9) hbw (own_base ho9 (by omega)))
     have hgl := HG2.out.lt
     have hil := HI2.out.lt
     have hs5 := HS5.out
     have kp : ∀ b, b ≠ w.heap.size + 3 → b ≠ w.heap.size + 4 → ∀ t vs, Blk V b t vs → Blk ((w9.setCell ⟨w.heap.size + 3, 0, none⟩ (.slice A9 (ws.length + 1) c9)).setCell ⟨w.heap.size + 4, 0, none⟩ (.bool true)) b t vs := fun b h3 h4 t vs h =>
      (((h.below HV3.out h.lt).below hbw (h.below HV3.out h.lt).lt).kept (grown_setCell w9 (w.heap.size + 3) 0 _) (fun e => h3 (by injection e))).kept (grown_setCell _ (w.heap.size + 4) 0 _) (fun e => h4 (by injection e))
     have p1 := kp _ (show w5.heap.size ≠ w.heap.size + 3 by omega) (by omega)
     have p2 := kp _ (show w5.heap.size + 1 ≠ w.heap.size + 3 by omega) (by omega)
     have hvs := HV3.out.size
     have hms := HM.out.siz
     have B2 : Below w.heap.size V w9 := (HV3.out.mono (by omega)).trans (hbw.mono (by omega))
     have B4 := (B2.setCell (p := ⟨w.heap.size + 3, 0, none⟩) (by show w.heap.size ≤ w.heap.size + 3; omega) (.slice A9 (ws.length + 1) c9)).setCell (p := ⟨w.heap.size + 4, 0, none⟩) (by show w.heap.size ≤ w.heap.size + 4; omega) (.bool true)
     have ko := (((KeepsOthers.of_grownBy (grown_below HV3.out none) (fun _ _ e => by cases e)).trans (KeepsOthers.of_grownBy (grown_below hbw none) (fun _ _ e => by cases e))).trans (KeepsOthers.setCell w9 ⟨w.heap.size + 3, 0, none⟩ (.slice A9 (ws.length + 1) c9))).trans (KeepsOthers.setCell _ ⟨w.heap.size + 4, 0, none⟩ (.bool true))
     exact ⟨ko.from _, ⟨B4, p1, p2⟩, _, _, (ee.e :: ws, true), Lib.hid (HCX.out.trans (HRX.out.trans HTE.out)), HMT, Lib.hid (p1 _ _ HG2.out), Lib.hid (p2 _ _ HI2.out)⟩
    | true =>
     by_cases hlt : ws.length + 1 < cl.length
     ·have HTE := Lib.hid (HTK.out (.inr hlt))
      have h1 : ((ws.length : Int) + 1) < (m : Int) := by omega
      have h2 : ((ws.length + 1 : Nat) : Int) < (m : Int) := by omega
      clear HTK HNT
      have x0 := HKX3.out.cell (j := 0) rfl
      have x1 := HKX3.out.cell (j := 1) rfl
      have x2 := HKX3.out.cell (j := 2) rfl
      have HBX := Lib.hid (box_below V3 (.cells #[.int .i64 ee.e] 3))
      have HM6 := Lib.hid (HM3.out.quiet HBX.out)
      have HNW := Lib.hid (show Blk (V3.alloc (.cells #[.int .i64 ee.e] 3)) V3.heap.size 3 [.int .i64 ee.e] from Blk.new _ _ [_])
      have HU6 := Lib.hid (own_below HU.out HBX.out)
      have hm6 : ws.length ≤ 1000000 := HLW.out
      gi_wp2_with (first
       | (gi_at_builtin; refine wpListIn_cons_own (V3.alloc (.cells #[.int .i64 ee.e] 3)) rfl (.tmp 45) (.tmp 46) rfl V3.heap.size ee.e rfl HNW.out V2.heap.size _ ws.length ws rfl HU6.out hm6 ?_; intro v9 w9 ho9 hg9; obtain ⟨A9, c9, rfl⟩ := own_shape ho9; have k3 := HM6.out.kb.kept hg9 (fun e => by have := HM3.out.siz; injection e with e; omega); have e3 : w9.cell? ⟨w.heap.size + 1 + 1 + 1, 0, none⟩ = some (.slice bA m bc) := k3.cell (j := 0) rfl; have f3 : w9.frozen? ⟨w.heap.size + 1 + 1 + 1, 0, none⟩ = false := k3.free 0; have l3 : w.heap.size + 1 + 1 + 1 < w9.heap.size := k3.lt; have k4 := HM6.out.kf.kept hg9 (fun e => by have := HM3.out.siz; injection e with e; omega); have e4 : w9.cell? ⟨w.heap.size + 1 + 1 + 1 + 1, 0, none⟩ = some (.bool true) := k4.cell (j := 0) rfl; have f4 : w9.frozen? ⟨w.heap.size + 1 + 1 + 1 + 1, 0, none⟩ = false := k4.free 0; have l4 : w.heap.size + 1 + 1 + 1 + 1 < w9.heap.size := k4.lt)
       | fail)
      have hz3 := HM3.out.siz
      have hbw : Below V3.heap.size V3 w9 := HBX.out.grown hg9 (by simp) (fun k e => by injection e with e; omega)
      have HMT := Lib.hid (HM3.out.take (W := w9) hbw (own_base ho9 (by omega)))
      have hgl := HG2.out.lt
      have hil := HI2.out.lt
      have hs5 := HS5.out
      have kp : ∀ b, b ≠ w.heap.size + 3 → b ≠ w.heap.size + 4 → ∀ t vs, Blk V b t vs → Blk ((w9.setCell ⟨w.heap.size + 3, 0, none⟩ (.slice A9 (ws.length + 1) c9)).setCell ⟨w.heap.size + 4, 0, none⟩ (.bool true)) b t vs := fun b h3 h4 t vs h =>
       (((h.below HV3.out h.lt).below hbw (h.below HV3.out h.lt).lt).kept (grown_setCell w9 (w.heap.size + 3) 0 _) (fun e => h3 (by injection e))).kept (grown_setCell _ (w.heap.size + 4) 0 _) (fun e => h4 (by injection e))
      have p1 := kp _ (show w5.heap.size ≠ w.heap.size + 3 by omega) (by omega)
      have p2 := kp _ (show w5.heap.size + 1 ≠ w.heap.size + 3 by omega) (by omega)
      have hvs := HV3.out.size
      have hms := HM.out.siz
      have B2 : Below w.heap.size V w9 := (HV3.out.mono (by omega)).trans (hbw.mono (by omega))
      have B4 := (B2.setCell (p := ⟨w.heap.size + 3, 0, none⟩) (by show w.heap.size ≤ w.heap.size + 3; omega) (.slice A9 (ws.length + 1) c9)).setCell (p := ⟨w.heap.size + 4, 0, none⟩) (by show w.heap.size ≤ w.heap.size + 4; omega) (.bool true)
      have ko := (((KeepsOthers.of_grownBy (grown_below HV3.out none) (fun _ _ e => by cases e)).trans (KeepsOthers.of_grownBy (grown_below hbw none) (fun _ _ e => by cases e))).trans (KeepsOthers.setCell w9 ⟨w.heap.size + 3, 0, none⟩ (.slice A9 (ws.length + 1) c9))).trans (KeepsOthers.setCell _ ⟨w.heap.size + 4, 0, none⟩ (.bool true))
      exact ⟨ko.from _, ⟨B4, p1, p2⟩, _, _, (ee.e :: ws, true), Lib.hid (HCX.out.trans (HRX.out.trans HTE.out)), HMT, Lib.hid (p1 _ _ HG2.out), Lib.hid (p2 _ _ HI2.out)⟩
     ·have HTE := Lib.hid (HNT.out (fun h => h.elim (fun h => by cases h) hlt))
      have hlw := HLW.out
      have h1 : ¬ ((ws.length : Int) + 1) < (cl.length : Int) := by omega
      clear HTK HNT
      gi_wp2
      exact ⟨(KeepsOthers.of_grownBy (grown_below HV3.out none) (fun _ _ e => by cases e)).from _, ⟨HV3.out.mono (by have := HM.out.siz; omega), fun _ _ h => h.below HV3.out h.lt, fun _ _ h => h.below HV3.out h.lt⟩, _, m, (cl, true), Lib.hid (HCX.out.trans (HRX.out.trans HTE.out)), HM3, Lib.hid (HG2.out.below HV3.out HG2.out.lt), Lib.hid (HI2.out.below HV3.out HI2.out.lt)⟩
 case done =>
  rintro D ys V hD hys ⟨bv, m, c, HC, HM, _, _⟩ hK
  rw [hys, HXA.out] at HC
  have HRC := Lib.hid (show c = RES from HC.out.symm.trans HR.out)
  subst ha0
  have c3 := HM.out.kb.cell (j := 0) rfl
  have c4 := HM.out.kf.cell (j := 0) rfl
  go_wp2
  go_quiet (fail)
  have hbd := below_drewN (Below.refl V.heap.size V) nq
  have HM9 := HM.out.quiet hbd
  have hml : m = c.1.length := by have := HM.out.row.1; rw [iv_length] at this; omega
  subst hml
  clear c3 c4
  go_wp2
  change LeavesInM Fence.wide 6 Try.prog Try.f103 _ _ (marks [D]) .returning _
  refine leaves_marksI (B := w.heap.size) (fun V9 => Below w.heap.size w V9 ∧ V9.ownsRow w.heap.size 3 1 bv c.1.length (iv c.1)) (fun V9 D9 hV hB hD9 => ⟨hV.1.trans (belowK_b (w := w) (Nat.le_refl _) V9 D9 _ _ hB hD9 rfl rfl), own_ncl hV.2 (grownBy_putObj' V9 D9 _) (fun r e => by cases e; exact ⟨_, hD9, rfl⟩)⟩) [D] _ (by simp) (fun E hE => by
   obtain rfl := List.mem_singleton.1 hE
   exact ⟨by omega, (hbd.block E (Array.getElem?_eq_some_iff.1 hK).1).trans hK⟩) ⟨HM9.bel, own_base HM9.row (by omega)⟩ (fun V9 hV => ⟨.tuple #[bv, .bool c.2], by simp [results, Try.results103, go_sem], ?_⟩)
  rw [← HRC.out]
  exact ⟨bv, rfl, hV.2, hV.1⟩
 case stop =>
  rintro D c pre V _ _ h _
  exact h.elim
end Go.Proofs.Ytddhaidimadliaa

/- Walks: reach.Cycle. Printed by wip/mknl.py. -/
namespace Go.Proofs.Ytddhaidimadliaa
open Go.RowKit Go

/-- the edges by some events -/
def prmE (evs : List Int) : Ed → Bool := fun x => fl (inF 32 evs) x.e
/-- the first reachable state that has a cycle -/
def cycG (a : Aut) (perm : Ed → Bool) (N : List Bool) : Nat → Nat → (List Int × List Int) × Bool
 | 0, _ => (([], []), false)
 | g + 1, s => if fl N (s : Int) = true ∧ (rndF a (s : Int) perm).2 = true then (((pathS a 0 (fun t => t == (s : Int)) (fun _ => true)).getD [], (rndF a (s : Int) perm).1), true) else cycG a perm N g (s + 1)
/-- the cycle of some events through the least reachable state that has one -/
def cycF (a : Aut) (evs : List Int) : (List Int × List Int) × Bool := cycG a (prmE evs) (fwdS a [0] fun _ => true) a.st.toNat 0
theorem cycG_yes {a : Aut} {perm : Ed → Bool} {N : List Bool} {g s : Nat} (h : fl N (s : Int) = true ∧ (rndF a (s : Int) perm).2 = true) : cycG a perm N (g + 1) s = (((pathS a 0 (fun t => t == (s : Int)) (fun _ => true)).getD [], (rndF a (s : Int) perm).1), true) := by
 rw [cycG, if_pos h]
theorem cycG_no {a : Aut} {perm : Ed → Bool} {N : List Bool} {g s : Nat} (h : ¬ (fl N (s : Int) = true ∧ (rndF a (s : Int) perm).2 = true)) : cycG a perm N (g + 1) s = cycG a perm N g (s + 1) := by
 rw [cycG, if_neg h]
/-- what Cycle returns -/
def RetCyc (R : (List Int × List Int) × Bool) (w : World) (e : Ending) (w' : World) : Prop := ∃ p c, e = .returned (.tuple #[p, c, .bool R.2, .int .i64 0]) ∧ w'.ownsRow w.heap.size 3 1 p R.1.1.length (iv R.1.1) ∧ w'.ownsRow w.heap.size 3 1 c R.1.2.length (iv R.1.2) ∧ Below w.heap.size w w'
set_option maxRecDepth 100000 in
theorem reachable_zero (x : AV) (ba : Nat) (w : World) (hst : x.a.st = 0) :
  Calls Try.prog 102 #[.agg (grc x ba 0).toArray] w fun e w' => e = .returned (.slice none 0 0) ∧ Below w.heap.size w w' := by
 have hgc : grc x ba 0 = [.slice x.A x.na x.ca, .int .i64 0, .slice x.M x.nm x.cm, .slice x.E x.ne x.ce, .slice (some ⟨ba, 0, none⟩) 1 1] := by unfold grc; rw [hst]
 have hb := box_below w (.cells (grc x ba 0).toArray 98)
 rw [hgc] at hb ⊢
 have HB := Lib.hid hb; clear hb
 clear hgc
 go_enter Try.func102, Try.ntmps102
 go_wp2
 go_ret
 exact ⟨rfl, HB.out⟩
/-- reachable, whatever the number of states -/
theorem reachable_all (x : AV) (ba n : Nat) (w : World) (hg : GrR w w.heap.size x ba n) :
  Calls Try.prog 102 #[.agg (grc x ba n).toArray] w fun e w' => ∃ B, e = .returned (.slice B n n) ∧ (0 < n → ∃ b, B = some ⟨b, 0, none⟩ ∧ Blk w' b 4 (bvl (fwdS x.a [0] fun _ => true))) ∧ Below w.heap.size w w' := by
 by_cases h0 : 0 < n
 ·refine (reachable_ok x ba n w hg h0).mono ?_
  rintro e w' ⟨b, rfl, hk, _, hb⟩
  exact ⟨_, rfl, fun _ => ⟨b, rfl, hk⟩, hb⟩
 ·obtain rfl : n = 0 := by omega
  refine (reachable_zero x ba w hg.st).mono ?_
  rintro e w' ⟨rfl, hb⟩
  exact ⟨none, rfl, fun h => absurd h h0, hb⟩
theorem rowF_len {perm : Ed → Bool} : ∀ (r : List Ed) (q : List Int) (N : List Bool), (rowF perm r q N).2.length = N.length
 | [], _, _ => rfl
 | x :: r, q, N => by
  by_cases h : fl N x.t = false ∧ perm x = true
  ·rw [rowF_pos h, rowF_len r, fset_len]
  ·rw [rowF_neg h, rowF_len r]
theorem fwdF_len {a : Aut} {perm : Ed → Bool} : ∀ (g : Nat) (q : List Int) (N : List Bool), (fwdF a perm g q N).length = N.length
 | 0, _, _ => by unfold fwdF; rfl
 | _ + 1, [], _ => by unfold fwdF; rfl
 | g + 1, s :: q, N => by unfold fwdF; rw [fwdF_len g, rowF_len]
theorem fwdS_len (a : Aut) (fr : List Int) (perm : Ed → Bool) : (fwdS a fr perm).length = a.st.toNat := by unfold fwdS; rw [fwdF_len, inF_len]
/-- Cycle's memory: the graph, the events' flags -/
structure CyM (w V : World) (x : AV) (ba n bG bB : Nat) (N : List Bool) : Prop where
 bel : Below w.heap.size w V
 gr : GrR V bG x ba n
 g : Blk V bG 98 (grc x ba n)
 b : Blk V bB 169 (bvl N)
 lG : w.heap.size ≤ bG
 lB : bG < bB
section
variable {w V W : World} {x : AV} {ba n bG bB : Nat} {N : List Bool}
theorem CyM.quiet (h : CyM w V x ba n bG bB N) (hb : Below V.heap.size V W) : CyM w W x ba n bG bB N :=
 ⟨h.bel.trans (hb.mono h.bel.size), h.gr.keep (hb.mono (Nat.le_of_lt h.g.lt)), h.g.below hb h.g.lt, h.b.below hb h.b.lt, h.lG, h.lB⟩
theorem CyM.grh (h : CyM w V x ba n bG bB N) : GrR V V.heap.size x ba n := h.gr.more (Nat.le_of_lt h.g.lt)
theorem CyM.flag (h : CyM w V x ba n bG bB N) {s : Int} (h0 : 0 ≤ s) (h1 : s < (N.length : Int)) : CyM w (V.setCell ⟨bB, s.toNat, none⟩ (.bool true)) x ba n bG bB (fset N s) := by
 have hlg := h.lG
 have hlb := h.lB
 refine ⟨h.bel.setCell (p := ⟨bB, s.toNat, none⟩) (by show w.heap.size ≤ bB; omega) _, h.gr.keep ((Below.refl bG V).setCell (p := ⟨bB, s.toNat, none⟩) (by show bG ≤ bB; omega) _), h.g.kept (grown_setCell V bB s.toNat _) (fun e => by injection e with e; omega), ?_, hlg, hlb⟩
 have hk := h.b.set (j := s.toNat) (by rw [bvl_length]; omega) (.bool true)
 rw [bvl_set] at hk
 exact hk
end
set_option maxRecDepth 100000 in
set_option maxHeartbeats 3200000 in
theorem reach_Cycle (x : AV) (w : World) (n : Nat) (hx : x.ok w w.heap.size) (hw : WF x.a) (hn : x.a.st = (n : Int)) (S : Option Addr) (ns cs : Nat) (evs : List Int)
  (hsl : evs.length = ns) (hS : RdI w w.heap.size S evs) (hs1 : ns ≤ cs) (hs2 : cs ≤ 9223372036854775807) (hse : setErr evs 32 = 0) (hsr : ∀ v ∈ evs, 0 ≤ v ∧ v < 32) (RES : (List Int × List Int) × Bool) (hr : cycF x.a evs = RES) :
  Calls Try.prog 60 #[.agg #[.slice x.A x.na x.ca, .int .i64 x.a.st, .slice x.M x.nm x.cm, .slice x.E x.ne x.ce], .slice S ns cs] w (RetCyc RES w) := by
 obtain ⟨A, na, ca, M, nm, cm, E, ne, ce, a⟩ := x
 dsimp only at hw hn hr ⊢
 have hn4 : n ≤ 4096 := by have := hw.st1; omega
 have hb1 := box_below w (.cells #[.slice A na ca, .int .i64 a.st, .slice M nm cm, .slice E ne ce] 34)
 obtain ⟨w1, hw9⟩ : ∃ w1, w1 = w.alloc (.cells #[.slice A na ca, .int .i64 a.st, .slice M nm cm, .slice E ne ce] 34) := ⟨_, rfl⟩
 have kx : Blk w1 w.heap.size 34 [.slice A na ca, .int .i64 a.st, .slice M nm cm, .slice E ne ce] := by rw [hw9]; exact Blk.new _ _ [_, _, _, _]
 rw [← hw9] at hb1
 have HG0 := Lib.hid (fun (W : World) (hb : Below w1.heap.size w1 W) => Blk.c4 (kx.below hb kx.lt))
 rw [hn] at HG0
 obtain ⟨a0, a1, a2, a3⟩ := HG0.out w1 (Below.refl _ _)
 have HCK := Lib.hid (automaton_Check A na ca M nm cm E ne ce a w1 ((AutR.below hx hb1).more hb1.size))
 rw [hw.chk, hn] at HCK
 have HXK := Lib.hid (fun (W : World) (hb : Below w1.heap.size w1 W) => AutR.more (AutR.below hx (hb1.trans (hb.mono hb1.size))) (hb1.trans (hb.mono hb1.size)).size)
 have HSK := Lib.hid (fun (W : World) (hb : Below w1.heap.size w1 W) => (hS.below (hb1.trans (hb.mono hb1.size))).more (hb1.trans (hb.mono hb1.size)).size)
 have HS0 := Lib.hid (fun (W : World) (hb : Below w.heap.size w W) => hS.below hb)
 rw [hn] at hw9 ⊢
 have HN := Lib.hid hn
 have HW9 := Lib.hid hw9; clear hw9
 have HB1 := Lib.hid hb1; clear hb1
 have HWF := Lib.hid hw; clear hw
 have HSL := Lib.hid hsl; clear hsl
 have HSE := Lib.hid hse; clear hse
 have HSR := Lib.hid hsr; clear hsr
 have HR := Lib.hid hr; clear hr
 have lx := kx.lt
 clear kx hS hx hn
 go_enter Try.func60, Try.ntmps60
 go_wp2_with fail
 rw [← HW9.out]
 refine HCK.out.mono ?_
 rintro e w2 ⟨rfl, hb2⟩
 have HB2 := Lib.hid hb2; clear hb2
 clear HCK a0 a1 a2 a3
 have HCS := Lib.hid (reach_checkSet S cs ns evs 32 0 w2 HSL.out HSE.out (HSK.out w2 HB2.out) hs1 hs2)
 go_wp2_with fail
 refine HCS.out.mono ?_
 rintro e w' ⟨rfl, rfl⟩
 clear HCS
 obtain ⟨a0, a1, a2, a3⟩ := HG0.out w2 HB2.out
 have HNG := Lib.hid (newGraph_ok ⟨A, na, ca, M, nm, cm, E, ne, ce, a⟩ w2 n (HXK.out w2 HB2.out) HWF.out HN.out)
 dsimp only at HNG
 rw [HN.out] at HNG
 obtain ⟨x, hx⟩ : ∃ z : AV, z = ⟨A, na, ca, M, nm, cm, E, ne, ce, a⟩ := ⟨_, rfl⟩
 have hxa : x.a = a := by rw [hx]
 rw [← hx] at HNG
 go_wp2_with fail
 refine HNG.out.mono ?_
 rintro e w3 ⟨ba, rfl, hba, hgr, hb3⟩
 have hgc : grc x ba n = [.slice A na ca, .int .i64 (n : Int), .slice M nm cm, .slice E ne ce, .slice (some ⟨ba, 0, none⟩) (n + 1) (n + 1)] := by unfold grc; rw [hx, ← HN.out]
 have HGC := Lib.hid hgc; clear hgc
 have HXA := Lib.hid hxa; clear hxa
 clear hx HNG a0 a1 a2 a3
 have hx1 := box_below w3 (.cells #[.slice A na ca, .int .i64 (n : Int), .slice M nm cm, .slice E ne ce, .slice (some ⟨ba, 0, none⟩) (n + 1) (n + 1)] 98)
 have k10 : Blk ((w3.alloc (.cells #[.slice A na ca, .int .i64 (n : Int), .slice M nm cm, .slice E ne ce, .slice (some ⟨ba, 0, none⟩) (n + 1) (n + 1)] 98)).alloc (.cells #[.bool false, .bool false, .bool false, .bool false, .bool false, .bool false, .bool false, .bool false, .bool false, .bool false, .bool false, .bool false, .bool false, .bool false, .bool false, .bool false, .bool false, .bool false, .bool false, .bool false, .bool false, .bool false, .bool false, .bool false, .bool false, .bool false, .bool false, .bool false, .bool false, .bool false, .bool false, .bool false] 169)) w3.heap.size 98 (grc x ba n) := by rw [HGC.out]; exact (Blk.new w3 98 [_, _, _, _, _]).al _
 have k11 : Blk ((w3.alloc (.cells #[.slice A na ca, .int .i64 (n : Int), .slice M nm cm, .slice E ne ce, .slice (some ⟨ba, 0, none⟩) (n + 1) (n + 1)] 98)).alloc (.cells #[.bool false, .bool false, .bool false, .bool false, .bool false, .bool false, .bool false, .bool false, .bool false, .bool false, .bool false, .bool false, .bool false, .bool false, .bool false, .bool false, .bool false, .bool false, .bool false, .bool false, .bool false, .bool false, .bool false, .bool false, .bool false, .bool false, .bool false, .bool false, .bool false, .bool false, .bool false, .bool false] 169)) (w3.heap.size + 1) 169 (bvl (inF 32 (evs.take 0))) := Blk.at_ (b := w3.heap.size + 1) (w3.alloc (.cells #[.slice A na ca, .int .i64 (n : Int), .slice M nm cm, .slice E ne ce, .slice (some ⟨ba, 0, none⟩) (n + 1) (n + 1)] 98)) 169 [.bool false, .bool false, .bool false, .bool false, .bool false, .bool false, .bool false, .bool false, .bool false, .bool false, .bool false, .bool false, .bool false, .bool false, .bool false, .bool false, .bool false, .bool false, .bool false, .bool false, .bool false, .bool false, .bool false, .bool false, .bool false, .bool false, .bool false, .bool false, .bool false, .bool false, .bool false, .bool false] (by simp)
 have hx2 := hx1.alloc hx1.size (.cells #[.bool false, .bool false, .bool false, .bool false, .bool false, .bool false, .bool false, .bool false, .bool false, .bool false, .bool false, .bool false, .bool false, .bool false, .bool false, .bool false, .bool false, .bool false, .bool false, .bool false, .bool false, .bool false, .bool false, .bool false, .bool false, .bool false, .bool false, .bool false, .bool false, .bool false, .bool false, .bool false] 169)
 rw [HGC.out]
 have HCM := Lib.hid (show CyM w _ x ba n w3.heap.size (w3.heap.size + 1) (inF 32 (evs.take 0)) from
  ⟨((HB1.out.trans (HB2.out.mono HB1.out.size)).trans (hb3.mono (HB1.out.trans (HB2.out.mono HB1.out.size)).size)).trans (hx2.mono (by have := HB1.out.size; have := HB2.out.size; have := hb3.size; omega)), hgr.keep hx2, k10, k11, by have := HB1.out.size; have := HB2.out.size; have := hb3.size; omega, by omega⟩)
 clear hx1 hx2 k10 k11 hb3 hgr
 go_upto_region 9 with fail
 obtain ⟨bG, hbG⟩ : ∃ b, w3.heap.size = b := ⟨_, rfl⟩
 rw [hbG] at HCM ⊢
 generalize (w3.alloc (.cells #[.slice A na ca, .int .i64 (n : Int), .slice M nm cm, .slice E ne ce, .slice (some ⟨ba, 0, none⟩) (n + 1) (n + 1)] 98)).alloc (.cells #[.bool false, .bool false, .bool false, .bool false, .bool false, .bool false, .bool false, .bool false, .bool false, .bool false, .bool false, .bool false, .bool false, .bool false, .bool false, .bool false, .bool false, .bool false, .bool false, .bool false, .bool false, .bool false, .bool false, .bool false, .bool false, .bool false, .bool false, .bool false, .bool false, .bool false, .bool false, .bool false] 169) = w5 at HCM ⊢
 clear hbG hba
 go_wp2
 go_loopw [13, 31] (fun s13 s31 wr => ∃ (k : Nat) (v : Value), s31 = .int .i64 k ∧ s13 = v ∧ k ≤ ns ∧ Hid (CyM w wr x ba n bG (bG + 1) (inF 32 (evs.take k)))) (fun _ s31 _ => ns - (intOf s31).toNat)
 case atStart => exact ⟨0, _, rfl, rfl, Nat.zero_le _, HCM⟩
 case round =>
  clear HCM
  obtain ⟨k, v, rfl, rfl, hk, HM⟩ := hrel
  by_cases hlt : k < ns
  ·obtain ⟨sd, s, rfl, hsb, hss, hsc⟩ := (HS0.out wr HM.out.bel).at_ (k := k) (by have := HSL.out; omega)
   have b1 : (k : Int) < (ns : Int) := by omega
   obtain ⟨s0, s1⟩ := HSR.out s (List.mem_of_getElem? hss)
   obtain ⟨q, hq⟩ : ∃ q, fl (inF 32 (evs.take k)) s = q := ⟨_, rfl⟩
   have g1 : wr.cell? ⟨bG + 1, s.toNat, none⟩ = some (.bool q) := HM.out.b.cell (by rw [bvl_get, fl_get hq s0 (by rw [inF_len]; exact s1)]; rfl)
   have g2 : wr.frozen? ⟨bG + 1, s.toNat, none⟩ = false := HM.out.b.free _
   have g3 : bG + 1 < wr.heap.size := HM.out.b.lt
   have hm2 := HM.out.flag (s := s) s0 (by rw [inF_len]; exact s1)
   rw [← inF_snoc 32 hss] at hm2
   have HM2 := Lib.hid hm2
   have t1 : s.toNat < 32 := by omega
   have t2 : ¬ s < 0 := by omega
   clear hss hq hm2
   go_wp2
   go_roundw
   case rel => exact ⟨k + 1, _, by go_num, rfl, by omega, HM2⟩
   case measure => simp [intOf]; omega
  ·obtain rfl : k = ns := by omega
   have b1 : ¬ (k : Int) < (k : Int) := by omega
   have hta : evs.take k = evs := List.take_of_length_le (by rw [HSL.out]; exact Nat.le_refl _)
   rw [hta] at HM
   clear hta
   have HRA := Lib.hid (reachable_all x ba n wr HM.out.grh)
   rw [HGC.out] at HRA
   have kg := HM.out.g
   rw [HGC.out] at kg
   have a0 := kg.cell (j := 0) rfl
   have a1 := kg.cell (j := 1) rfl
   have a2 := kg.cell (j := 2) rfl
   have a3 := kg.cell (j := 3) rfl
   have a4 := kg.cell (j := 4) rfl
   clear kg
   go_wp2_with fail
   refine HRA.out.mono ?_
   rintro e w6 ⟨B, rfl, hbn, hb6⟩
   have HM6 := Lib.hid (HM.out.quiet hb6)
   have HBN := Lib.hid hbn
   clear a0 a1 a2 a3 a4 HRA HM hbn hb6
   obtain ⟨N, hN⟩ : ∃ N, fwdS x.a [0] (fun _ => true) = N := ⟨_, rfl⟩
   have HNL := Lib.hid (show N.length = n by rw [← hN, fwdS_len, HXA.out, HN.out, Int.toNat_natCast])
   have HRR := Lib.hid (show cycG x.a (prmE evs) N (n - 0) 0 = RES by rw [← hN, Nat.sub_zero, HXA.out]; have h := HR.out; unfold cycF at h; rw [HN.out, Int.toNat_natCast] at h; exact h)
   rw [hN] at HBN
   clear hN
   go_wp2
   go_loopw [5, 6, 15, 16, 42] (fun s5 s6 s15 s16 s42 wr => ∃ (k : Nat) (v5 v6 v15 v16 : Value), s42 = .int .i64 k ∧ s5 = v5 ∧ s6 = v6 ∧ s15 = v15 ∧ s16 = v16 ∧ k ≤ n ∧ Hid (CyM w wr x ba n bG (bG + 1) (inF 32 evs)) ∧ Hid (0 < n → ∃ b, B = some ⟨b, 0, none⟩ ∧ Blk wr b 4 (bvl N)) ∧ Hid (cycG x.a (prmE evs) N (n - k) k = RES)) (fun _ _ _ _ s42 _ => n - (intOf s42).toNat)
   case atStart => exact ⟨0, _, _, _, _, rfl, rfl, rfl, rfl, rfl, Nat.zero_le _, HM6, HBN, HRR⟩
   case round =>
    clear HM6 HBN HRR
    obtain ⟨k, v5, v6, v15, v16, rfl, rfl, rfl, rfl, rfl, hk, HM, HBN, HRR⟩ := hrel
    by_cases hlt : k < n
    ·obtain ⟨bN, rfl, hkN⟩ := HBN.out (by omega)
     clear HBN
     have b1 : (k : Int) < (n : Int) := by omega
     obtain ⟨q, hq⟩ : ∃ q, fl N (k : Int) = q := ⟨_, rfl⟩
     have hgq := fl_get hq (by omega) (by rw [HNL.out]; omega)
     rw [Int.toNat_natCast] at hgq
     have g1 : wr.cell? ⟨bN, k, none⟩ = some (.bool q) := hkN.cell (by rw [bvl_get, hgq]; rfl)
     have hbx := box_below wr (.cells #[.int .i64 (k : Int)] 3)
     have HM1 := Lib.hid (HM.out.quiet hbx)
     have HKN := Lib.hid (hkN.below hbx hkN.lt)
     have HKS := Lib.hid (show Blk (wr.alloc (.cells #[.int .i64 (k : Int)] 3)) wr.heap.size 3 [.int .i64 (k : Int)] from Blk.new _ _ [_])
     have HSTEP := Lib.hid (show ¬ (fl N (k : Int) = true ∧ (rndF x.a (k : Int) (prmE evs)).2 = true) → cycG x.a (prmE evs) N (n - (k + 1)) (k + 1) = RES from fun h => by
      have h9 := HRR.out
      rw [show n - k = (n - (k + 1)) + 1 by omega, cycG_no h] at h9
      exact h9)
     have HDONE := Lib.hid (show (fl N (k : Int) = true ∧ (rndF x.a (k : Int) (prmE evs)).2 = true) → (((pathS x.a 0 (fun t => t == (k : Int)) (fun _ => true)).getD [], (rndF x.a (k : Int) (prmE evs)).1), true) = RES from fun h => by
      have h9 := HRR.out
      rw [show n - k = (n - (k + 1)) + 1 by omega, cycG_yes h] at h9
      exact h9)
     have HQ := Lib.hid hq
     clear hkN hbx HM HRR hgq hq
     cases q with
     | false =>
      have HS2 := Lib.hid (HSTEP.out (fun h => by rw [HQ.out] at h; cases h.1))
      clear HSTEP HDONE
      go_wp2
      go_roundw
      case rel => exact ⟨k + 1, _, _, _, _, by go_num, rfl, rfl, rfl, rfl, by omega, HM1, Lib.hid (fun _ => ⟨bN, rfl, HKN.out⟩), HS2⟩
      case measure => simp [intOf]; omega
     | true =>
      obtain ⟨w7, hw7⟩ : ∃ w7, w7 = wr.alloc (.cells #[.int .i64 (k : Int)] 3) := ⟨_, rfl⟩
      rw [← hw7] at HM1 HKN HKS
      have HRD := Lib.hid (round_ok x ba n k 101 (.pointer (some ⟨bG + 1, 0, none⟩)) (prmE evs) (rndF x.a (k : Int) (prmE evs)) w7 HM1.out.grh hlt (fun _ _ => rfl) (fun e W he hb => by
       rw [HXA.out] at he
       have hg := HWF.out.ev_rng he
       exact cycle1_ok (bG + 1) (inF 32 evs) e W (HM1.out.b.below hb HM1.out.b.lt) (inF_len 32 evs) hg.2.2.2.2.1 hg.2.2.2.2.2) rfl)
      rw [HGC.out] at HRD
      have kg := HM1.out.g
      rw [HGC.out] at kg
      have a0 := kg.cell (j := 0) rfl
      have a1 := kg.cell (j := 1) rfl
      have a2 := kg.cell (j := 2) rfl
      have a3 := kg.cell (j := 3) rfl
      have a4 := kg.cell (j := 4) rfl
      have a5 := HKS.out.cell (j := 0) rfl
      rw [hw7] at a0 a1 a2 a3 a4 a5
      have HW7 := Lib.hid hw7; clear hw7
      clear kg
      go_wp2_with fail
      rw [← HW7.out]
      refine HRD.out.mono ?_
      rintro e w8 ⟨cv, rfl, hcv, hb8⟩
      have HM8 := Lib.hid (HM1.out.quiet hb8)
      have HK8 := Lib.hid (HKN.out.below hb8 HKN.out.lt)
      have HS8 := Lib.hid (HKS.out.below hb8 HKS.out.lt)
      have HCV := Lib.hid (show w8.ownsRow w.heap.size 3 1 cv (rndF x.a (k : Int) (prmE evs)).1.length (iv (rndF x.a (k : Int) (prmE evs)).1) from own_base hcv HM1.out.bel.size)
      clear a0 a1 a2 a3 a4 a5 HRD hcv hb8 HKN HKS HM1 HW7
      obtain ⟨cf, hcf⟩ : ∃ f, (rndF x.a (k : Int) (prmE evs)).2 = f := ⟨_, rfl⟩
      rw [hcf] at HSTEP HDONE ⊢
      clear hcf
      cases cf with
      | false =>
       have HS2 := Lib.hid (HSTEP.out (fun h => by cases h.2))
       clear HSTEP HDONE
       go_wp2
       go_roundw
       case rel => exact ⟨k + 1, _, _, _, _, by go_num, rfl, rfl, rfl, rfl, by omega, HM8, Lib.hid (fun _ => ⟨bN, rfl, HK8.out⟩), HS2⟩
       case measure => simp [intOf]; omega
      | true =>
       have HRE := Lib.hid (HDONE.out ⟨HQ.out, rfl⟩)
       clear HSTEP HDONE
       obtain ⟨res, hres⟩ : ∃ r, pathS x.a 0 (fun t => t == (k : Int)) (fun _ => true) = r := ⟨_, rfl⟩
       have hpa := path_any x ba n 0 104 105 (.pointer (some ⟨wr.heap.size, 0, none⟩)) (fun t => t == (k : Int)) (fun _ => true) res w8 HM8.out.grh (by omega) (fun _ _ => rfl) (fun _ _ => rfl) (fun t W _ _ hb => cycle2_ok wr.heap.size (k : Int) t W (HS8.out.below hb HS8.out.lt)) (fun e W _ _ => anyEdge_ok e W) hres
       rw [hres] at HRE
       rw [HGC.out] at hpa
       have HPA := Lib.hid hpa
       have kg := HM8.out.g
       rw [HGC.out] at kg
       have a0 := kg.cell (j := 0) rfl
       have a1 := kg.cell (j := 1) rfl
       have a2 := kg.cell (j := 2) rfl
       have a3 := kg.cell (j := 3) rfl
       have a4 := kg.cell (j := 4) rfl
       clear kg hpa hres
       go_wp2_with fail
       refine HPA.out.mono ?_
       rintro e w9 hr9
       cases res with
       | none =>
        obtain ⟨rfl, hb9⟩ := hr9
        have HF := Lib.hid (And.intro (own_below HCV.out hb9) (HM8.out.bel.trans (hb9.mono HM8.out.bel.size)))
        clear a0 a1 a2 a3 a4 HPA hb9
        go_wp2
        refine bodyPost_ret (v := .tuple #[.slice none 0 0, cv, .bool true, .int .i64 0]) (by simp [results, Try.results60, go_sem]) rfl ?_
        rw [← HRE.out]
        exact ⟨_, _, rfl, World.ownsRow_nil _ _ _ _, HF.out.1, HF.out.2⟩
       | some ws =>
        obtain ⟨pv, rfl, hpv, hb9⟩ := hr9
        have HF := Lib.hid (And.intro (own_base hpv HM8.out.bel.size) (And.intro (own_below HCV.out hb9) (HM8.out.bel.trans (hb9.mono HM8.out.bel.size))))
        clear a0 a1 a2 a3 a4 HPA hpv hb9
        go_wp2
        refine bodyPost_ret (v := .tuple #[pv, cv, .bool true, .int .i64 0]) (by simp [results, Try.results60, go_sem]) rfl ?_
        rw [← HRE.out]
        exact ⟨_, _, rfl, HF.out.1, HF.out.2.1, HF.out.2.2⟩
    ·obtain rfl : k = n := by omega
     have b1 : ¬ (k : Int) < (k : Int) := by omega
     have HRE := Lib.hid (show ((([] : List Int), ([] : List Int)), false) = RES by rw [← HRR.out, Nat.sub_self]; rfl)
     go_wp2
     refine bodyPost_ret (v := .tuple #[.slice none 0 0, .slice none 0 0, .bool false, .int .i64 0]) (by simp [results, Try.results60, go_sem]) rfl ?_
     rw [← HRE.out]
     exact ⟨_, _, rfl, World.ownsRow_nil _ _ _ _, World.ownsRow_nil _ _ _ _, HM.out.bel⟩
end Go.Proofs.Ytddhaidimadliaa
