/- Words on blocks that are known whole; edges as a table. No program in sight. -/
import Derived.Test.YtbdliebjalghmaaDoorAa
import Derived.Test.YtbdliebjalghmaaDoorAb
import Derived.OwnWalk
import Derived.OneCell
import Derived.Deep.OwnRows
namespace Go.Proofs.YtbdliebjalghmaaDoor
open Go.RowKit Go

/-- Block b holds the cells vs, and may be written. -/
def Blk (w : World) (b : Nat) (t : TypeId) (vs : List Value) : Prop := w.heap[b]? = some (.cells vs.toArray t (0, 0))
section
variable {w w' : World} {b : Nat} {t : TypeId} {vs : List Value}
theorem Blk.new (w : World) (t : TypeId) (vs : List Value) : Blk (w.alloc (.cells vs.toArray t)) w.heap.size t vs := heap_alloc_new w _
theorem Blk.lt (h : Blk w b t vs) : b < w.heap.size := (Array.getElem?_eq_some_iff.1 h).1
theorem Blk.cell (h : Blk w b t vs) {j : Nat} {u : Value} (hj : vs[j]? = some u) : w.cell? ⟨b, j, none⟩ = some u := by
  rw [cell_of_row w b j vs.toArray t (0, 0) h]; simpa using hj
theorem Blk.free (h : Blk w b t vs) (j : Nat) : w.frozen? ⟨b, j, none⟩ = false := by
  unfold Blk at h
  simp [World.frozen?, h]
theorem Blk.kept (h : Blk w b t vs) {row : Option Nat} (hg : w.grownBy w' row) (hne : some b ≠ row) : Blk w' b t vs := (hg.block b h.lt hne).trans h
theorem Blk.below (h : Blk w b t vs) {B : Nat} (hb : Below B w w') (hB : b < B) : Blk w' b t vs := (hb.block b hB).trans h
theorem Blk.set (h : Blk w b t vs) {j : Nat} (_hj : j < vs.length) (u : Value) : Blk (w.setCell ⟨b, j, none⟩ u) b t (vs.set j u) := by
  unfold Blk at *
  have hlt : b < w.heap.size := (Array.getElem?_eq_some_iff.1 h).1
  have hg : w.heap[b] = .cells vs.toArray t (0, 0) := by
    rw [Array.getElem?_eq_getElem hlt] at h; injection h
  unfold World.setCell
  simp [hlt, Array.getElem_modify, hg]
theorem grown_setCell (w : World) (b j : Nat) (u : Value) : w.grownBy (w.setCell ⟨b, j, none⟩ u) (some b) :=
  ⟨rfl, rfl, rfl, by simp [World.setCell], fun k _ hne => Below.heap_setCell _ _ _ _ (fun e => hne (by rw [e]))⟩
theorem grown_alloc (w : World) (o : Obj) (row : Option Nat) : w.grownBy (w.alloc o) row := World.grownBy_alloc w o row
theorem grown_below (h : Below w.heap.size w w') (row : Option Nat) : w.grownBy w' row := ⟨h.os, h.tape, h.output, h.size, fun k hk _ => h.block k hk⟩
theorem below_grown {B : Nat} {a : World} {row : Option Nat} (h : Below B a w) (hg : w.grownBy w' row) (hB : B ≤ w.heap.size) (hr : ∀ k, row = some k → B ≤ k) : Below B a w' := h.grown hg hB hr
end
theorem RdV.kept {w w' : World} {B : Nat} {A : Option Addr} {vs : List Value} (h : RdV w B A vs) {row : Option Nat} (hg : w.grownBy w' row) (hB : B ≤ w.heap.size) (hr : ∀ g, row = some g → B ≤ g) : RdV w' B A vs := h.grown hg hB hr

/-- the state to which an edge leads, if any -/
def lkE (s v : Int) : List Ed → Option Int
  | [] => none
  | x :: r => if x.f = s ∧ x.e = v then some x.t else lkE s v r
theorem lkE_nxt {s v : Int} : ∀ l : List Ed, nxtE s v l = (lkE s v l).getD (-1)
  | [] => rfl
  | x :: r => by
    unfold nxtE lkE
    by_cases h : x.f = s ∧ x.e = v
    · rw [if_pos h, if_pos h]; rfl
    · rw [if_neg h, if_neg h]; exact lkE_nxt r
theorem lkE_app {s v : Int} : ∀ l m : List Ed, lkE s v (l ++ m) = (lkE s v l).or (lkE s v m)
  | [], m => by simp [lkE]
  | x :: r, m => by
    show (if x.f = s ∧ x.e = v then some x.t else lkE s v (r ++ m)) = (if x.f = s ∧ x.e = v then some x.t else lkE s v r).or (lkE s v m)
    by_cases h : x.f = s ∧ x.e = v
    · rw [if_pos h, if_pos h]; rfl
    · rw [if_neg h, if_neg h]; exact lkE_app r m
theorem lkE_none {s v : Int} : ∀ {l : List Ed}, (∀ x ∈ l, ¬ (x.f = s ∧ x.e = v)) → lkE s v l = none
  | [], _ => rfl
  | x :: r, h => by
    unfold lkE
    rw [if_neg (h x (List.mem_cons_self ..))]
    exact lkE_none fun y hy => h y (List.mem_cons_of_mem _ hy)
theorem lkE_of_nxt {a : Aut} (h : WF a) {s v : Int} : lkE s v a.ed = if nxt a s v < 0 then none else some (nxt a s v) := by
  have e := lkE_nxt (s := s) (v := v) a.ed
  cases hl : lkE s v a.ed with
  | none =>
    rw [hl] at e
    have : nxt a s v = -1 := e
    rw [this]; rfl
  | some t =>
    rw [hl] at e
    have ht : nxt a s v = t := e
    rw [ht]
    by_cases hn : t = -1
    · exfalso
      have : ∀ {l : List Ed}, lkE s v l = some t → ∃ x ∈ l, x.t = t := by
        intro l
        induction l with
        | nil => intro h; cases h
        | cons x r ih =>
          intro h
          unfold lkE at h
          by_cases hx : x.f = s ∧ x.e = v
          · rw [if_pos hx] at h; injection h with h; exact ⟨x, List.mem_cons_self .., h⟩
          · rw [if_neg hx] at h
            obtain ⟨y, hy, h2⟩ := ih h
            exact ⟨y, List.mem_cons_of_mem _ hy, h2⟩
      obtain ⟨x, hx, h2⟩ := this hl
      have := (h.erng x hx).1
      unfold edOut at this
      omega
    · have := (h.nxt_rng (s := s) (v := v) (by rw [ht]; exact hn)).1
      rw [ht] at this
      rw [if_neg (by omega)]
/-- the table behind one more edge -/
theorem lkE_put {l : List Ed} {k : Nat} {x : Ed} (hp : l.Pairwise edLt) (h : l[k]? = some x) (s v : Int) :
    ((x.f = s ∧ x.e = v) → lkE s v (l.take (k + 1)) = some x.t) ∧ (¬ (x.f = s ∧ x.e = v) → lkE s v (l.take (k + 1)) = lkE s v (l.take k)) := by
  rw [take_snoc' h, lkE_app]
  constructor
  · intro hx
    rw [lkE_none, lkE, if_pos hx]; rfl
    intro y hy hyx
    obtain ⟨j, hj⟩ := List.getElem?_of_mem hy
    have hjk : j < k := by
      have := (List.getElem?_eq_some_iff.1 hj).1
      rw [List.length_take] at this; omega
    rw [List.getElem?_take, if_pos hjk] at hj
    obtain ⟨a1, a2⟩ := List.getElem?_eq_some_iff.1 hj
    obtain ⟨b1, b2⟩ := List.getElem?_eq_some_iff.1 h
    have := List.pairwise_iff_getElem.1 hp j k a1 b1 hjk
    rw [a2, b2] at this
    unfold edLt at this
    omega
  · intro hx
    have : lkE s v [x] = none := by simp [lkE, hx]
    rw [this]; simp
theorem add_lit0 (b k : Nat) : ((⟨b, 0, none⟩ : Addr).add k) = ⟨b, k, none⟩ := by
  unfold Addr.add
  split
  · rename_i h; subst h; rfl
  · simp
theorem rdv_lit (w : World) (vs : List Value) (e : TypeId) : RdV (w.alloc (.cells vs.toArray e)) (w.heap.size + 1) (some ⟨w.heap.size, 0, none⟩) vs := fun k u hu => by
  refine ⟨_, rfl, by show w.heap.size < _; omega, ?_⟩
  rw [add_lit0, cell_of_row _ _ _ _ e (0, 0) (heap_alloc_new w _)]
  simpa using hu
theorem rd_lit (w : World) (l : List Int) (e : TypeId) : RdI (w.alloc (.cells (iv l).toArray e)) (w.heap.size + 1) (some ⟨w.heap.size, 0, none⟩) l := rdv_lit w (iv l) e
theorem rds_lit (w : World) (xs : List SlV) (e : TypeId) (h : ∀ s ∈ xs, s.ok w w.heap.size) : RdS (w.alloc (.cells (xs.map SlV.v).toArray e)) (w.heap.size + 1) (some ⟨w.heap.size, 0, none⟩) xs :=
  ⟨rdv_lit w _ e, fun s hs => ((h s hs).after ((Below.refl _ _).alloc (Nat.le_refl _) _) (Nat.le_refl _)).more (Nat.le_succ _)⟩

theorem made_ints (n : Nat) : madeCells #[.int .i64 0] n = (iv (List.replicate n 0)).toArray := by
  apply Array.ext
  · simp [madeCells, iv]
  · intro i h1 h2
    simp [madeCells, iv, Nat.mod_one]
theorem rd_made (w : World) (n : Nat) (e : TypeId) : RdI (w.alloc (.cells (madeCells #[.int .i64 0] n) e)) (w.heap.size + 1) (some ⟨w.heap.size, 0, none⟩) (List.replicate n 0) := by
  rw [made_ints]; exact rd_lit w _ e
/-- push of one element of size cells, and where the new row lies -/
theorem wpList_pushA {P : Program} (w : World) (us : List Value) {ops : Array Oper} {rest : List Oper} {o : Oper} {a : Act} {Q : Exit → Act → World → Prop} (hgd : o.guard = none) (s x : Operand) (t : TypeId)
    (ho : o.op = .call { callee := .builtin .append, args := #[s, x], argTypes := #[t, t] })
    (base : Nat) (e : TypeId) (z : Value) (size bytes : Nat) (ht : P.underlying t = some (.slice e)) (hinfo : (P.info? e).map (fun i => (i.zero, i.size, i.bytes)) = some (some z, size, bytes))
    (hz1 : z.cells.size = size) (hsz : 0 < size) (hus : us.length = size) (v : Value) (n : Nat) (xs : List Value) (hs : a.eval s = v) (hown : w.ownsRow base e size v n xs)
    (hx : a.eval x = .slice (some ⟨w.heap.size, 0, none⟩) 1 1) (h1 : ∀ u ∈ us, u.oneCell' = true) (hbytes : (n + 1) * bytes ≤ 140737488355328) (hn : n + 1 ≤ 9223372036854775807) (hbase : base ≤ w.heap.size)
    (h : ∀ A c w', w'.ownsRow base e size (.slice A (n + 1) c) (n + 1) (xs ++ us) → w.grownBy w' v.ownBlock → ((Value.slice A (n + 1) c).ownBlock = v.ownBlock ∨ ∃ g, (Value.slice A (n + 1) c).ownBlock = some g ∧ w.heap.size ≤ g) → wpList P ops Q rest (a.put o.dst (.slice A (n + 1) c)) w') :
    wpList P ops Q (o :: rest) a (w.alloc (.cells us.toArray e)) := by
  obtain ⟨i, hi, hz, hs1, hby⟩ := info_parts hinfo
  refine wpList_append_own_at (w.alloc (.cells us.toArray e)) hgd s x t ho base e i z size bytes ht hi hz hs1 hby hz1 hsz v n xs hs (hown.alloc _) ⟨w.heap.size, 0, none⟩ 1 1 us hx (by rw [hus, Nat.one_mul]) ?_ h1 (by unfold maxLen; omega) hbytes (by simp; omega) ?_
  · intro j y hj
    rw [add_lit0, cell_of_row _ _ _ _ e (0, 0) (heap_alloc_new w _)]
    simpa using hj
  · intro v' w' ho' hg _ hloc
    have hg' : w.grownBy w' v.ownBlock := ⟨hg.os, hg.tape, hg.output, Nat.le_trans (by simp) hg.size, fun k hk hne => (hg.block k (by simp; omega) hne).trans (Below.heap_alloc w _ k hk)⟩
    obtain ⟨A, c, rfl⟩ : ∃ A c, v' = .slice A (n + 1) c := by
      rcases ho'.2 with ⟨hv, h0⟩ | ⟨g, cap, cur, hv, _⟩
      · omega
      · exact ⟨_, _, hv⟩
    exact h A c w' ho' hg' (hloc.imp id (fun hl => ⟨_, hl, by simp⟩))
theorem box_below' (w : World) (o : Obj) : Below w.heap.size w (w.alloc o) := (Below.refl _ _).alloc (Nat.le_refl _) _
theorem own_made (w : World) (base n : Nat) (e : TypeId) (hb : base ≤ w.heap.size) (hn : n ≤ 9223372036854775807) : (w.alloc (.cells (madeCells #[.int .i64 0] n) e)).ownsRow base e 1 (.slice (some ⟨w.heap.size, 0, none⟩) n n) n (iv (List.replicate n 0)) := by
  rw [made_ints]
  refine ⟨by simp [iv], .inr ⟨w.heap.size, n, (iv (List.replicate n 0)).toArray, rfl, hb, heap_alloc_new w _, Nat.le_refl _, by unfold maxLen; omega, by simp [iv], by simp [iv]⟩⟩
theorem quiet_eq {P : Program} {f : FuncId} {args : Array Value} {w : World} {n : Nat} {v : Value} (h : Calls P f args (w.drewN n) fun e w' => e = .returned v ∧ w.drewN n = w') : Calls P f args (w.drewN n) fun e w'' => e = .returned v ∧ ∃ m, w'' = w.drewN m := h.mono fun _ _ ⟨he, hm⟩ => ⟨he, n, hm.symm⟩
end Go.Proofs.YtbdliebjalghmaaDoor
