/- The state of ref06.Synchronous in memory. -/
import Derived.Test.YtbdliebjalghmaaDoorGi
namespace Go.Proofs.YtbdliebjalghmaaDoor
open Go.RowKit Go

structure RSy (w0 w : World) (n : Nat) (V mv ev tv : Value) (km ke nt : Nat) (ts : List SlV) (s : Bs (List Int)) (mk : List Int) : Prop where
  bld : Bld w0 w V (.int .i64 0) mv ev km ke mk s.es
  tsl : ts.map SlV.l = s.ts
  tn : ts.length = nt
  own : w.ownsRow (w0.heap.size + 1) 26 1 tv nt (ts.map SlV.v)
  tup : ∀ x ∈ ts, w.ownsRow (w0.heap.size + 1) 3 1 x.v n (iv x.l) ∧ x.l.length = n ∧ (x.v.ownBlock = none ∨ x.v.ownBlock ≠ mv.ownBlock)
section
variable {w0 w w' : World} {n : Nat} {V mv ev tv : Value} {km ke nt : Nat} {ts : List SlV} {s : Bs (List Int)} {mk : List Int}
theorem RSy.quiet (h : RSy w0 w n V mv ev tv km ke nt ts s mk) (hb : Below w.heap.size w w') : RSy w0 w' n V mv ev tv km ke nt ts s mk :=
  ⟨h.bld.quiet hb, h.tsl, h.tn, own_below h.own hb, fun x hx => ⟨own_below (h.tup x hx).1 hb, (h.tup x hx).2⟩⟩
theorem RSy.mark (h : RSy w0 w n V mv ev tv km ke nt ts s mk) {A : Option Addr} {c : Nat} {i : Int} (ho : w'.ownsRow (w0.heap.size + 1) 3 1 (.slice A (km + 1) c) (km + 1) (iv mk ++ [.int .i64 i])) (hg : w.grownBy w' mv.ownBlock)
    (hl : (Value.slice A (km + 1) c).ownBlock = mv.ownBlock ∨ ∃ g, (Value.slice A (km + 1) c).ownBlock = some g ∧ w.heap.size ≤ g) :
    RSy w0 (w'.setCell ⟨w0.heap.size, 2, none⟩ (.slice A (km + 1) c)) n V (.slice A (km + 1) c) ev tv (km + 1) ke nt ts s (mk ++ [i]) := by
  have r1 : w0.heap.size < w0.heap.size + 1 := Nat.lt_succ_self _
  have hs := grown_setCell w' w0.heap.size 2 (.slice A (km + 1) c)
  refine ⟨h.bld.mark ho hg, h.tsl, h.tn, own_kept_low (own_kept_ne h.own h.bld.mrk (by decide) hg) hs r1, fun x hx => ?_⟩
  obtain ⟨h1, h2, h3⟩ := h.tup x hx
  refine ⟨own_kept_low (h1.kept hg h3) hs r1, h2, ?_⟩
  rcases hl with hl | ⟨g, hl, hgs⟩
  · rw [hl]; exact h3
  · cases hv : x.v.ownBlock with
    | none => exact .inl rfl
    | some b =>
      right
      rw [hl]
      have := (h1.lt b hv).2
      intro e; injection e with e; omega
theorem RSy.edge (h : RSy w0 w n V mv ev tv km ke nt ts s mk) {A : Option Addr} {c : Nat} {x : Ed} (ho : w'.ownsRow (w0.heap.size + 1) 43 3 (.slice A (ke + 1) c) (ke + 1) (s.es.flatMap edc ++ edc x)) (hg : w.grownBy w' ev.ownBlock) :
    RSy w0 (w'.setCell ⟨w0.heap.size, 3, none⟩ (.slice A (ke + 1) c)) n V mv (.slice A (ke + 1) c) tv km (ke + 1) nt ts ⟨s.ts, s.es ++ [x]⟩ mk := by
  have r1 : w0.heap.size < w0.heap.size + 1 := Nat.lt_succ_self _
  have hs := grown_setCell w' w0.heap.size 3 (.slice A (ke + 1) c)
  refine ⟨h.bld.edge ho hg, h.tsl, h.tn, own_kept_low (own_kept_ne h.own h.bld.edg (by decide) hg) hs r1, fun y hy => ?_⟩
  obtain ⟨h1, h2, h3⟩ := h.tup y hy
  exact ⟨own_kept_low (own_kept_ne h1 h.bld.edg (by decide) hg) hs r1, h2, h3⟩
theorem Bld.far {v1 : Value} {es : List Ed} (h : Bld w0 w V v1 mv ev km ke mk es) {e : TypeId} {size m : Nat} {v : Value} {xs : List Value} (ho : w.ownsRow (w0.heap.size + 1) e size v m xs) (he1 : e ≠ 3) (he2 : e ≠ 43) (hg : w.grownBy w' v.ownBlock) : Bld w0 w' V v1 mv ev km ke mk es := by
  have r1 : w0.heap.size < w0.heap.size + 1 := Nat.lt_succ_self _
  exact ⟨h.bel.grown hg (Nat.le_of_lt h.lt) (fun j hj => by have := (ho.lt j hj).1; omega), h.blk.kept hg (own_lt_ne ho r1), own_kept_ne h.mrk ho (Ne.symm he1) hg, h.mkl, own_kept_ne h.edg ho (Ne.symm he2) hg, h.edl⟩
theorem RSy.tuple (h : RSy w0 w n V mv ev tv km ke nt ts s mk) {A B : Option Addr} {cx ct : Nat} {x : List Int} (hx : w.ownsRow (w0.heap.size + 1) 3 1 (.slice A n cx) n (iv x)) (hxl : x.length = n) (hxo : (Value.slice A n cx).ownBlock = none ∨ (Value.slice A n cx).ownBlock ≠ mv.ownBlock)
    (ho : w'.ownsRow (w0.heap.size + 1) 26 1 (.slice B (nt + 1) ct) (nt + 1) (ts.map SlV.v ++ [.slice A n cx])) (hg : w.grownBy w' tv.ownBlock) :
    RSy w0 w' n V mv ev (.slice B (nt + 1) ct) km ke (nt + 1) (ts ++ [⟨A, cx, x⟩]) ⟨s.ts ++ [x], s.es⟩ mk := by
  refine ⟨h.bld.far h.own (by decide) (by decide) hg, by simp [h.tsl], by simp [h.tn], by simpa [SlV.v, hxl] using ho, fun y hy => ?_⟩
  rcases List.mem_append.1 hy with hy | hy
  · obtain ⟨h1, h2, h3⟩ := h.tup y hy
    exact ⟨own_kept_ne h1 h.own (by decide) hg, h2, h3⟩
  · obtain rfl := List.mem_singleton.1 hy
    refine ⟨?_, hxl, ?_⟩
    · show w'.ownsRow _ _ _ (.slice A x.length cx) _ _
      rw [hxl]; exact own_kept_ne hx h.own (by decide) hg
    · show (Value.slice A x.length cx).ownBlock = none ∨ (Value.slice A x.length cx).ownBlock ≠ mv.ownBlock
      rw [hxl]; exact hxo
/-- the tuples as they are read -/
theorem RSy.rds {TA : Option Addr} {tc : Nat} (h : RSy w0 w n V mv ev (.slice TA nt tc) km ke nt ts s mk) : RdS w w.heap.size TA ts ∧ nt ≤ tc ∧ tc ≤ 9223372036854775807 := by
  obtain ⟨o1, o2⟩ := cap_of_own h.own
  refine ⟨⟨RdV.of_own h.own, fun x hx => ?_⟩, o1, o2⟩
  obtain ⟨h1, h2, _⟩ := h.tup x hx
  unfold SlV.v at h1
  rw [h2] at h1
  obtain ⟨c1, c2⟩ := cap_of_own h1
  exact ⟨RdI.of_own h1, by rw [h2]; exact c1, c2⟩
theorem RSy.start (w0 : World) (V : Value) {w2 : World} {A : Option Addr} {cx n : Nat} {x : List Int} (hb : Below (w0.alloc (.cells #[V, .int .i64 0, .slice none 0 0, .slice none 0 0] 29)).heap.size (w0.alloc (.cells #[V, .int .i64 0, .slice none 0 0, .slice none 0 0] 29)) w2)
    (hx : w2.ownsRow (w0.heap.size + 1) 3 1 (.slice A n cx) n (iv x)) (hxl : x.length = n) :
    RSy w0 (w2.alloc (.cells #[.slice A n cx] 26)) n V (.slice none 0 0) (.slice none 0 0) (.slice (some ⟨w2.heap.size, 0, none⟩) 1 1) 0 0 1 [⟨A, cx, x⟩] ⟨[x], []⟩ [] := by
  have hb2 := ((Bld.start w0 V (.int .i64 0)).quiet hb).quiet (box_below w2 (.cells #[.slice A n cx] 26))
  have hz : w0.heap.size + 1 ≤ w2.heap.size := by have := hb.size; simpa using this
  refine ⟨hb2, rfl, rfl, ?_, fun y hy => ?_⟩
  · have := own_lit w2 [.slice A n cx] (w0.heap.size + 1) 26 hz (by simp)
    simpa [SlV.v, hxl] using this
  · obtain rfl := List.mem_singleton.1 hy
    refine ⟨?_, hxl, ?_⟩
    · show (w2.alloc _).ownsRow _ _ _ (.slice A x.length cx) _ _
      rw [hxl]; exact hx.alloc _
    · cases A with
      | none => exact .inl rfl
      | some ad => right; simp [SlV.v, Value.ownBlock]
end
/-- What the reference's Synchronous hands back. -/
def RetSR (r : Option (Aut × List (List Int))) (w : World) (e : Ending) (w' : World) : Prop :=
  Below w.heap.size w w' ∧ ∃ (a : Aut) (T : List (List Int)), r = some (a, T) ∧ ∃ (A : Option Addr) (na ca : Nat) (M : Option Addr) (nm cm : Nat) (E : Option Addr) (ne ce : Nat) (B : Option Addr) (nb cb : Nat) (ts : List SlV),
      e = .returned (.tuple #[.agg #[.slice A na ca, .int .i64 a.st, .slice M nm cm, .slice E ne ce], .slice B nb cb]) ∧ AutO w' w.heap.size A na ca M nm cm E ne ce a ∧ RdS w' w'.heap.size B ts ∧ ts.length = nb ∧ nb ≤ cb ∧ cb ≤ 9223372036854775807 ∧ ts.map SlV.l = T
end Go.Proofs.YtbdliebjalghmaaDoor
