/- Walks: slices.Index and slices.Equal at pairs, slices.EqualFunc at lists of ints. -/
import Derived.Test.YtioijhpbedmeaaaDoorMi
import Derived.Test.YtioijhpbedmeaaaDoorGa
import Derived.Test.YtioijhpbedmeaaaDoorTu
import Derived.Deep.Cut
import Derived.ChangeKeysEq
namespace Go.Proofs.YtioijhpbedmeaaaDoor
open Go.RowKit Go

theorem pair_eql (w : World) (a b c d : Int) : (binOp .eql 92 (.agg #[.int .i64 a, .int .i64 b]) (.agg #[.int .i64 c, .int .i64 d])).run Tryd.prog w = .ok (.bool (decide ((a, b) = (c, d)))) w := by
  obtain ⟨i, hi, _⟩ := info_parts int_info
  have hc : Tryd.prog.cellsOf 3 = 1 := by kernel_rfl
  have hu := Tryd.underlying92
  have hv := Tryd.underlying3
  simp only [binOp]
  simp only [Op.equal, Op.maxDepth, Sem.run_bind, run_equalIn_array w 9999 _ _ hu hi, hc]
  simp [Op.eqItems, List.range, List.range.loop, part]
  rw [run_equalIn_int w 9998 3 .i64 .i64 a c hv]
  by_cases h1 : a = c
  · subst h1
    simp [run_equalIn_int w 9998 3 .i64 .i64 b d hv]
    by_cases h2 : b = d <;> simp [h2]
  · simp [h1]
theorem pair_neq (w : World) (a b c d : Int) : (binOp .neq 92 (.agg #[.int .i64 a, .int .i64 b]) (.agg #[.int .i64 c, .int .i64 d])).run Tryd.prog w = .ok (.bool (!decide ((a, b) = (c, d)))) w := by
  obtain ⟨i, hi, _⟩ := info_parts int_info
  have hc : Tryd.prog.cellsOf 3 = 1 := by kernel_rfl
  have hu := Tryd.underlying92
  have hv := Tryd.underlying3
  simp only [binOp]
  simp only [Op.equal, Op.maxDepth, Sem.run_bind, run_equalIn_array w 9999 _ _ hu hi, hc]
  simp [Op.eqItems, List.range, List.range.loop, part]
  rw [run_equalIn_int w 9998 3 .i64 .i64 a c hv]
  by_cases h1 : a = c
  · subst h1
    simp [run_equalIn_int w 9998 3 .i64 .i64 b d hv]
    by_cases h2 : b = d <;> simp [h2]
  · simp [h1]
theorem two_of {x : List Int} (h : x.length = 2) : ∃ a b, x = [a, b] := by
  match x, h with
  | [a, b], _ => exact ⟨a, b, rfl⟩
def eqP (a b : List (List Int)) : Bool := decide (a = b)
theorem eqP_of {a b : List (List Int)} (h : a = b) : eqP a b = true := by unfold eqP; rw [decide_eq_true_iff]; exact h
theorem eqP_ne {a b : List (List Int)} {k : Nat} {x y : List Int} (ha : a[k]? = some x) (hb : b[k]? = some y) (h : x ≠ y) : eqP a b = false := by
  unfold eqP; rw [decide_eq_false_iff_not]; rintro rfl; rw [ha] at hb; injection hb with hb; exact h hb
theorem eqP_len {a b : List (List Int)} (h : a.length ≠ b.length) : eqP a b = false := by
  unfold eqP; rw [decide_eq_false_iff_not]; rintro rfl; exact h rfl
theorem take_eq_snocP {a b : List (List Int)} {k : Nat} {x : List Int} (ha : a[k]? = some x) (hb : b[k]? = some x) (h : a.take k = b.take k) : a.take (k + 1) = b.take (k + 1) := by rw [take_snoc' ha, take_snoc' hb, h]
theorem eq_of_dropP {a b : List (List Int)} (hl : a.length = b.length) {k : Nat} (h : a.take k = b.take k) (hk : ¬ k < a.length) : a = b := by
  rwa [List.take_of_length_le (by omega), List.take_of_length_le (by omega)] at h
end Go.Proofs.YtioijhpbedmeaaaDoor
