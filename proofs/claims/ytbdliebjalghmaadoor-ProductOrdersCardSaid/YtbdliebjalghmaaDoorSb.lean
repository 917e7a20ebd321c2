/- Walks: slices.Index, Contains at ints; automaton.Check. -/
import Derived.Test.YtbdliebjalghmaaDoorSa
import Derived.Test.YtbdliebjalghmaaDoorQb
import Derived.Test.YtbdliebjalghmaaDoorAa
namespace Go.Proofs.YtbdliebjalghmaaDoor
open Go.RowKit Go

theorem hasB_idx (l : List Int) (x : Int) : hasB l x = decide (0 ≤ idx l x) := by
  rw [Bool.eq_iff_iff, hasB_mem, decide_eq_true_iff]
  have := idx_neg (l := l) (x := x)
  constructor
  · intro h
    by_cases h0 : idx l x < 0
    · exact absurd h (this.1 h0)
    · omega
  · intro h
    by_cases h0 : x ∈ l
    · exact h0
    · have := this.2 h0; omega
set_option maxHeartbeats 400000 in
theorem slices_Index (A : Option Addr) (c n : Nat) (l : List Int) (x : Int) (w : World) (hl : l.length = n) (h : RdI w w.heap.size A l) (hlc : n ≤ c) (hc : c ≤ 9223372036854775807) :
    Calls Tryd.prog 84 #[.slice A n c, .int .i64 x] w fun e w' => e = .returned (.int .i64 (idx l x)) ∧ w = w' := by
  have HL := Lib.hid hl; clear hl
  go_enter Tryd.func84, Tryd.ntmps84
  go_wp2
  go_loop [8] (fun i => ∃ k : Nat, k ≤ n ∧ i = .int .i64 k ∧ Hid (x ∉ l.take k)) (fun i => n - (intOf i).toNat)
  case atStart => exact ⟨0, Nat.zero_le _, rfl, Lib.hid (by simp)⟩
  case round =>
    obtain ⟨k, hk, rfl, HN⟩ := hrel
    by_cases hlt : k < n
    · obtain ⟨ad, y, rfl, hb, hy, hcell⟩ := h.at_ (k := k) (by have := HL.out; omega)
      have b1 : (k : Int) < (n : Int) := by omega
      by_cases hxy : x = y
      · subst hxy
        have hf := idx_hit hy HN.out
        have HF := Lib.hid hf; clear hf
        have HY := Lib.hid hy; clear hy
        go_wp2
        go_ret
        exact ⟨ret_int HF.out.symm, rfl⟩
      · have hxy' : (x == y) = false := by simpa using hxy
        have HS := Lib.hid (not_take_succ hy HN.out (fun e => hxy e.symm))
        have HY := Lib.hid hy; clear hy
        clear hxy
        go_wp2
        go_round
        case rel => exact ⟨k + 1, by omega, by go_num, HS⟩
        case measure => simp [intOf]; omega
    · have hf : idx l x = -1 := idx_end HN.out (by have := HL.out; omega)
      have HF := Lib.hid hf; clear hf
      go_wp2
      go_ret
      exact ⟨ret_int HF.out.symm, rfl⟩
theorem slices_Contains (A : Option Addr) (c n : Nat) (l : List Int) (x : Int) (q : Bool) (w : World) (hl : l.length = n) (hq : hasB l x = q) (h : RdI w w.heap.size A l) (hlc : n ≤ c) (hc : c ≤ 9223372036854775807) :
    Calls Tryd.prog 67 #[.slice A n c, .int .i64 x] w fun e w' => e = .returned (.bool q) ∧ w = w' := by
  have hcon := slices_Index A c n l x w hl h hlc hc
  rw [hasB_idx] at hq
  generalize idx l x = r at *
  have HC := Lib.hid hcon
  clear hcon hl
  subst hq
  go_enter Tryd.func67, Tryd.ntmps67
  go_wp2_with fail
  refine HC.out.mono ?_
  rintro e w' ⟨rfl, rfl⟩
  go_wp2
  go_ret
  exact ⟨rfl, rfl⟩

set_option maxHeartbeats 400000 in
theorem automaton_checkSet (A : Option Addr) (c n : Nat) (l : List Int) (m r : Int) (w : World) (hl : l.length = n) (hr : setErr l m = r) (h : RdI w w.heap.size A l) (hlc : n ≤ c) (hc : c ≤ 9223372036854775807) :
    Calls Tryd.prog 77 #[.slice A n c, .int .i64 m] w fun e w' => e = .returned (.int .i64 r) ∧ w = w' := by
  have HL := Lib.hid hl; clear hl
  have HR := Lib.hid hr; clear hr
  go_enter Tryd.func77, Tryd.ntmps77
  go_wp2
  go_loop [9] (fun i => ∃ k : Nat, k ≤ n ∧ i = .int .i64 k ∧ Hid (r = setErrG m (l.take k).getLast? (l.drop k))) (fun i => n - (intOf i).toNat)
  case atStart => exact ⟨0, Nat.zero_le _, rfl, Lib.hid HR.out.symm⟩
  case round =>
    obtain ⟨k, hk, rfl, HX⟩ := hrel
    clear HR
    by_cases hlt : k < n
    · obtain ⟨ad, y, rfl, hb, hy, hcell⟩ := h.at_ (k := k) (by have := HL.out; omega)
      have b1 : (k : Int) < (n : Int) := by omega
      have HY := Lib.hid hy; clear hy
      by_cases h1 : y < 0
      · go_wp2
        go_ret
        exact ⟨ret_int (by rw [HX.out, setErrG_range HY.out (.inl h1)]), rfl⟩
      by_cases h2 : m ≤ y
      · go_wp2
        go_ret
        exact ⟨ret_int (by rw [HX.out, setErrG_range HY.out (.inr h2)]), rfl⟩
      have e1 : decide (y < 0) = false := by simpa using h1
      have e2 : decide (m ≤ y) = false := by simpa using h2
      cases k with
      | zero =>
        have hcell' := cell_zero hcell
        go_wp2
        go_round
        case rel => exact ⟨1, by omega, by go_num, Lib.hid (by rw [HX.out, take_snoc' HY.out, List.getLast?_concat]; exact setErrG_first HY.out (by omega))⟩
        case measure => simp [intOf]; omega
      | succ j =>
        obtain ⟨ad', q, e, _, hq, hcq⟩ := h.at_ (k := j) (by have := HL.out; omega)
        obtain rfl : ad = ad' := by injection e
        have hcell' := cell_succ hcell
        have HQ := Lib.hid hq; clear hq
        by_cases h3 : y ≤ q
        · go_wp2
          go_ret
          exact ⟨ret_int (by rw [HX.out, take_snoc' HQ.out, List.getLast?_concat, setErrG_order HY.out (by omega) h3]), rfl⟩
        · go_wp2
          go_round
          case rel => exact ⟨j + 1 + 1, by omega, by go_num, Lib.hid (by rw [HX.out, take_snoc' HQ.out, List.getLast?_concat, setErrG_next HY.out (by omega) (by omega), take_snoc' HY.out, List.getLast?_concat])⟩
          case measure => simp [intOf]; omega
    · have hf : r = 0 := by rw [HX.out, setErrG_end (by have := HL.out; omega)]
      have HF := Lib.hid hf; clear hf
      go_wp2
      go_ret
      exact ⟨ret_int HF.out.symm, rfl⟩
end Go.Proofs.YtbdliebjalghmaaDoor
