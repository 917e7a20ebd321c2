/- Walks: the reference's loops over ints that only read. -/
import Derived.Test.YtcbhencebflgcaaRows
import Derived.Test.YtcbhencebflgcaaBase
import Derived.Test.YtcbhencebflgcaaPl
import Derived.WalkLawsBesides
import Derived.BigQuiet
import Derived.Deep.QuietTactic
import Derived.Outline
namespace Go.Proofs.Ytcbhencebflgcaa
open Go.RowKit Go

theorem ret_bool {a b : Bool} (h : a = b) : Ending.returned (.bool a) = Ending.returned (.bool b) := by rw [h]
theorem ret_int {k : IntKind} {a b : Int} (h : a = b) : Ending.returned (.int k a) = Ending.returned (.int k b) := by rw [h]

set_option maxHeartbeats 400000 in
theorem ref_Has (A : Option Addr) (c : Nat) (l : List Int) (x : Int) (w : World) (h : RdI w w.heap.size A l) (hlc : l.length ≤ c) (hc : c ≤ 9223372036854775807) :
    Calls Try.prog 48 #[.slice A l.length c, .int .i64 x] w fun e w' => e = .returned (.bool (hasB l x)) ∧ w = w' := by
  go_enter Try.func48, Try.ntmps48
  go_wp2
  go_loop [5] (fun i => ∃ k : Nat, k ≤ l.length ∧ i = .int .i64 k ∧ hasB (l.take k) x = false) (fun i => l.length - (intOf i).toNat)
  case atStart => exact ⟨0, Nat.zero_le _, rfl, rfl⟩
  case round =>
    obtain ⟨k, hk, rfl, hno⟩ := hrel
    have HN := Lib.hid hno; clear hno
    by_cases hlt : k < l.length
    · obtain ⟨ad, y, rfl, hb, hy, hcell⟩ := h.at_ hlt
      have HY := Lib.hid hy; clear hy
      by_cases hxy : y = x
      · subst hxy
        go_wp2
        go_ret
        exact ⟨ret_bool (hasB_hit HY.out).symm, rfl⟩
      · have hxy' : (y == x) = false := by simpa using hxy
        go_wp2
        go_round
        case rel => exact ⟨k + 1, by omega, by go_num, hasB_step HY.out HN.out hxy'⟩
        case measure => simp [intOf]; omega
    · go_wp2
      go_ret
      exact ⟨ret_bool (hasB_end HN.out hlt).symm, rfl⟩

set_option maxHeartbeats 400000 in
theorem ref_Compare (A B : Option Addr) (c d : Nat) (a b : List Int) (w : World) (ha : RdI w w.heap.size A a) (hac : a.length ≤ c) (hc : c ≤ 9223372036854775807)
    (hb : RdI w w.heap.size B b)  :
    Calls Try.prog 25 #[.slice A a.length c, .slice B b.length d] w fun e w' => e = .returned (.int .i64 (cmpW a b)) ∧ ∃ n, w' = w.drewN n := by
  by_cases hl : a.length = b.length
  · have hl1 : ((a.length : Int) != (b.length : Int)) = false := by simp [hl]
    have HL := Lib.hid hl; clear hl
    go_enter Try.func25, Try.ntmps25
    go_wp2
    go_loopw [5] (fun i wr => ∃ k : Nat, k ≤ a.length ∧ i = .int .i64 k ∧ Hid (lexI a b = lexI (a.drop k) (b.drop k)) ∧ ∃ n, wr = w.drewN n) (fun i _ => a.length - (intOf i).toNat)
    case atStart => exact ⟨0, Nat.zero_le _, rfl, Lib.hid rfl, 0, rfl⟩
    case round =>
      obtain ⟨k, hk, rfl, HX, n, rfl⟩ := hrel
      by_cases hlt : k < a.length
      · obtain ⟨ad, x, rfl, _, hx, hcx⟩ := ha.at_ hlt
        obtain ⟨bd, y, rfl, _, hy, hcy⟩ := hb.at_ (k := k) (by have := HL.out; omega)
        have HXX := Lib.hid hx; clear hx
        have HYY := Lib.hid hy; clear hy
        have hkb : k < b.length := by have := HL.out; omega
        have b1 : (k : Int) < (a.length : Int) := by omega
        have b2 : (k : Int) < (b.length : Int) := by omega
        rcases Int.lt_trichotomy x y with hxy | hxy | hxy
        · go_wp2
          go_quiet (fail)
          go_wp2
          go_ret
          exact ⟨ret_int (by rw [cmpW_len HL.out, HX.out, lexI_drop HXX.out HYY.out, if_pos hxy]), by first | exact dr0 _ _ | exact dr1 _ _ _ | exact dr2 _ _ _ _ | exact dr3 _ _ _ _ _⟩
        · subst hxy
          go_wp2
          go_quiet (fail)
          go_wp2
          go_quiet (fail)
          go_wp2
          go_roundw
          case rel => exact ⟨k + 1, by omega, by go_num, Lib.hid (by rw [HX.out, lexI_drop HXX.out HYY.out, if_neg (by omega), if_neg (by omega)]), by first | exact dr0 _ _ | exact dr1 _ _ _ | exact dr2 _ _ _ _ | exact dr3 _ _ _ _ _⟩
          case measure => simp [intOf]; omega
        · go_wp2
          go_quiet (fail)
          go_wp2
          go_quiet (fail)
          go_wp2
          go_ret
          exact ⟨ret_int (by rw [cmpW_len HL.out, HX.out, lexI_drop HXX.out HYY.out, if_neg (by omega), if_pos hxy]), by first | exact dr0 _ _ | exact dr1 _ _ _ | exact dr2 _ _ _ _ | exact dr3 _ _ _ _ _⟩
      · go_wp2
        go_ret
        exact ⟨ret_int (by rw [cmpW_len HL.out, HX.out, lexI_end hlt]), by first | exact dr0 _ _ | exact dr1 _ _ _ | exact dr2 _ _ _ _ | exact dr3 _ _ _ _ _⟩
  · have hl1 : ((a.length : Int) != (b.length : Int)) = true := by rw [bne_iff_ne]; omega
    have HL := Lib.hid hl; clear hl
    by_cases hlt : a.length < b.length
    · go_enter Try.func25, Try.ntmps25
      go_wp2
      go_ret
      exact ⟨ret_int (by unfold cmpW; rw [if_pos hlt]), 0, rfl⟩
    · have hgt : b.length < a.length := by have := HL.out; omega
      go_enter Try.func25, Try.ntmps25
      go_wp2
      go_ret
      exact ⟨ret_int (by unfold cmpW; rw [if_neg hlt, if_pos hgt]), 0, rfl⟩

set_option maxHeartbeats 400000 in
theorem alphabet_CheckSet (A : Option Addr) (c : Nat) (l : List Int) (n : Int) (w : World) (h : RdI w w.heap.size A l) (hlc : l.length ≤ c) (hc : c ≤ 9223372036854775807) :
    Calls Try.prog 43 #[.slice A l.length c, .int .i64 n] w fun e w' => e = .returned (.int .i64 (setErr l n)) ∧ w = w' := by
  go_enter Try.func43, Try.ntmps43
  go_wp2
  go_loop [9] (fun i => ∃ k : Nat, k ≤ l.length ∧ i = .int .i64 k ∧ Hid (setErr l n = setErrG n (l.take k).getLast? (l.drop k))) (fun i => l.length - (intOf i).toNat)
  case atStart => exact ⟨0, Nat.zero_le _, rfl, Lib.hid rfl⟩
  case round =>
    obtain ⟨k, hk, rfl, HX⟩ := hrel
    by_cases hlt : k < l.length
    · obtain ⟨ad, y, rfl, hb, hy, hcell⟩ := h.at_ hlt
      have HY := Lib.hid hy; clear hy
      by_cases h1 : y < 0
      · go_wp2
        go_ret
        exact ⟨ret_int (by rw [HX.out, setErrG_range HY.out (.inl h1)]), rfl⟩
      by_cases h2 : n ≤ y
      · go_wp2
        go_ret
        exact ⟨ret_int (by rw [HX.out, setErrG_range HY.out (.inr h2)]), rfl⟩
      have e1 : decide (y < 0) = false := by simpa using h1
      have e2 : decide (n ≤ y) = false := by simpa using h2
      cases k with
      | zero =>
        have hcell' := cell_zero hcell
        go_wp2
        go_round
        case rel => exact ⟨1, by omega, by go_num, Lib.hid (by rw [HX.out, take_snoc' HY.out, List.getLast?_concat]; exact setErrG_first HY.out (by omega))⟩
        case measure => simp [intOf]; omega
      | succ j =>
        obtain ⟨ad', q, e, _, hq, hcq⟩ := h.at_ (k := j) (by omega)
        obtain rfl : ad = ad' := by injection e
        have hcell' := cell_succ hcell
        have HQ := Lib.hid hq; clear hq
        by_cases h3 : y ≤ q
        · go_wp2
          go_ret
          exact ⟨ret_int (by rw [HX.out, take_snoc' HQ.out, List.getLast?_concat, setErrG_order HY.out (by omega) h3]), rfl⟩
        · go_wp2
          go_round
          case rel => exact ⟨j + 1 + 1, by omega, by go_num, Lib.hid (by rw [HX.out, take_snoc' HQ.out, List.getLast?_concat, setErrG_next HY.out (by omega) (by omega), take_snoc' HY.out, List.getLast?_concat])⟩
          case measure => simp [intOf]; omega
    · go_wp2
      go_ret
      exact ⟨ret_int (by rw [HX.out, setErrG_end hlt]), rfl⟩

set_option maxHeartbeats 400000 in
theorem ref_Set (A : Option Addr) (c : Nat) (l : List Int) (n : Int) (w : World) (h : RdI w w.heap.size A l) (hlc : l.length ≤ c) (hc : c ≤ 9223372036854775807) :
    Calls Try.prog 47 #[.slice A l.length c, .int .i64 n] w fun e w' => e = .returned (.int .i64 (setErr l n)) ∧ ∃ m, w' = w.drewN m := by
  go_enter Try.func47, Try.ntmps47
  go_wp2
  go_loopw [5] (fun i wr => ∃ k : Nat, k ≤ l.length ∧ i = .int .i64 k ∧ Hid (setErr l n = setErrG n (l.take k).getLast? (l.drop k)) ∧ ∃ m, wr = w.drewN m) (fun i _ => l.length - (intOf i).toNat)
  case atStart => exact ⟨0, Nat.zero_le _, rfl, Lib.hid rfl, 0, rfl⟩
  case round =>
    obtain ⟨k, hk, rfl, HX, m, rfl⟩ := hrel
    by_cases hlt : k < l.length
    · obtain ⟨ad, y, rfl, hb, hy, hcell⟩ := h.at_ hlt
      have HY := Lib.hid hy; clear hy
      by_cases h1 : y < 0
      · go_wp2
        go_ret
        exact ⟨ret_int (by rw [HX.out, setErrG_range HY.out (.inl h1)]), by first | exact dr0 _ _ | exact dr1 _ _ _ | exact dr2 _ _ _ _ | exact dr3 _ _ _ _ _⟩
      by_cases h2 : n ≤ y
      · go_wp2
        go_ret
        exact ⟨ret_int (by rw [HX.out, setErrG_range HY.out (.inr h2)]), by first | exact dr0 _ _ | exact dr1 _ _ _ | exact dr2 _ _ _ _ | exact dr3 _ _ _ _ _⟩
      have e1 : decide (y < 0) = false := by simpa using h1
      have e2 : decide (n ≤ y) = false := by simpa using h2
      cases k with
      | zero =>
        have hcell' := cell_zero hcell
        go_wp2
        go_quiet (fail)
        go_wp2
        go_roundw
        case rel => exact ⟨1, by omega, by go_num, Lib.hid (by rw [HX.out, take_snoc' HY.out, List.getLast?_concat]; exact setErrG_first HY.out (by omega)), by first | exact dr0 _ _ | exact dr1 _ _ _ | exact dr2 _ _ _ _ | exact dr3 _ _ _ _ _⟩
        case measure => simp [intOf]; omega
      | succ j =>
        obtain ⟨ad', q, e, _, hq, hcq⟩ := h.at_ (k := j) (by omega)
        obtain rfl : ad = ad' := by injection e
        have hcell' := cell_succ hcell
        have HQ := Lib.hid hq; clear hq
        have b1 : (j : Int) + 1 < (l.length : Int) := by omega
        have b2 : (j : Int) < (l.length : Int) := by omega
        by_cases h3 : y ≤ q
        · go_wp2
          go_quiet (fail)
          go_wp2
          go_ret
          exact ⟨ret_int (by rw [HX.out, take_snoc' HQ.out, List.getLast?_concat, setErrG_order HY.out (by omega) h3]), by first | exact dr0 _ _ | exact dr1 _ _ _ | exact dr2 _ _ _ _ | exact dr3 _ _ _ _ _⟩
        · go_wp2
          go_quiet (fail)
          go_wp2
          go_roundw
          case rel => exact ⟨j + 1 + 1, by omega, by go_num, Lib.hid (by rw [HX.out, take_snoc' HQ.out, List.getLast?_concat, setErrG_next HY.out (by omega) (by omega), take_snoc' HY.out, List.getLast?_concat]), by first | exact dr0 _ _ | exact dr1 _ _ _ | exact dr2 _ _ _ _ | exact dr3 _ _ _ _ _⟩
          case measure => simp [intOf]; omega
    · go_wp2
      go_ret
      exact ⟨ret_int (by rw [HX.out, setErrG_end hlt]), by first | exact dr0 _ _ | exact dr1 _ _ _ | exact dr2 _ _ _ _ | exact dr3 _ _ _ _ _⟩
end Go.Proofs.Ytcbhencebflgcaa
