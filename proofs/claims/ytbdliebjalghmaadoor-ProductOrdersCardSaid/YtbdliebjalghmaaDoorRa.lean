/- Walks: the reference's Check of an automaton and of a list; ref01.Contains, ref03.has, ref03.List. -/
import Derived.Test.YtbdliebjalghmaaDoorSc
import Derived.Test.YtbdliebjalghmaaDoorAc
import Derived.Test.YtbdliebjalghmaaDoorQe
namespace Go.Proofs.YtbdliebjalghmaaDoor
open Go.RowKit Go

set_option maxHeartbeats 800000 in
theorem ref_Contains (A : Option Addr) (c n : Nat) (l : List Int) (x : Int) (q : Bool) (w : World) (hl : l.length = n) (hq : hasB l x = q) (h : RdI w w.heap.size A l) (hlc : n ≤ c) (hc : c ≤ 9223372036854775807) :
    Calls Tryd.prog 58 #[.slice A n c, .int .i64 x] w fun e w' => e = .returned (.bool q) ∧ w = w' := by
  have HL := Lib.hid hl; clear hl
  have HQ := Lib.hid hq; clear hq
  go_enter Tryd.func58, Tryd.ntmps58
  go_wp2
  go_loop [5] (fun i => ∃ k : Nat, k ≤ n ∧ i = .int .i64 k ∧ Hid (∀ j < k, l[j]? ≠ some x)) (fun i => n - (intOf i).toNat)
  case atStart => exact ⟨0, Nat.zero_le _, rfl, Lib.hid (fun j hj => by omega)⟩
  case round =>
    obtain ⟨k, hk, rfl, HX⟩ := hrel
    by_cases hlt : k < n
    · obtain ⟨ad, y, rfl, _, hy, hcy⟩ := h.at_ (k := k) (by have := HL.out; omega)
      have b1 : (k : Int) < (n : Int) := by omega
      by_cases hxy : y = x
      · have hf : q = true := HQ.out.symm.trans (hasB_mem.2 (by rw [← hxy]; exact List.mem_of_getElem? hy))
        have e1 : (y == x) = true := by simpa using hxy
        have HF := Lib.hid hf; clear hf
        have HY := Lib.hid hy; clear hy
        subst hxy
        go_wp2
        go_ret
        exact ⟨ret_bool HF.out.symm, rfl⟩
      · have e1 : (y == x) = false := by simpa using hxy
        have hx2 : ∀ j < k + 1, l[j]? ≠ some x := fun j hj => by
          rcases Nat.lt_or_ge j k with h1 | h1
          · exact HX.out j h1
          · obtain rfl : j = k := by omega
            rw [hy]; intro e; injection e with e; exact hxy e
        have HX2 := Lib.hid hx2; clear hx2
        have HY := Lib.hid hy; clear hy
        go_wp2
        go_round
        case rel => exact ⟨k + 1, by omega, by go_num, HX2⟩
        case measure => simp [intOf]; omega
    · have hf : q = false := by
        rw [← HQ.out, Bool.eq_false_iff]
        intro hh
        obtain ⟨j, hj⟩ := List.getElem?_of_mem (hasB_mem.1 hh)
        have := (List.getElem?_eq_some_iff.1 hj).1
        exact HX.out j (by have := HL.out; omega) hj
      have HF := Lib.hid hf; clear hf
      go_wp2
      go_ret
      exact ⟨ret_bool HF.out.symm, rfl⟩
set_option maxHeartbeats 800000 in
theorem ref_has (A : Option Addr) (c n : Nat) (l : List Int) (x : Int) (q : Bool) (w : World) (hl : l.length = n) (hq : hasB l x = q) (h : RdI w w.heap.size A l) (hlc : n ≤ c) (hc : c ≤ 9223372036854775807) :
    Calls Tryd.prog 81 #[.slice A n c, .int .i64 x] w fun e w' => e = .returned (.bool q) ∧ w = w' := by
  have HL := Lib.hid hl; clear hl
  have HQ := Lib.hid hq; clear hq
  go_enter Tryd.func81, Tryd.ntmps81
  go_wp2
  go_loop [5] (fun i => ∃ k : Nat, k ≤ n ∧ i = .int .i64 k ∧ Hid (∀ j < k, l[j]? ≠ some x)) (fun i => n - (intOf i).toNat)
  case atStart => exact ⟨0, Nat.zero_le _, rfl, Lib.hid (fun j hj => by omega)⟩
  case round =>
    obtain ⟨k, hk, rfl, HX⟩ := hrel
    by_cases hlt : k < n
    · obtain ⟨ad, y, rfl, _, hy, hcy⟩ := h.at_ (k := k) (by have := HL.out; omega)
      have b1 : (k : Int) < (n : Int) := by omega
      by_cases hxy : y = x
      · have hf : q = true := HQ.out.symm.trans (hasB_mem.2 (by rw [← hxy]; exact List.mem_of_getElem? hy))
        have e1 : (y == x) = true := by simpa using hxy
        have HF := Lib.hid hf; clear hf
        have HY := Lib.hid hy; clear hy
        subst hxy
        go_wp2
        go_ret
        exact ⟨ret_bool HF.out.symm, rfl⟩
      · have e1 : (y == x) = false := by simpa using hxy
        have hx2 : ∀ j < k + 1, l[j]? ≠ some x := fun j hj => by
          rcases Nat.lt_or_ge j k with h1 | h1
          · exact HX.out j h1
          · obtain rfl : j = k := by omega
            rw [hy]; intro e; injection e with e; exact hxy e
        have HX2 := Lib.hid hx2; clear hx2
        have HY := Lib.hid hy; clear hy
        go_wp2
        go_round
        case rel => exact ⟨k + 1, by omega, by go_num, HX2⟩
        case measure => simp [intOf]; omega
    · have hf : q = false := by
        rw [← HQ.out, Bool.eq_false_iff]
        intro hh
        obtain ⟨j, hj⟩ := List.getElem?_of_mem (hasB_mem.1 hh)
        have := (List.getElem?_eq_some_iff.1 hj).1
        exact HX.out j (by have := HL.out; omega) hj
      have HF := Lib.hid hf; clear hf
      go_wp2
      go_ret
      exact ⟨ret_bool HF.out.symm, rfl⟩

set_option maxHeartbeats 800000 in
theorem ref_List (A : Option Addr) (c n : Nat) (l : List Int) (m r : Int) (w : World) (hl : l.length = n) (hr : setErr l m = r) (h : RdI w w.heap.size A l) (hlc : n ≤ c) (hc : c ≤ 9223372036854775807) :
    Calls Tryd.prog 80 #[.slice A n c, .int .i64 m] w fun e w' => e = .returned (.int .i64 r) ∧ ∃ p, w' = w.drewN p := by
  have HL := Lib.hid hl; clear hl
  have HR := Lib.hid hr; clear hr
  go_enter Tryd.func80, Tryd.ntmps80
  go_wp2
  go_loopw [5] (fun i wr => ∃ k : Nat, k ≤ n ∧ i = .int .i64 k ∧ Hid (r = setErrG m (l.take k).getLast? (l.drop k)) ∧ ∃ p, wr = w.drewN p) (fun i _ => n - (intOf i).toNat)
  case atStart => exact ⟨0, Nat.zero_le _, rfl, Lib.hid HR.out.symm, (by first | exact dr00 _ | exact dr0 _ _ | exact dr1 _ _ _ | exact dr2 _ _ _ _ | exact dr3 _ _ _ _ _)⟩
  case round =>
    obtain ⟨k, hk, rfl, HX, p, rfl⟩ := hrel
    clear HR
    by_cases hlt : k < n
    · obtain ⟨ad, y, rfl, hb, hy, hcell⟩ := h.at_ (k := k) (by have := HL.out; omega)
      have b1 : (k : Int) < (n : Int) := by omega
      have HY := Lib.hid hy; clear hy
      by_cases h1 : y < 0
      · go_wp2
        go_ret
        exact ⟨ret_int (by rw [HX.out, setErrG_range HY.out (.inl h1)]), (by first | exact dr00 _ | exact dr0 _ _ | exact dr1 _ _ _ | exact dr2 _ _ _ _ | exact dr3 _ _ _ _ _)⟩
      by_cases h2 : m ≤ y
      · go_wp2
        go_ret
        exact ⟨ret_int (by rw [HX.out, setErrG_range HY.out (.inr h2)]), (by first | exact dr00 _ | exact dr0 _ _ | exact dr1 _ _ _ | exact dr2 _ _ _ _ | exact dr3 _ _ _ _ _)⟩
      have e1 : decide (y < 0) = false := by simpa using h1
      have e2 : decide (m ≤ y) = false := by simpa using h2
      cases k with
      | zero =>
        have hcell' := cell_zero hcell
        go_wp2
        go_quiet (fail)
        go_wp2
        go_roundw
        case rel => exact ⟨1, by omega, by go_num, Lib.hid (by rw [HX.out, take_snoc' HY.out, List.getLast?_concat]; exact setErrG_first HY.out (by omega)), (by first | exact dr00 _ | exact dr0 _ _ | exact dr1 _ _ _ | exact dr2 _ _ _ _ | exact dr3 _ _ _ _ _)⟩
        case measure => simp [intOf]; omega
      | succ j =>
        obtain ⟨ad', q, e, _, hq, hcq⟩ := h.at_ (k := j) (by have := HL.out; omega)
        obtain rfl : ad = ad' := by injection e
        have hcell' := cell_succ hcell
        have HQ := Lib.hid hq; clear hq
        by_cases h3 : y ≤ q
        · go_wp2
          go_quiet (fail)
          go_wp2
          go_ret
          exact ⟨ret_int (by rw [HX.out, take_snoc' HQ.out, List.getLast?_concat, setErrG_order HY.out (by omega) h3]), (by first | exact dr00 _ | exact dr0 _ _ | exact dr1 _ _ _ | exact dr2 _ _ _ _ | exact dr3 _ _ _ _ _)⟩
        · go_wp2
          go_quiet (fail)
          go_wp2
          go_roundw
          case rel => exact ⟨j + 1 + 1, by omega, by go_num, Lib.hid (by rw [HX.out, take_snoc' HQ.out, List.getLast?_concat, setErrG_next HY.out (by omega) (by omega), take_snoc' HY.out, List.getLast?_concat]), (by first | exact dr00 _ | exact dr0 _ _ | exact dr1 _ _ _ | exact dr2 _ _ _ _ | exact dr3 _ _ _ _ _)⟩
          case measure => simp [intOf]; omega
    · have hf : r = 0 := by rw [HX.out, setErrG_end (by have := HL.out; omega)]
      have HF := Lib.hid hf; clear hf
      go_wp2
      go_ret
      exact ⟨ret_int HF.out.symm, (by first | exact dr00 _ | exact dr0 _ _ | exact dr1 _ _ _ | exact dr2 _ _ _ _ | exact dr3 _ _ _ _ _)⟩
end Go.Proofs.YtbdliebjalghmaaDoor
