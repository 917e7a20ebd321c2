/- Walks: short; the reference's Find. -/
import Derived.Test.YtcbhencebflgcaaEb
namespace Go.Proofs.Ytcbhencebflgcaa
open Go.RowKit Go

def shortB (l : List Ev) : Bool := (l.take 41).all (fun e => decide (e.nm.size ≤ 40)) && decide (l.length ≤ 40)
theorem short_step {l : List Ev} {k : Nat} {e : Ev} (h : (l.take k).all (fun e => decide (e.nm.size ≤ 40)) = true) (he : l[k]? = some e) (hs : e.nm.size ≤ 40) : (l.take (k + 1)).all (fun e => decide (e.nm.size ≤ 40)) = true := by
  rw [take_snoc' he, List.all_append, h]; simp [hs]
theorem short_no {l : List Ev} {k : Nat} {e : Ev} (he : l[k]? = some e) (hk : k < 41) (hs : ¬ e.nm.size ≤ 40) : shortB l = false := by
  unfold shortB
  have : (l.take 41).all (fun e => decide (e.nm.size ≤ 40)) = false := by
    rw [List.all_eq_false]
    refine ⟨e, ?_, by simpa using hs⟩
    have : (l.take 41)[k]? = some e := by rw [List.getElem?_take, if_pos hk]; exact he
    exact List.mem_of_getElem? this
  rw [this]; rfl
theorem short_end {l : List Ev} {k : Nat} (h : (l.take k).all (fun e => decide (e.nm.size ≤ 40)) = true) (hk : ¬ (k < l.length ∧ k < 41)) (h2 : k ≤ 41) : shortB l = decide (l.length ≤ 40) := by
  unfold shortB
  have : l.take 41 = l.take k := by
    by_cases h41 : k = 41
    · rw [h41]
    · rw [List.take_of_length_le (by omega), List.take_of_length_le (by omega)]
  rw [this, h]; simp
theorem short_yes {l : List Ev} (h : shortB l = true) : l.length ≤ 40 ∧ ∀ e ∈ l, e.nm.size ≤ 40 := by
  unfold shortB at h
  simp only [Bool.and_eq_true, decide_eq_true_eq] at h
  refine ⟨h.2, fun e he => ?_⟩
  have h1 := h.1
  rw [List.take_of_length_le (by omega), List.all_eq_true] at h1
  simpa using h1 e he
set_option maxHeartbeats 1600000 in
theorem law_short (A : Option Addr) (c n : Nat) (l : List Ev) (w : World) (hl : l.length = n) (h : RdE w w.heap.size A l) :
    Calls Try.prog 37 #[.slice A n c] w fun e w' => e = .returned (.bool (shortB l)) ∧ w = w' := by
  have HL := Lib.hid hl; clear hl
  go_enter Try.func37, Try.ntmps37
  go_wp2
  go_loop [3] (fun i => ∃ k : Nat, k ≤ n ∧ k ≤ 41 ∧ i = .int .i64 k ∧ Hid ((l.take k).all (fun e => decide (e.nm.size ≤ 40)) = true)) (fun i => n - (intOf i).toNat)
  case atStart => exact ⟨0, Nat.zero_le _, by omega, rfl, Lib.hid rfl⟩
  case round =>
    obtain ⟨k, hk, hk2, rfl, HX⟩ := hrel
    by_cases hlt : k < n
    · by_cases h41 : k < 41
      · obtain ⟨ad, e, rfl, hb, he, hs, q0, q1, q2, q3, q4⟩ := h.at_ (k := k) (by have := HL.out; omega)
        have HE := Lib.hid he; clear he
        have b1 : (k : Int) < (n : Int) := by omega
        by_cases h40 : e.nm.size ≤ 40
        · go_wp2
          go_round
          case rel => exact ⟨k + 1, by omega, by omega, by go_num, Lib.hid (short_step HX.out HE.out h40)⟩
          case measure => simp [intOf]; omega
        · have HS := Lib.hid (short_no HE.out h41 h40)
          go_wp2
          go_ret
          exact ⟨ret_bool HS.out.symm, rfl⟩
      · have HS := Lib.hid (short_end HX.out (by omega) hk2)
        go_wp2
        go_ret
        exact ⟨ret_bool (by rw [HS.out, HL.out]; simp <;> omega), rfl⟩
    · have HS := Lib.hid (short_end HX.out (by have := HL.out; omega) hk2)
      go_wp2
      go_ret
      exact ⟨ret_bool (by rw [HS.out, HL.out]; simp <;> omega), rfl⟩
end Go.Proofs.Ytcbhencebflgcaa
