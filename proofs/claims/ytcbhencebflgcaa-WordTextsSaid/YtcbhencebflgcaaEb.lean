/- Walks: names. -/
import Derived.Test.YtcbhencebflgcaaWa
import Derived.Test.YtcbhencebflgcaaEa
namespace Go.Proofs.Ytcbhencebflgcaa
open Go.RowKit Go

theorem okB_no {i : Nat} {c : Int} (h : ¬ (97 ≤ c ∧ c ≤ 122) ∧ ¬ (65 ≤ c ∧ c ≤ 90) ∧ ¬ c = 95 ∧ (¬ (48 ≤ c ∧ c ≤ 57) ∨ i = 0)) : okB i c = false := by
  unfold okB letB digB
  simp
  omega
theorem okB_yes {i : Nat} {c : Int} (h : (97 ≤ c ∧ c ≤ 122) ∨ (65 ≤ c ∧ c ≤ 90) ∨ c = 95 ∨ (48 ≤ c ∧ c ≤ 57 ∧ i ≠ 0)) : okB i c = true := by
  unfold okB letB digB
  simp
  omega
theorem val_int {k : IntKind} {a b : Int} (h : a = b) : Value.int k a = Value.int k b := by rw [h]
theorem get_byte {s : ByteArray} {k : Nat} (h : k < s.size) : s.data.toList[k]? = some s[k] := by
  rw [List.getElem?_eq_getElem (by simpa using h)]; rfl
theorem name_no {s : ByteArray} {k : Nat} {b r : Bool} (h : okG 0 s.data.toList = okG k (s.data.toList.drop k)) (h2 : okG k (s.data.toList.drop k) = (b && r)) (hb : b = false) : nameB s = false := by
  unfold nameB; rw [h, h2, hb]; simp
theorem name_go {s : ByteArray} {k : Nat} {b r : Bool} (h : okG 0 s.data.toList = okG k (s.data.toList.drop k)) (h2 : okG k (s.data.toList.drop k) = (b && r)) (hb : b = true) : okG 0 s.data.toList = r := by
  rw [h, h2, hb]; simp
theorem name_end {s : ByteArray} {k : Nat} (h : okG 0 s.data.toList = okG k (s.data.toList.drop k)) (hk : ¬ k < s.size) : nameB s = (decide (0 < s.size) && decide (s.size ≤ 32)) := by
  unfold nameB; rw [h, okG_end (by simpa using hk)]; simp

set_option maxHeartbeats 3200000 in
theorem alphabet_IsName (s : ByteArray) (w : World) (hs : s.size ≤ 9223372036854775807) :
    Calls Try.prog 74 #[.string s] w fun e w' => e = .returned (.bool (nameB s)) ∧ w = w' := by
  go_enter Try.func74, Try.ntmps74
  go_wp2
  go_loop [8] (fun i => ∃ k : Nat, k ≤ s.size ∧ i = .int .i64 k ∧ Hid (okG 0 s.data.toList = okG k (s.data.toList.drop k))) (fun i => s.size - (intOf i).toNat)
  case atStart => exact ⟨0, Nat.zero_le _, rfl, Lib.hid rfl⟩
  case round =>
    obtain ⟨k, hk, rfl, HX⟩ := hrel
    by_cases hlt : k < s.size
    · have hst := okG_step (get_byte hlt)
      have HST := Lib.hid hst
      have hr := s[k].toNat_lt
      clear hst
      by_cases hk0 : k = 0
      · subst hk0
        go_wp2
        all_goals
          try simp only [Bool.not_eq_true', Bool.not_eq_false', decide_eq_false_iff_not, decide_eq_true_eq, beq_iff_eq, beq_eq_false_iff_ne, ne_eq] at *
          first
          | (exfalso; omega)
          | (go_ret; exact ⟨ret_bool (name_no HX.out HST.out (okB_no (by omega))).symm, rfl⟩)
          | (go_round; (case rel => exact ⟨0 + 1, by omega, by go_num, Lib.hid (name_go HX.out HST.out (okB_yes (by omega)))⟩); (case measure => (simp [intOf] <;> omega)))
      · go_wp2
        all_goals
          try simp only [Bool.not_eq_true', Bool.not_eq_false', decide_eq_false_iff_not, decide_eq_true_eq, beq_iff_eq, beq_eq_false_iff_ne, ne_eq] at *
          first
          | (exfalso; omega)
          | (go_ret; exact ⟨ret_bool (name_no HX.out HST.out (okB_no (by omega))).symm, rfl⟩)
          | (go_round; (case rel => exact ⟨k + 1, by omega, by go_num, Lib.hid (name_go HX.out HST.out (okB_yes (by omega)))⟩); (case measure => (simp [intOf] <;> omega)))
    · have HE := Lib.hid (name_end HX.out hlt)
      go_wp2
      all_goals (go_ret; refine ⟨ret_bool ?_, rfl⟩; rw [HE.out, Bool.eq_iff_iff]; simp <;> omega)
end Go.Proofs.Ytcbhencebflgcaa
