/- Walks: names, the reference. -/
import Derived.Test.YtcbhencebflgcaaEb
namespace Go.Proofs.Ytcbhencebflgcaa
open Go.RowKit Go

set_option maxHeartbeats 3200000 in
theorem ref_IsName (s : ByteArray) (w : World) (hs : s.size ≤ 9223372036854775807) :
    Calls Try.prog 78 #[.string s] w fun e w' => e = .returned (.bool (nameB s)) ∧ w = w' := by
  by_cases h0 : 0 < s.size ∧ s.size ≤ 32
  · obtain ⟨h1, h2⟩ := h0
    have hfin : ∀ k : Nat, okG 0 s.data.toList = okG k (s.data.toList.drop k) → ¬ k < s.size → nameB s = true := fun k hx hk => by
      rw [name_end hx hk]; simp [h1, h2]
    have HFIN := Lib.hid hfin
    have h3 : (1 : Int) ≤ (s.size : Int) := by omega
    have h4 : (s.size : Int) ≤ 32 := by omega
    have h5 : decide (s.size < 1) = false := decide_eq_false (by omega)
    have h6 : decide ((s.size : Int) < 1) = false := decide_eq_false (by omega)
    clear hfin
    go_enter Try.func78, Try.ntmps78
    go_wp2
    go_loop [3] (fun i => ∃ k : Nat, k ≤ s.size ∧ i = .int .i64 k ∧ Hid (okG 0 s.data.toList = okG k (s.data.toList.drop k))) (fun i => s.size - (intOf i).toNat)
    case atStart => exact ⟨0, Nat.zero_le _, rfl, Lib.hid rfl⟩
    case round =>
      obtain ⟨k, hk, rfl, HX⟩ := hrel
      by_cases hlt : k < s.size
      · have hst := okG_step (get_byte hlt)
        have HST := Lib.hid hst
        have hr := s[k].toNat_lt
        clear hst
        by_cases hk0 : k = 0
        · subst hk0
          go_wp2
          all_goals
            first
            | (exfalso; omega)
            | (go_ret; exact ⟨ret_bool (name_no HX.out HST.out (okB_no (by omega))).symm, rfl⟩)
            | (go_round; (case rel => exact ⟨0 + 1, by omega, by go_num, Lib.hid (name_go HX.out HST.out (okB_yes (by omega)))⟩); (case measure => (simp [intOf] <;> omega)))
        · go_wp2
          all_goals
            first
            | (exfalso; omega)
            | (go_ret; exact ⟨ret_bool (name_no HX.out HST.out (okB_no (by omega))).symm, rfl⟩)
            | (go_round; (case rel => exact ⟨k + 1, by omega, by go_num, Lib.hid (name_go HX.out HST.out (okB_yes (by omega)))⟩); (case measure => (simp [intOf] <;> omega)))
      · have HE := Lib.hid (HFIN.out k HX.out hlt)
        go_wp2
        go_ret
        exact ⟨ret_bool HE.out.symm, rfl⟩
  · have hn : nameB s = false := by
      unfold nameB
      by_cases h1 : 0 < s.size
      · have h2 : ¬ s.size ≤ 32 := fun h => h0 ⟨h1, h⟩
        simp [h2]
      · simp [h1]
    rw [hn]
    clear hn
    by_cases h1 : s.size = 0
    · have h2 : decide (s.size < 1) = true := decide_eq_true (by omega)
      have h3 : decide ((s.size : Int) < 1) = true := decide_eq_true (by omega)
      clear h0
      have H1 := Lib.hid h1; clear h1
      go_enter Try.func78, Try.ntmps78
      go_wp2
      all_goals first | (go_ret; exact ⟨rfl, rfl⟩) | (exfalso; omega)
    · have h2 : (32 : Int) < (s.size : Int) := by omega
      have h5 : decide (s.size < 1) = false := decide_eq_false (by omega)
      have h6 : decide ((s.size : Int) < 1) = false := decide_eq_false (by omega)
      clear h0
      go_enter Try.func78, Try.ntmps78
      go_wp2
      all_goals first | (go_ret; exact ⟨rfl, rfl⟩) | (exfalso; omega)
end Go.Proofs.Ytcbhencebflgcaa
