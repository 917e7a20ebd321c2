/- Walks: the law's few. -/
import Derived.Test.YtbdliebjalghmaaDoorRc
namespace Go.Proofs.YtbdliebjalghmaaDoor
open Go.RowKit Go


set_option maxRecDepth 100000 in
set_option maxHeartbeats 3200000 in
open Classical in
theorem law_few (A : Option Addr) (c n : Nat) (xs : List AV) (q : Bool) (w : World) (hl : xs.length = n) (hq : decide (fewP (xs.map AV.a)) = q) (h : RdL w w.heap.size A xs) (hc1 : n ≤ c) (hc2 : c ≤ 9223372036854775807) :
    Calls Tryd.prog 36 #[.slice A n c] w fun e w' => e = .returned (.bool q) ∧ w = w' := by
  have HL := Lib.hid hl; clear hl
  have HQ := Lib.hid hq; clear hq
  go_enter Tryd.func36, Tryd.ntmps36
  go_wp2
  go_loop [3] (fun i => ∃ k : Nat, k ≤ n ∧ k ≤ 15 ∧ i = .int .i64 k ∧ Hid (∀ j < k, ∀ a, (xs.map AV.a)[j]? = some a → fewS a)) (fun i => n - (intOf i).toNat)
  case atStart => exact ⟨0, Nat.zero_le _, by omega, rfl, Lib.hid (fun j hj => by omega)⟩
  case round =>
    obtain ⟨k, hk, hk15, rfl, HX⟩ := hrel
    by_cases hlt : k < n ∧ k < 15
    · obtain ⟨hlt, hlt15⟩ := hlt
      obtain ⟨ad, A', na, ca, M, nm, cm, E, ne, ce, a, rfl, hbb, hx, q0, q1, q2, q3, haR⟩ := h.at_ (k := k) (by have := HL.out; omega)
      have b1 : (k : Int) < (n : Int) := by omega
      have p1 : w.cell? ⟨(ad.add (k * 4)).block, (ad.add (k * 4)).off + 1, none⟩ = some (.int .i64 a.st) := st_cells (j := 0) q1
      have p2 : w.cell? ⟨(ad.add (k * 4)).block, (ad.add (k * 4)).off + 2, none⟩ = some (.slice M nm cm) := st_cells (j := 1) q2
      have p3 : w.cell? ⟨(ad.add (k * 4)).block, (ad.add (k * 4)).off + 3, none⟩ = some (.slice E ne ce) := st_cells (j := 2) q3
      clear q1 q2 q3
      have hxa : (xs.map AV.a)[k]? = some a := by simp [hx]
      have g1 := haR.la
      have g2 := haR.lm
      have g3 := haR.le
      clear haR
      have b2 : (k : Int) < 15 := by omega
      by_cases h1 : 6 < na
      · have d1 : (6 : Int) < (na : Int) := by omega
        have hf : q = false := by
          rw [← HQ.out]
          refine decide_eq_false fun hP => ?_
          have := hP.2 a (List.mem_of_getElem? hxa)
          unfold fewS at this
          omega
        have HF := Lib.hid hf; clear hf
        clear g1 g2 g3 hx hxa
        go_wp2
        go_ret
        exact ⟨ret_bool HF.out.symm, rfl⟩
      have d1 : ¬ (6 : Int) < (na : Int) := by omega
      by_cases h2 : 6 < nm
      · have d2 : (6 : Int) < (nm : Int) := by omega
        have hf : q = false := by
          rw [← HQ.out]
          refine decide_eq_false fun hP => ?_
          have := hP.2 a (List.mem_of_getElem? hxa)
          unfold fewS at this
          omega
        have HF := Lib.hid hf; clear hf
        clear g1 g2 g3 hx hxa
        go_wp2
        go_ret
        exact ⟨ret_bool HF.out.symm, rfl⟩
      have d2 : ¬ (6 : Int) < (nm : Int) := by omega
      by_cases h3 : 6 < ne
      · have d3 : (6 : Int) < (ne : Int) := by omega
        have hf : q = false := by
          rw [← HQ.out]
          refine decide_eq_false fun hP => ?_
          have := hP.2 a (List.mem_of_getElem? hxa)
          unfold fewS at this
          omega
        have HF := Lib.hid hf; clear hf
        clear g1 g2 g3 hx hxa
        go_wp2
        go_ret
        exact ⟨ret_bool HF.out.symm, rfl⟩
      have d3 : ¬ (6 : Int) < (ne : Int) := by omega
      have hx2 : ∀ j < k + 1, ∀ a, (xs.map AV.a)[j]? = some a → fewS a := fun j hj b hb => by
        rcases Nat.lt_or_ge j k with h4 | h4
        · exact HX.out j h4 b hb
        · obtain rfl : j = k := by omega
          rw [hxa] at hb
          injection hb with hb
          subst hb
          unfold fewS
          omega
      have HX2 := Lib.hid hx2; clear hx2
      clear g1 g2 g3 hx hxa
      go_wp2
      go_round
      case rel => exact ⟨k + 1, by omega, by omega, by go_num, HX2⟩
      case measure => simp [intOf]; omega
    · by_cases h14 : n ≤ 14
      · obtain rfl : k = n := by omega
        have hf : q = true := by
          rw [← HQ.out]
          refine decide_eq_true ⟨by rw [List.length_map, HL.out]; exact h14, fun a ha => ?_⟩
          obtain ⟨j, hj⟩ := List.getElem?_of_mem ha
          exact HX.out j (by have := (List.getElem?_eq_some_iff.1 hj).1; rw [List.length_map, HL.out] at this; exact this) a hj
        have HF := Lib.hid hf; clear hf
        have d1 : (k : Int) ≤ 14 := by omega
        clear hlt
        go_wp2
        go_ret
        exact ⟨ret_bool HF.out.symm, rfl⟩
      · have hf : q = false := by
          rw [← HQ.out]
          refine decide_eq_false fun hP => ?_
          have := hP.1
          rw [List.length_map, HL.out] at this
          omega
        have HF := Lib.hid hf; clear hf
        obtain rfl : k = 15 := by omega
        have d0 : (15 : Int) ≤ (n : Int) := by omega
        have d1 : ¬ (n : Int) ≤ 14 := by omega
        clear hlt
        go_wp2
        all_goals
          go_ret
          exact ⟨ret_bool HF.out.symm, rfl⟩
end Go.Proofs.YtbdliebjalghmaaDoor
