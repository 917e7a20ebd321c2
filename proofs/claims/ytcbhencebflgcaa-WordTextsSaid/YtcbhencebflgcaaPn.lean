/- Plain laws, third text: sets by bits, projections one after the other. -/
import Derived.Test.YtcbhencebflgcaaPm
namespace Go.Proofs.Ytcbhencebflgcaa
open Go

theorem setB_range {x z : Int} (h : z ∈ setB x 5) : ∃ k : Nat, k < 5 ∧ z = k ∧ bitB x k = true := setB_mem.1 h
theorem proj_mem {w s : List Int} {k : Nat} {z : Int} (h : (projW w s)[k]? = some z) : z ∈ s := by
  have := List.mem_of_getElem? h
  exact hasB_mem.1 (List.mem_filter.1 this).2
theorem proj_proj (w s t : List Int) : projW (projW w s) t = w.filter (fun z => hasB s z && hasB t z) := by
  unfold projW; rw [List.filter_filter]
  congr 1; funext z; exact Bool.and_comm _ _
theorem proj_again (w s : List Int) : projW (projW w s) s = projW w s := by
  rw [proj_proj]; unfold projW; congr 1; funext z; simp
theorem proj_cong {w s t : List Int} (h : ∀ z ∈ w, hasB s z = hasB t z) : projW w s = projW w t := by
  unfold projW; exact List.filter_congr h
theorem proj_two {w s t u : List Int} (h : ∀ z, hasB u z = (hasB s z && hasB t z)) : projW (projW w s) t = projW w u := by
  rw [proj_proj]; unfold projW; congr 1; funext z; exact (h z).symm
theorem proj_comm (w s t : List Int) : projW (projW w s) t = projW (projW w t) s := by
  rw [proj_proj, proj_proj]; congr 1; funext z; exact Bool.and_comm _ _
theorem proj_all {w s : List Int} (h : ∀ z ∈ w, z ∈ s) : projW w s = w := by
  unfold projW; rw [List.filter_eq_self]; intro z hz; exact hasB_mem.2 (h z hz)
theorem proj_app (a b s : List Int) : projW (a ++ b) s = projW a s ++ projW b s := by unfold projW; exact List.filter_append ..
theorem wordB_mem {l : List Int} {n : Nat} {z : Int} (h : z ∈ wordB l n) : ∃ k : Nat, k < 5 ∧ z = k := by
  unfold wordB at h
  obtain ⟨y, _, rfl⟩ := List.mem_map.1 h
  exact ⟨(y % 5).toNat, by omega, by omega⟩
theorem hasB_iff {s t : List Int} {z : Int} (h : z ∈ s ↔ z ∈ t) : hasB s z = hasB t z := by
  rw [Bool.eq_iff_iff, hasB_mem, hasB_mem]; exact h
theorem bit_and (x y : Nat) (k : Nat) : (x &&& y) / 2 ^ k % 2 = (x / 2 ^ k % 2) * (y / 2 ^ k % 2) := by
  have h := Nat.testBit_and x y k
  rw [Nat.testBit_eq_decide_div_mod_eq, Nat.testBit_eq_decide_div_mod_eq, Nat.testBit_eq_decide_div_mod_eq] at h
  rcases Nat.mod_two_eq_zero_or_one ((x &&& y) / 2 ^ k) with h1 | h1 <;> rcases Nat.mod_two_eq_zero_or_one (x / 2 ^ k) with h2 | h2 <;> rcases Nat.mod_two_eq_zero_or_one (y / 2 ^ k) with h3 | h3 <;> simp [h1, h2, h3] at h ⊢
theorem bitB_nat (x : Nat) (k : Nat) : bitB (x : Int) k = decide (x / 2 ^ k % 2 = 1) := by
  unfold bitB
  have e : ((x : Int) / 2 ^ k % 2) = ((x / 2 ^ k % 2 : Nat) : Int) := by simp
  rw [e, Bool.eq_iff_iff, beq_iff_eq, decide_eq_true_iff]
  omega
theorem bitB_and {x y z : Int} (hx : 0 ≤ x) (hy : 0 ≤ y) (hz : z = ((x.toNat &&& y.toNat : Nat) : Int)) (k : Nat) : bitB z k = (bitB x k && bitB y k) := by
  obtain ⟨m, rfl⟩ := Int.eq_ofNat_of_zero_le hx
  obtain ⟨n, rfl⟩ := Int.eq_ofNat_of_zero_le hy
  rw [hz]
  simp only [Int.toNat_natCast]
  rw [bitB_nat, bitB_nat, bitB_nat, bit_and]
  rcases Nat.mod_two_eq_zero_or_one (m / 2 ^ k) with h2 | h2 <;> rcases Nat.mod_two_eq_zero_or_one (n / 2 ^ k) with h3 | h3 <;> simp [h2, h3]
theorem setB_and {x y z : Int} (hx : 0 ≤ x) (hy : 0 ≤ y) (hz : z = ((x.toNat &&& y.toNat : Nat) : Int)) (u : Int) : hasB (setB z 5) u = (hasB (setB x 5) u && hasB (setB y 5) u) := by
  rw [Bool.eq_iff_iff, Bool.and_eq_true, hasB_mem, hasB_mem, hasB_mem, setB_mem, setB_mem, setB_mem]
  constructor
  · rintro ⟨i, hi, rfl, hb⟩
    rw [bitB_and hx hy hz, Bool.and_eq_true] at hb
    exact ⟨⟨i, hi, rfl, hb.1⟩, ⟨i, hi, rfl, hb.2⟩⟩
  · rintro ⟨⟨i, hi, rfl, hb⟩, ⟨j, hj, e, hb2⟩⟩
    obtain rfl : i = j := by omega
    exact ⟨i, hi, rfl, by rw [bitB_and hx hy hz, hb, hb2]; rfl⟩
theorem setB_31 : setB 31 5 = [0, 1, 2, 3, 4] := by decide
theorem word_all (l : List Int) (n : Nat) : projW (wordB l n) (setB 31 5) = wordB l n := proj_all fun z hz => by
  obtain ⟨k, hk, rfl⟩ := wordB_mem hz
  rw [setB_31]
  have : k = 0 ∨ k = 1 ∨ k = 2 ∨ k = 3 ∨ k = 4 := by omega
  rcases this with rfl | rfl | rfl | rfl | rfl <;> simp
end Go.Proofs.Ytcbhencebflgcaa
