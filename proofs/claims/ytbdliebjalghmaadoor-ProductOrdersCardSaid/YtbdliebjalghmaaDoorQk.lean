/- Plain laws: the key of a tuple tells it. -/
import Derived.Test.YtbdliebjalghmaaDoorQd
import Derived.Lib.ItoaNum
namespace Go.Proofs.YtbdliebjalghmaaDoor
open Go

def keyL (t : List Int) : List UInt8 := t.flatMap (fun x => Lib.decDigits x.toNat ++ [32])
theorem keyL_snoc {t : List Int} {k : Nat} {x : Int} (h : t[k]? = some x) : keyL (t.take (k + 1)) = keyL (t.take k) ++ (Lib.decDigits x.toNat ++ [32]) := by
  unfold keyL; rw [flat_snoc _ h]
theorem dd_len {n : Nat} (h : n < 100) : (Lib.decDigits n).length ≤ 2 := by
  by_cases h1 : n < 10
  · rw [Lib.decDigits_one h1]; simp
  · rw [Lib.decDigits_two h1 h]; simp
theorem keyL_len : ∀ {t : List Int}, (∀ x ∈ t, 0 ≤ x ∧ x < 100) → (keyL t).length ≤ 3 * t.length
  | [], _ => by simp [keyL]
  | x :: t, h => by
    have ih := keyL_len (t := t) (fun y hy => h y (List.mem_cons_of_mem _ hy))
    have hx := h x (List.mem_cons_self ..)
    have := dd_len (n := x.toNat) (by omega)
    unfold keyL at ih ⊢
    rw [List.flatMap_cons, List.length_append, List.length_append]
    have e1 : ([32] : List UInt8).length = 1 := rfl
    have e2 : (x :: t).length = t.length + 1 := rfl
    omega
theorem dig_ne {n : Nat} (h : n < 10) : UInt8.ofNat (48 + n) ≠ 32 := by
  intro e
  have := congrArg UInt8.toNat e
  rw [UInt8.toNat_ofNat'] at this
  have h2 : (32 : UInt8).toNat = 32 := rfl
  rw [h2] at this
  omega
theorem dig_inj {n m : Nat} (h : n < 10) (k : m < 10) (e : UInt8.ofNat (48 + n) = UInt8.ofNat (48 + m)) : n = m := by
  have := congrArg UInt8.toNat e
  rw [UInt8.toNat_ofNat', UInt8.toNat_ofNat'] at this
  omega
theorem dd_inj {n m : Nat} (hn : n < 100) (hm : m < 100) {r s : List UInt8} (h : Lib.decDigits n ++ 32 :: r = Lib.decDigits m ++ 32 :: s) : n = m ∧ r = s := by
  by_cases h1 : n < 10
  · rw [Lib.decDigits_one h1] at h
    by_cases h2 : m < 10
    · rw [Lib.decDigits_one h2] at h
      simp only [List.cons_append, List.nil_append, List.cons.injEq, true_and] at h
      exact ⟨dig_inj h1 h2 h.1, h.2⟩
    · rw [Lib.decDigits_two h2 hm] at h
      simp only [List.cons_append, List.nil_append, List.cons.injEq] at h
      exact absurd h.2.1.symm (dig_ne (by omega))
  · rw [Lib.decDigits_two h1 hn] at h
    by_cases h2 : m < 10
    · rw [Lib.decDigits_one h2] at h
      simp only [List.cons_append, List.nil_append, List.cons.injEq] at h
      exact absurd h.2.1 (dig_ne (by omega))
    · rw [Lib.decDigits_two h2 hm] at h
      simp only [List.cons_append, List.nil_append, List.cons.injEq, true_and] at h
      have e1 := dig_inj (by omega) (by omega) h.1
      have e2 := dig_inj (by omega) (by omega) h.2.1
      exact ⟨by omega, h.2.2⟩
theorem keyL_inj : ∀ {t u : List Int}, (∀ x ∈ t, 0 ≤ x ∧ x < 100) → (∀ x ∈ u, 0 ≤ x ∧ x < 100) → keyL t = keyL u → t = u
  | [], [], _, _, _ => rfl
  | [], y :: u, _, _, h => by
    exfalso
    have := congrArg List.length h
    simp [keyL] at this
  | x :: t, [], _, _, h => by
    exfalso
    have := congrArg List.length h
    simp [keyL] at this
  | x :: t, y :: u, h1, h2, h => by
    have hx := h1 x (List.mem_cons_self ..)
    have hy := h2 y (List.mem_cons_self ..)
    have h' : Lib.decDigits x.toNat ++ 32 :: keyL t = Lib.decDigits y.toNat ++ 32 :: keyL u := by
      unfold keyL at h ⊢
      simpa [List.flatMap_cons] using h
    obtain ⟨e1, e2⟩ := dd_inj (by omega) (by omega) h'
    rw [keyL_inj (fun z hz => h1 z (List.mem_cons_of_mem _ hz)) (fun z hz => h2 z (List.mem_cons_of_mem _ hz)) e2]
    congr 1; omega
def keyS (t : List Int) : ByteArray := ⟨(keyL t).toArray⟩
theorem keyS_inj {t u : List Int} (h1 : ∀ x ∈ t, 0 ≤ x ∧ x < 100) (h2 : ∀ x ∈ u, 0 ≤ x ∧ x < 100) (h : keyS t = keyS u) : t = u := by
  refine keyL_inj h1 h2 ?_
  unfold keyS at h
  injection h with h
  simpa using h
theorem keyS_size {t : List Int} (h : ∀ x ∈ t, 0 ≤ x ∧ x < 100) : (keyS t).size ≤ 3 * t.length := by
  have := keyL_len h
  simpa [keyS, ByteArray.size] using this
end Go.Proofs.YtbdliebjalghmaaDoor
