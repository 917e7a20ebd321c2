/- Plain laws, fifth text: prefixes and what two words have in common at their heads. -/
import Derived.Test.YtcbhencebflgcaaPn
namespace Go.Proofs.Ytcbhencebflgcaa
open Go

/-- a is a prefix of b -/
def prefB (a b : List Int) : Bool := decide (a.length ≤ b.length) && eqB a (b.take a.length)
theorem prefB_long {a b : List Int} (h : ¬ a.length ≤ b.length) : prefB a b = false := by simp [prefB, h]
theorem prefB_eq {a b : List Int} {q : Bool} (h : a.length ≤ b.length) (hq : eqB a (b.take a.length) = q) : prefB a b = q := by simp [prefB, h, hq]
theorem prefB_take (a : List Int) (k : Nat) : prefB (a.take k) a = true := by
  have h : (a.take k).length ≤ a.length := by rw [List.length_take]; omega
  refine prefB_eq h (eqB_of ?_)
  rw [List.length_take]
  rcases Nat.le_total k a.length with h | h
  · rw [Nat.min_eq_left h]
  · rw [Nat.min_eq_right h, List.take_of_length_le h, List.take_of_length_le (Nat.le_refl _)]
/-- the length of what two words have in common at their heads -/
def cmnN : List Int → List Int → Nat
  | x :: a, y :: b => if x = y then cmnN a b + 1 else 0
  | _, _ => 0
theorem cmnN_end_a {a b : List Int} {k : Nat} (h : ¬ k < a.length) : cmnN (a.drop k) (b.drop k) = 0 := by
  rw [List.drop_of_length_le (by omega)]; rfl
theorem cmnN_end_b {a b : List Int} {k : Nat} (h : ¬ k < b.length) : cmnN (a.drop k) (b.drop k) = 0 := by
  rw [show b.drop k = [] from List.drop_of_length_le (by omega)]; cases a.drop k <;> rfl
theorem cmnN_stop {a b : List Int} {k : Nat} {x y : Int} (ha : a[k]? = some x) (hb : b[k]? = some y) (h : x ≠ y) : cmnN (a.drop k) (b.drop k) = 0 := by
  rw [drop_cons' ha, drop_cons' hb]; simp [cmnN, h]
theorem cmnN_go {a b : List Int} {k : Nat} {x : Int} (ha : a[k]? = some x) (hb : b[k]? = some x) : cmnN (a.drop k) (b.drop k) = cmnN (a.drop (k + 1)) (b.drop (k + 1)) + 1 := by
  rw [drop_cons' ha, drop_cons' hb]; simp [cmnN]
theorem cmnN_comm : ∀ a b : List Int, cmnN a b = cmnN b a
  | [], [] => rfl
  | [], _ :: _ => rfl
  | _ :: _, [] => rfl
  | x :: a, y :: b => by
    simp only [cmnN]
    by_cases h : x = y
    · rw [if_pos h, if_pos h.symm, cmnN_comm a b]
    · rw [if_neg h, if_neg (fun e => h e.symm)]
theorem cmnN_le : ∀ a b : List Int, cmnN a b ≤ a.length ∧ cmnN a b ≤ b.length
  | [], [] => by simp [cmnN]
  | [], _ :: _ => by simp [cmnN]
  | _ :: _, [] => by simp [cmnN]
  | x :: a, y :: b => by
    have := cmnN_le a b
    simp only [cmnN, List.length_cons]
    split <;> omega
theorem cmnN_take : ∀ a b : List Int, a.take (cmnN a b) = b.take (cmnN a b)
  | [], [] => rfl
  | [], _ :: _ => rfl
  | _ :: _, [] => rfl
  | x :: a, y :: b => by
    simp only [cmnN]
    by_cases h : x = y
    · rw [if_pos h, h, List.take_succ_cons, List.take_succ_cons, cmnN_take a b]
    · rw [if_neg h]; rfl
theorem cmn_same (a b : List Int) : b.take (cmnN b a) = a.take (cmnN a b) := by rw [cmnN_comm b a, cmnN_take]
/-- the first k prefixes -/
def pfx (a : List Int) : Nat → List (List Int)
  | 0 => []
  | k + 1 => pfx a k ++ [a.take k]
theorem pfx_len (a : List Int) : ∀ k, (pfx a k).length = k
  | 0 => rfl
  | k + 1 => by simp [pfx, pfx_len a k]
theorem pfx_get (a : List Int) : ∀ (k i : Nat), i < k → (pfx a k)[i]? = some (a.take i)
  | 0, i, h => by omega
  | k + 1, i, h => by
    unfold pfx
    rcases Nat.lt_or_ge i k with h1 | h1
    · rw [List.getElem?_append_left (by rw [pfx_len]; exact h1), pfx_get a k i h1]
    · have : i = k := by omega
      subst this
      rw [List.getElem?_append_right (by rw [pfx_len]; omega), pfx_len]; simp
end Go.Proofs.Ytcbhencebflgcaa
