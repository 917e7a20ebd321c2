/- Plain laws, fourth text: the reference's Match. -/
import Derived.Test.YtcbhencebflgcaaPn
namespace Go.Proofs.Ytcbhencebflgcaa
open Go

/-- the reference's Match -/
def refM (f s : List Int) : Nat → List Int → List Int → Option (List Int)
  | 0, _, _ => some []
  | n + 1, a, b =>
    match a[0]?, b[0]? with
    | none, none => some []
    | some x, none => if hasB s x then none else (refM f s n (a.drop 1) b).map (x :: ·)
    | none, some y => if hasB f y then none else (refM f s n a (b.drop 1)).map (y :: ·)
    | some x, some y => if hasB s x = false ∧ (hasB f y = true ∨ x < y) then (refM f s n (a.drop 1) b).map (x :: ·) else if hasB f y = false then (refM f s n a (b.drop 1)).map (y :: ·)
      else if x = y then (refM f s n (a.drop 1) (b.drop 1)).map (x :: ·) else none
/-- over: every event of a lies in f -/
def OverB (a f : List Int) : Prop := ∀ x ∈ a, hasB f x = true
theorem OverB.drop {a f : List Int} (h : OverB a f) (n : Nat) : OverB (a.drop n) f := fun x hx => h x (List.mem_of_mem_drop hx)
theorem OverB.at_ {a f : List Int} (h : OverB a f) {k : Nat} {x : Int} (hx : a[k]? = some x) : hasB f x = true := h x (List.mem_of_getElem? hx)
theorem proj_nil (s : List Int) : projW [] s = [] := rfl
theorem refM_eq (f s : List Int) : ∀ (n : Nat) (a b : List Int), a.length + b.length ≤ n → OverB a f → OverB b s → refM f s n a b = if projW a s = projW b f then some (mtW f s n a b) else none
  | 0, a, b, h, _, _ => by
    obtain rfl : a = [] := List.eq_nil_of_length_eq_zero (by omega)
    obtain rfl : b = [] := List.eq_nil_of_length_eq_zero (by omega)
    simp [refM, mtW, proj_nil]
  | n + 1, [], [], _, _, _ => by simp [refM, mtW, proj_nil]
  | n + 1, x :: a, [], h, ha, hb => by
    have ih := refM_eq f s n a [] (by simp at h; simpa using h) (ha.drop 1) hb
    simp only [refM, mtW, List.getElem?_cons_zero, List.getElem?_nil, List.drop_succ_cons, List.drop_zero]
    cases hs : hasB s x with
    | true => simp [projW, hs]
    | false =>
      rw [if_neg (by simp), ih, show projW (x :: a) s = projW a s from by simp [projW, hs]]
      split <;> simp
  | n + 1, [], y :: b, h, ha, hb => by
    have ih := refM_eq f s n [] b (by simp at h; simpa using h) ha (hb.drop 1)
    simp only [refM, mtW, List.getElem?_cons_zero, List.getElem?_nil, List.drop_succ_cons, List.drop_zero]
    cases hs : hasB f y with
    | true => simp [projW, hs]
    | false =>
      rw [if_neg (by simp), ih, show projW (y :: b) f = projW b f from by simp [projW, hs]]
      split <;> simp
  | n + 1, x :: a, y :: b, h, ha, hb => by
    have i1 := refM_eq f s n a (y :: b) (by simp at h ⊢; omega) (ha.drop 1) hb
    have i2 := refM_eq f s n (x :: a) b (by simp at h ⊢; omega) ha (hb.drop 1)
    have i3 := refM_eq f s n a b (by simp at h; omega) (ha.drop 1) (hb.drop 1)
    simp only [refM, mtW, List.getElem?_cons_zero, List.drop_succ_cons, List.drop_zero]
    by_cases c1 : hasB s x = false ∧ (hasB f y = true ∨ x < y)
    · rw [if_pos c1, if_pos c1, i1, show projW (x :: a) s = projW a s from by simp [projW, c1.1]]
      split <;> simp
    · rw [if_neg c1, if_neg c1]
      by_cases c2 : hasB f y = false
      · rw [if_pos c2, if_pos c2, i2, show projW (y :: b) f = projW b f from by simp [projW, c2]]
        split <;> simp
      · rw [if_neg c2, if_neg c2]
        have hy : hasB f y = true := by simpa using c2
        have hx : hasB s x = true := by
          cases hq : hasB s x with
          | true => rfl
          | false => exact absurd ⟨hq, .inl hy⟩ c1
        rw [show projW (x :: a) s = x :: projW a s from by simp [projW, hx], show projW (y :: b) f = y :: projW b f from by simp [projW, hy]]
        by_cases c3 : x = y
        · subst c3
          rw [if_pos rfl, i3]
          by_cases c4 : projW a s = projW b f
          · rw [if_pos c4, if_pos (by rw [c4])]; rfl
          · rw [if_neg c4, if_neg (by intro hh; injection hh with _ hh; exact c4 hh)]; rfl
        · rw [if_neg c3, if_neg (by intro hh; injection hh with hh _; exact c3 hh)]
/-- What is matched projects back. -/
theorem mtW_proj (f s : List Int) : ∀ (n : Nat) (a b : List Int), a.length + b.length ≤ n → OverB a f → OverB b s → projW a s = projW b f → projW (mtW f s n a b) f = a ∧ projW (mtW f s n a b) s = b
  | 0, a, b, h, _, _, _ => by
    obtain rfl : a = [] := List.eq_nil_of_length_eq_zero (by omega)
    obtain rfl : b = [] := List.eq_nil_of_length_eq_zero (by omega)
    simp [mtW, proj_nil]
  | n + 1, [], [], _, _, _, _ => by simp [mtW, proj_nil]
  | n + 1, x :: a, [], h, ha, hb, hp => by
    have hx := ha x (by simp)
    cases hs : hasB s x with
    | true => simp [projW, hs] at hp
    | false =>
      rw [show projW (x :: a) s = projW a s from by simp [projW, hs]] at hp
      have ih := mtW_proj f s n a [] (by simp at h; simpa using h) (ha.drop 1) hb hp
      simp only [mtW, List.getElem?_cons_zero, List.getElem?_nil, List.drop_succ_cons, List.drop_zero]
      generalize mtW f s n a [] = m at ih ⊢
      constructor
      · rw [show projW (x :: m) f = x :: projW m f from by simp [projW, hx], ih.1]
      · rw [show projW (x :: m) s = projW m s from by simp [projW, hs], ih.2]
  | n + 1, [], y :: b, h, ha, hb, hp => by
    have hy := hb y (by simp)
    cases hs : hasB f y with
    | true => simp [projW, hs] at hp
    | false =>
      rw [show projW (y :: b) f = projW b f from by simp [projW, hs]] at hp
      have ih := mtW_proj f s n [] b (by simp at h; simpa using h) ha (hb.drop 1) hp
      simp only [mtW, List.getElem?_cons_zero, List.getElem?_nil, List.drop_succ_cons, List.drop_zero]
      generalize mtW f s n [] b = m at ih ⊢
      constructor
      · rw [show projW (y :: m) f = projW m f from by simp [projW, hs], ih.1]
      · rw [show projW (y :: m) s = y :: projW m s from by simp [projW, hy], ih.2]
  | n + 1, x :: a, y :: b, h, ha, hb, hp => by
    have hx := ha x (by simp)
    have hy := hb y (by simp)
    simp only [mtW, List.getElem?_cons_zero, List.drop_succ_cons, List.drop_zero]
    by_cases c1 : hasB s x = false ∧ (hasB f y = true ∨ x < y)
    · rw [if_pos c1]
      rw [show projW (x :: a) s = projW a s from by simp [projW, c1.1]] at hp
      have ih := mtW_proj f s n a (y :: b) (by simp at h ⊢; omega) (ha.drop 1) hb hp
      generalize mtW f s n a (y :: b) = m at ih ⊢
      constructor
      · rw [show projW (x :: m) f = x :: projW m f from by simp [projW, hx], ih.1]
      · rw [show projW (x :: m) s = projW m s from by simp [projW, c1.1], ih.2]
    · rw [if_neg c1]
      by_cases c2 : hasB f y = false
      · rw [if_pos c2]
        rw [show projW (y :: b) f = projW b f from by simp [projW, c2]] at hp
        have ih := mtW_proj f s n (x :: a) b (by simp at h ⊢; omega) ha (hb.drop 1) hp
        generalize mtW f s n (x :: a) b = m at ih ⊢
        constructor
        · rw [show projW (y :: m) f = projW m f from by simp [projW, c2], ih.1]
        · rw [show projW (y :: m) s = y :: projW m s from by simp [projW, hy], ih.2]
      · rw [if_neg c2]
        have hy2 : hasB f y = true := by simpa using c2
        have hx2 : hasB s x = true := by
          cases hq : hasB s x with
          | true => rfl
          | false => exact absurd ⟨hq, .inl hy2⟩ c1
        rw [show projW (x :: a) s = x :: projW a s from by simp [projW, hx2], show projW (y :: b) f = y :: projW b f from by simp [projW, hy2]] at hp
        injection hp with e1 e2
        subst e1
        have ih := mtW_proj f s n a b (by simp at h; omega) (ha.drop 1) (hb.drop 1) e2
        generalize mtW f s n a b = m at ih ⊢
        constructor
        · rw [show projW (x :: m) f = x :: projW m f from by simp [projW, hx], ih.1]
        · rw [show projW (x :: m) s = x :: projW m s from by simp [projW, hx2], ih.2]
end Go.Proofs.Ytcbhencebflgcaa
