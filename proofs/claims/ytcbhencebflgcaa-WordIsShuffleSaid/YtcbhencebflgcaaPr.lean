/- Plain laws, seventh text: shuffles of two words. -/
import Derived.Test.YtcbhencebflgcaaPn
namespace Go.Proofs.Ytcbhencebflgcaa
open Go

/-- w is a shuffle of a and b -/
inductive Shuf : List Int → List Int → List Int → Prop
  | nil : Shuf [] [] []
  | left {w a b : List Int} (x : Int) : Shuf w a b → Shuf (x :: w) (x :: a) b
  | right {w a b : List Int} (x : Int) : Shuf w a b → Shuf (x :: w) a (x :: b)
theorem Shuf.len {w a b : List Int} (h : Shuf w a b) : w.length = a.length + b.length := by
  induction h with
  | nil => rfl
  | left x h ih => simp; omega
  | right x h ih => simp; omega
theorem Shuf.swap {w a b : List Int} (h : Shuf w a b) : Shuf w b a := by
  induction h with
  | nil => exact .nil
  | left x h ih => exact .right x ih
  | right x h ih => exact .left x ih
theorem Shuf.snoc_l {w a b : List Int} (h : Shuf w a b) (x : Int) : Shuf (w ++ [x]) (a ++ [x]) b := by
  induction h with
  | nil => exact .left x .nil
  | left y h ih => exact .left y ih
  | right y h ih => exact .right y ih
theorem Shuf.snoc_r {w a b : List Int} (h : Shuf w a b) (x : Int) : Shuf (w ++ [x]) a (b ++ [x]) := (h.swap.snoc_l x).swap
theorem Shuf.rev {w a b : List Int} (h : Shuf w a b) : Shuf w.reverse a.reverse b.reverse := by
  induction h with
  | nil => exact .nil
  | left x h ih => rw [List.reverse_cons, List.reverse_cons]; exact ih.snoc_l x
  | right x h ih => rw [List.reverse_cons, List.reverse_cons]; exact ih.snoc_r x
theorem Shuf.rev_iff {w a b : List Int} : Shuf w.reverse a.reverse b.reverse ↔ Shuf w a b :=
  ⟨fun h => by have := h.rev; simpa using this, Shuf.rev⟩
theorem shuf_nil_l : ∀ {w b : List Int}, Shuf w [] b ↔ w = b
  | [], [] => ⟨fun _ => rfl, fun _ => .nil⟩
  | [], y :: b => ⟨(fun h => by cases h), (fun h => by cases h)⟩
  | x :: w, [] => ⟨(fun h => by cases h), (fun h => by cases h)⟩
  | x :: w, y :: b => by
    have ih := shuf_nil_l (w := w) (b := b)
    constructor
    · intro h
      cases h with
      | right _ h => rw [ih.1 h]
    · intro h
      injection h with h1 h2
      subst h1 h2
      exact .right x (ih.2 rfl)
theorem shuf_nil_r {w a : List Int} : Shuf w a [] ↔ w = a := ⟨fun h => shuf_nil_l.1 h.swap, fun h => (shuf_nil_l.2 h).swap⟩
theorem shuf_cons {w a b : List Int} {c x y : Int} : Shuf (c :: w) (x :: a) (y :: b) ↔ (c = x ∧ Shuf w a (y :: b)) ∨ (c = y ∧ Shuf w (x :: a) b) := by
  constructor
  · intro h
    cases h with
    | left _ h => exact .inl ⟨rfl, h⟩
    | right _ h => exact .inr ⟨rfl, h⟩
  · rintro (⟨rfl, h⟩ | ⟨rfl, h⟩)
    · exact .left _ h
    · exact .right _ h
theorem shuf_snoc {w a b : List Int} {c x y : Int} : Shuf (w ++ [c]) (a ++ [x]) (b ++ [y]) ↔ (c = x ∧ Shuf w a (b ++ [y])) ∨ (c = y ∧ Shuf w (a ++ [x]) b) := by
  rw [← Shuf.rev_iff]
  simp only [List.reverse_append, List.reverse_cons, List.reverse_nil, List.nil_append, List.singleton_append]
  rw [shuf_cons]
  constructor
  · rintro (⟨h, k⟩ | ⟨h, k⟩)
    · exact .inl ⟨h, by have := k.rev; simpa using this⟩
    · exact .inr ⟨h, by have := k.rev; simpa using this⟩
  · rintro (⟨h, k⟩ | ⟨h, k⟩)
    · exact .inl ⟨h, by have := k.rev; simpa using this⟩
    · exact .inr ⟨h, by have := k.rev; simpa using this⟩
/-- the same as a Bool, by the first events -/
def shB : List Int → List Int → List Int → Bool
  | [], [], [] => true
  | [], _, _ => false
  | c :: w, a, b => (match a with | x :: a' => (c == x) && shB w a' b | [] => false) || (match b with | y :: b' => (c == y) && shB w a b' | [] => false)
theorem shB_iff : ∀ {w a b : List Int}, shB w a b = true ↔ Shuf w a b
  | [], [], [] => ⟨fun _ => .nil, fun _ => rfl⟩
  | [], x :: a, b => ⟨(fun h => by simp [shB] at h), (fun h => by cases h)⟩
  | [], [], y :: b => ⟨(fun h => by simp [shB] at h), (fun h => by cases h)⟩
  | c :: w, [], [] => ⟨(fun h => by simp [shB] at h), (fun h => by cases h)⟩
  | c :: w, x :: a, [] => by
    simp only [shB, Bool.or_false, Bool.and_eq_true, beq_iff_eq]
    rw [shB_iff]
    constructor
    · rintro ⟨rfl, h⟩; exact .left _ h
    · intro h
      cases h with
      | left _ h => exact ⟨rfl, h⟩
  | c :: w, [], y :: b => by
    simp only [shB, Bool.false_or, Bool.and_eq_true, beq_iff_eq]
    rw [shB_iff]
    constructor
    · rintro ⟨rfl, h⟩; exact .right _ h
    · intro h
      cases h with
      | right _ h => exact ⟨rfl, h⟩
  | c :: w, x :: a, y :: b => by
    simp only [shB, Bool.or_eq_true, Bool.and_eq_true, beq_iff_eq]
    rw [shB_iff, shB_iff]
    exact shuf_cons.symm
theorem shB_no {w a b : List Int} : shB w a b = false ↔ ¬ Shuf w a b := by rw [← shB_iff, Bool.not_eq_true]
theorem shB_len {w a b : List Int} (h : w.length ≠ a.length + b.length) : shB w a b = false := shB_no.2 fun k => h k.len
theorem shB_swap (w a b : List Int) : shB w a b = shB w b a := by
  rw [Bool.eq_iff_iff, shB_iff, shB_iff]; exact ⟨Shuf.swap, Shuf.swap⟩
theorem shB_nil : shB [] [] [] = true := rfl
/-- the table's entry: can the first i + j events be divided into the first i of a and the first j of b? -/
def tabB (w a b : List Int) (i j : Nat) : Bool := shB (w.take (i + j)) (a.take i) (b.take j)
theorem tabB_00 (w a b : List Int) : tabB w a b 0 0 = true := by unfold tabB; exact shB_nil
theorem tabB_a {w a b : List Int} {i : Nat} {x c : Int} (ha : a[i]? = some x) (hw : w[i]? = some c) : tabB w a b (i + 1) 0 = (tabB w a b i 0 && (x == c)) := by
  unfold tabB
  rw [Bool.eq_iff_iff, Bool.and_eq_true, shB_iff, shB_iff, beq_iff_eq]
  simp only [Nat.add_zero, List.take_zero]
  rw [shuf_nil_r, shuf_nil_r, take_snoc' ha, take_snoc' hw]
  constructor
  · intro h
    have := List.append_inj' h rfl
    exact ⟨this.1, by have := this.2; simp at this; exact this.symm⟩
  · rintro ⟨h1, h2⟩; rw [h1, h2]
theorem tabB_b {w a b : List Int} {j : Nat} {y c : Int} (hb : b[j]? = some y) (hw : w[j]? = some c) : tabB w a b 0 (j + 1) = (tabB w a b 0 j && (y == c)) := by
  unfold tabB
  rw [Bool.eq_iff_iff, Bool.and_eq_true, shB_iff, shB_iff, beq_iff_eq]
  simp only [Nat.zero_add, List.take_zero]
  rw [shuf_nil_l, shuf_nil_l, take_snoc' hb, take_snoc' hw]
  constructor
  · intro h
    have := List.append_inj' h rfl
    exact ⟨this.1, by have := this.2; simp at this; exact this.symm⟩
  · rintro ⟨h1, h2⟩; rw [h1, h2]
theorem tabB_ab {w a b : List Int} {i j : Nat} {x y c : Int} (ha : a[i]? = some x) (hb : b[j]? = some y) (hw : w[i + j + 1]? = some c) :
    tabB w a b (i + 1) (j + 1) = ((tabB w a b i (j + 1) && (x == c)) || (tabB w a b (i + 1) j && (y == c))) := by
  unfold tabB
  rw [Bool.eq_iff_iff, Bool.or_eq_true, Bool.and_eq_true, Bool.and_eq_true, shB_iff, shB_iff, shB_iff, beq_iff_eq, beq_iff_eq]
  rw [show i + 1 + (j + 1) = (i + j + 1) + 1 by omega, take_snoc' hw, take_snoc' ha, take_snoc' hb, shuf_snoc, show i + (j + 1) = i + j + 1 by omega, show i + 1 + j = i + j + 1 by omega]
  constructor
  · rintro (⟨h, k⟩ | ⟨h, k⟩)
    · exact .inl ⟨k, h.symm⟩
    · exact .inr ⟨k, h.symm⟩
  · rintro (⟨k, h⟩ | ⟨k, h⟩)
    · exact .inl ⟨h.symm, k⟩
    · exact .inr ⟨h.symm, k⟩
theorem tabB_end {w a b : List Int} (h : w.length = a.length + b.length) : tabB w a b a.length b.length = shB w a b := by
  unfold tabB
  rw [List.take_of_length_le (by omega), List.take_of_length_le (Nat.le_refl _), List.take_of_length_le (Nat.le_refl _)]
end Go.Proofs.Ytcbhencebflgcaa
