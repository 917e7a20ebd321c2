/- Plain laws, eighth text: the reference's Put and Shuffles. -/
import Derived.Test.YtcbhencebflgcaaPr
namespace Go.Proofs.Ytcbhencebflgcaa
open Go

/-- a word into a list in order -/
def putL : List (List Int) → List Int → List (List Int)
  | [], v => [v]
  | x :: l, v => if cmpW x v < 0 then x :: putL l v else if cmpW x v = 0 then x :: l else v :: x :: l
theorem putL_less {L : List (List Int)} {v x : List Int} {k : Nat} (hx : L[k]? = some x) (h : cmpW x v < 0) : putL (L.drop k) v = x :: putL (L.drop (k + 1)) v := by
  rw [drop_cons' hx]; simp [putL, h]
theorem putL_same {L : List (List Int)} {v x : List Int} {k : Nat} (hx : L[k]? = some x) (h : cmpW x v = 0) : putL (L.drop k) v = L.drop k := by
  rw [drop_cons' hx]; simp [putL, h]
theorem putL_more {L : List (List Int)} {v x : List Int} {k : Nat} (hx : L[k]? = some x) (h1 : ¬ cmpW x v < 0) (h2 : cmpW x v ≠ 0) : putL (L.drop k) v = v :: L.drop k := by
  rw [drop_cons' hx]; simp [putL, h1, h2]
theorem putL_end {L : List (List Int)} {v : List Int} {k : Nat} (h : ¬ k < L.length) : putL (L.drop k) v = v :: L.drop k := by
  rw [List.drop_of_length_le (by omega)]; rfl
theorem putL_mem (v u : List Int) : ∀ L : List (List Int), u ∈ putL L v ↔ u ∈ L ∨ u = v
  | [] => by simp [putL]
  | x :: l => by
    have ih := putL_mem v u l
    unfold putL
    split
    · rw [List.mem_cons, ih, List.mem_cons, or_assoc]
    · split
      · rename_i h
        have := cmpW_eq h
        subst this
        constructor
        · exact .inl
        · rintro (h | rfl)
          · exact h
          · exact List.mem_cons_self ..
      · rw [List.mem_cons, Or.comm]
theorem putL_len (v : List Int) : ∀ L : List (List Int), (putL L v).length ≤ L.length + 1
  | [] => by simp [putL]
  | x :: l => by
    have ih := putL_len v l
    unfold putL
    split
    · simp; exact ih
    · split <;> simp
theorem cmpW_lt_trans {a b c : List Int} (h1 : cmpW a b < 0) (h2 : cmpW b c < 0) : cmpW a c < 0 := cmpW_le_lt (Int.le_of_lt h1) h2
theorem putL_inc (v : List Int) : ∀ {L : List (List Int)}, IncW L → IncW (putL L v)
  | [], _ => by unfold IncW; simp [putL]
  | x :: l, h => by
    unfold IncW at h ⊢
    obtain ⟨h1, h2⟩ := List.pairwise_cons.1 h
    have ih : IncW (putL l v) := putL_inc v h2
    unfold putL
    split
    · rename_i hx
      refine List.pairwise_cons.2 ⟨fun y hy => ?_, ih⟩
      rcases (putL_mem v y l).1 hy with hy | rfl
      · exact h1 y hy
      · exact hx
    · split
      · exact h
      · rename_i hx hx0
        have hv : cmpW v x < 0 := by have := cmpW_neg v x; omega
        refine List.pairwise_cons.2 ⟨fun y hy => ?_, h⟩
        rcases List.mem_cons.1 hy with rfl | hy
        · exact hv
        · exact cmpW_lt_trans hv (h1 y hy)
/-- all words of src, with x behind, into L0 -/
def putA (L0 src : List (List Int)) (x : Int) (k : Nat) : List (List Int) := ((src.take k).map (· ++ [x])).foldl putL L0
theorem putA_zero (L0 src : List (List Int)) (x : Int) : putA L0 src x 0 = L0 := rfl
theorem putA_succ {L0 src : List (List Int)} {x : Int} {k : Nat} {v : List Int} (h : src[k]? = some v) : putA L0 src x (k + 1) = putL (putA L0 src x k) (v ++ [x]) := by
  unfold putA; rw [take_snoc' h]; simp
theorem fold_mem (u : List Int) : ∀ (m L : List (List Int)), u ∈ m.foldl putL L ↔ u ∈ L ∨ u ∈ m
  | [], L => by simp
  | v :: m, L => by
    rw [List.foldl_cons, fold_mem u m, putL_mem, List.mem_cons, or_assoc]
theorem fold_inc : ∀ (m : List (List Int)) {L : List (List Int)}, IncW L → IncW (m.foldl putL L)
  | [], _, h => h
  | v :: m, _, h => fold_inc m (putL_inc v h)
theorem fold_len : ∀ (m L : List (List Int)), (m.foldl putL L).length ≤ L.length + m.length
  | [], L => by simp
  | v :: m, L => by
    have := fold_len m (putL L v)
    have := putL_len v L
    rw [List.foldl_cons, List.length_cons]; omega
theorem putA_len (L0 src : List (List Int)) (x : Int) (k : Nat) : (putA L0 src x k).length ≤ L0.length + k := by
  have := fold_len ((src.take k).map (· ++ [x])) L0
  rw [List.length_map, List.length_take] at this
  unfold putA; omega
/-- the reference's Shuffles -/
def refS : Nat → List Int → List Int → List (List Int)
  | n + 1, x :: a, y :: b => putA (putA [] (refS n ((x :: a).take a.length) (y :: b)) (((x :: a)[a.length]?).getD 0) (refS n ((x :: a).take a.length) (y :: b)).length)
      (refS n (x :: a) ((y :: b).take b.length)) (((y :: b)[b.length]?).getD 0) (refS n (x :: a) ((y :: b).take b.length)).length
  | _, a, b => [a ++ b]
theorem refS_nil {n : Nat} {a b : List Int} (h : a.length = 0 ∨ b.length = 0) : refS n a b = [a ++ b] := by
  cases n <;> cases a <;> cases b <;> simp_all [refS]
theorem refS_go {n : Nat} {a b : List Int} {x y : Int} (ha : a[a.length - 1]? = some x) (hb : b[b.length - 1]? = some y) :
    refS (n + 1) a b = putA (putA [] (refS n (a.take (a.length - 1)) b) x (refS n (a.take (a.length - 1)) b).length) (refS n a (b.take (b.length - 1))) y (refS n a (b.take (b.length - 1))).length := by
  cases a with
  | nil => simp at ha
  | cons x' a =>
    cases b with
    | nil => simp at hb
    | cons y' b =>
      simp only [List.length_cons, Nat.add_sub_cancel] at ha hb ⊢
      rw [refS, ha, hb]
      rfl
theorem split_last {a : List Int} {x : Int} (ha : a[a.length - 1]? = some x) : a = a.take (a.length - 1) ++ [x] := by
  have := take_snoc' ha
  have hl := get_lt ha
  rw [show a.length - 1 + 1 = a.length by omega, List.take_length] at this
  exact this
theorem refS_ok : ∀ (n : Nat) (a b : List Int), a.length + b.length ≤ n → IncW (refS n a b) ∧ (∀ u, u ∈ refS n a b ↔ Shuf u a b) ∧ (refS n a b).length ≤ 2 ^ n := by
  have base : ∀ (n : Nat) (a b : List Int), a.length = 0 ∨ b.length = 0 → IncW (refS n a b) ∧ (∀ u, u ∈ refS n a b ↔ Shuf u a b) ∧ (refS n a b).length ≤ 2 ^ n := by
    intro n a b h
    rw [refS_nil h]
    refine ⟨by unfold IncW; simp, fun u => ?_, by have := Nat.one_le_two_pow (n := n); simpa using this⟩
    rw [List.mem_singleton]
    rcases h with h | h
    · obtain rfl := List.eq_nil_of_length_eq_zero h
      rw [shuf_nil_l, List.nil_append]
    · obtain rfl := List.eq_nil_of_length_eq_zero h
      rw [shuf_nil_r, List.append_nil]
  intro n
  induction n with
  | zero => intro a b h; exact base 0 a b (by omega)
  | succ n ih =>
    intro a b h
    by_cases h0 : a.length = 0 ∨ b.length = 0
    · exact base _ a b h0
    · obtain ⟨x, hx⟩ : ∃ x, a[a.length - 1]? = some x := ⟨_, List.getElem?_eq_getElem (by omega)⟩
      obtain ⟨y, hy⟩ : ∃ y, b[b.length - 1]? = some y := ⟨_, List.getElem?_eq_getElem (by omega)⟩
      rw [refS_go hx hy]
      obtain ⟨i1, m1, l1⟩ := ih (a.take (a.length - 1)) b (by rw [List.length_take]; omega)
      obtain ⟨i2, m2, l2⟩ := ih a (b.take (b.length - 1)) (by rw [List.length_take]; omega)
      generalize refS n (a.take (a.length - 1)) b = L1 at *
      generalize refS n a (b.take (b.length - 1)) = L2 at *
      refine ⟨fold_inc _ (fold_inc _ (by unfold IncW; exact List.Pairwise.nil)), fun u => ?_, ?_⟩
      · unfold putA
        rw [List.take_length, List.take_length, fold_mem, fold_mem]
        simp only [List.not_mem_nil, false_or, List.mem_map]
        constructor
        · rintro (⟨v, hv, rfl⟩ | ⟨v, hv, rfl⟩)
          · have := ((m1 v).1 hv).snoc_l x
            rwa [← split_last hx] at this
          · have := ((m2 v).1 hv).snoc_r y
            rwa [← split_last hy] at this
        · intro hu
          have hul := hu.len
          obtain ⟨c, hc⟩ : ∃ c, u[u.length - 1]? = some c := ⟨_, List.getElem?_eq_getElem (by omega)⟩
          have hs := split_last hc
          rw [hs, split_last hx, split_last hy, shuf_snoc] at hu
          rcases hu with ⟨rfl, hu⟩ | ⟨rfl, hu⟩
          · rw [← split_last hy] at hu
            exact .inl ⟨_, (m1 _).2 hu, hs.symm⟩
          · rw [← split_last hx] at hu
            exact .inr ⟨_, (m2 _).2 hu, hs.symm⟩
      · have k1 := putA_len [] L1 x L1.length
        have k2 := putA_len (putA [] L1 x L1.length) L2 y L2.length
        simp only [List.length_nil] at k1
        rw [Nat.pow_succ]; omega
/-- what the program collects, and what the reference lists -/
theorem shufN_mem : ∀ (n : Nat) (g a b u : List Int), a.length + b.length ≤ n → (u ∈ shufN n g a b ↔ ∃ v, u = g ++ v ∧ Shuf v a b) := by
  have base : ∀ (n : Nat) (g a b u : List Int), a.length = 0 ∨ b.length = 0 → (u ∈ shufN n g a b ↔ ∃ v, u = g ++ v ∧ Shuf v a b) := by
    intro n g a b u h
    rw [shufN_nil h, List.mem_singleton]
    rcases h with h | h
    · obtain rfl := List.eq_nil_of_length_eq_zero h
      simp only [shuf_nil_l, List.append_nil]
      exact ⟨fun e => ⟨b, e, rfl⟩, fun ⟨v, e, h⟩ => by rw [e, h]⟩
    · obtain rfl := List.eq_nil_of_length_eq_zero h
      simp only [shuf_nil_r, List.append_nil]
      exact ⟨fun e => ⟨a, e, rfl⟩, fun ⟨v, e, h⟩ => by rw [e, h]⟩
  intro n
  induction n with
  | zero => intro g a b u h; exact base 0 g a b u (by omega)
  | succ n ih =>
    intro g a b u h
    cases a with
    | nil => exact base _ _ _ _ _ (.inl rfl)
    | cons x a =>
      cases b with
      | nil => exact base _ _ _ _ _ (.inr rfl)
      | cons y b =>
        rw [shufN_cons (x := x) (y := y) rfl rfl, List.mem_append, ih _ _ _ _ (by simp at h ⊢; omega), ih _ _ _ _ (by simp at h ⊢; omega)]
        simp only [List.drop_succ_cons, List.drop_zero, List.append_assoc, List.singleton_append]
        constructor
        · rintro (⟨v, e, h⟩ | ⟨v, e, h⟩)
          · exact ⟨x :: v, e, .left _ h⟩
          · exact ⟨y :: v, e, .right _ h⟩
        · rintro ⟨v, e, h⟩
          cases h with
          | left _ h => exact .inl ⟨_, e, h⟩
          | right _ h => exact .inr ⟨_, e, h⟩
theorem shuf_same {a b : List Int} {L : List (List Int)} (hi : IncW L) (hm : ∀ l, l ∈ L ↔ l ∈ shufN (a.length + b.length) [] a b) : L = refS (a.length + b.length) a b := by
  obtain ⟨i2, m2, _⟩ := refS_ok (a.length + b.length) a b (Nat.le_refl _)
  refine incW_unique hi i2 fun u => ?_
  rw [hm, m2, shufN_mem _ _ _ _ _ (Nat.le_refl _)]
  simp
end Go.Proofs.Ytcbhencebflgcaa
