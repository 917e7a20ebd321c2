/- Plain laws: the order of words is total; what is sorted and made single is one list. No program in sight. -/
import Derived.Test.YtcbhencebflgcaaPl
namespace Go.Proofs.Ytcbhencebflgcaa

theorem lexI_range : ∀ a b : List Int, lexI a b = -1 ∨ lexI a b = 0 ∨ lexI a b = 1
  | [], _ => .inr (.inl (by cases ‹List Int› <;> rfl))
  | _ :: _, [] => .inr (.inl rfl)
  | x :: a, y :: b => by
    unfold lexI
    split
    · exact .inl rfl
    · split
      · exact .inr (.inr rfl)
      · exact lexI_range a b
theorem lexI_neg : ∀ a b : List Int, lexI b a = - lexI a b
  | [], [] => rfl
  | [], _ :: _ => rfl
  | _ :: _, [] => rfl
  | x :: a, y :: b => by
    have ih := lexI_neg a b
    unfold lexI
    by_cases h1 : x < y
    · rw [if_pos h1, if_neg (by omega), if_pos h1]; rfl
    · by_cases h2 : y < x
      · rw [if_pos h2, if_neg h1, if_pos h2]
      · rw [if_neg h2, if_neg h1, if_neg h1, if_neg h2]; exact ih
theorem cmpW_neg (a b : List Int) : cmpW b a = - cmpW a b := by
  unfold cmpW
  by_cases h1 : a.length < b.length
  · rw [if_pos h1, if_neg (by omega), if_pos h1]; rfl
  · by_cases h2 : b.length < a.length
    · rw [if_pos h2, if_neg h1, if_pos h2]
    · rw [if_neg h2, if_neg h1, if_neg h1, if_neg h2]; exact lexI_neg a b
theorem cmpW_range (a b : List Int) : -1 ≤ cmpW a b ∧ cmpW a b ≤ 1 := by
  unfold cmpW
  split
  · omega
  · split
    · omega
    · have := lexI_range a b; omega
theorem cmpW_self (a : List Int) : cmpW a a = 0 := by rw [cmpW_len rfl, lexI_self]
theorem cmpW_eq {a b : List Int} (h : cmpW a b = 0) : a = b := by
  have := cmpW_zero a b
  rw [h] at this
  exact eqB_eq (by simpa using this.symm)
theorem lexI_le_trans : ∀ {a b c : List Int}, a.length = b.length → b.length = c.length → lexI a b ≤ 0 → lexI b c ≤ 0 → lexI a c ≤ 0
  | [], b, c, _, _, _, _ => by cases c <;> simp [lexI]
  | x :: a, [], c, h, _, _, _ => by simp at h
  | x :: a, y :: b, [], _, h, _, _ => by simp at h
  | x :: a, y :: b, z :: c, h1, h2, h3, h4 => by
    unfold lexI at *
    split at h3
    · split at h4
      · rw [if_pos (by omega)]; omega
      · split at h4
        · omega
        · rw [if_pos (by omega)]; omega
    · split at h3
      · omega
      · split at h4
        · rw [if_pos (by omega)]; omega
        · split at h4
          · omega
          · rw [if_neg (by omega), if_neg (by omega)]
            exact lexI_le_trans (by simpa using h1) (by simpa using h2) h3 h4
theorem cmpW_le_trans {a b c : List Int} (h1 : cmpW a b ≤ 0) (h2 : cmpW b c ≤ 0) : cmpW a c ≤ 0 := by
  unfold cmpW at *
  by_cases ab : a.length < b.length
  · by_cases bc : b.length < c.length
    · rw [if_pos (by omega)]; omega
    · by_cases cb : c.length < b.length
      · rw [if_neg bc, if_pos cb] at h2; omega
      · rw [if_pos (by omega)]; omega
  · by_cases ba : b.length < a.length
    · rw [if_neg ab, if_pos ba] at h1; omega
    · rw [if_neg ab, if_neg ba] at h1
      by_cases bc : b.length < c.length
      · rw [if_pos (by omega)]; omega
      · by_cases cb : c.length < b.length
        · rw [if_neg bc, if_pos cb] at h2; omega
        · rw [if_neg bc, if_neg cb] at h2
          rw [if_neg (by omega), if_neg (by omega)]
          exact lexI_le_trans (by omega) (by omega) h1 h2
theorem cmpW_lt_le {a b c : List Int} (h1 : cmpW a b < 0) (h2 : cmpW b c ≤ 0) : cmpW a c < 0 := by
  have h3 := cmpW_le_trans (Int.le_of_lt h1) h2
  by_cases h : cmpW a c = 0
  · have e := cmpW_eq h
    subst e
    have := cmpW_neg a b
    omega
  · omega
theorem cmpW_le_lt {a b c : List Int} (h1 : cmpW a b ≤ 0) (h2 : cmpW b c < 0) : cmpW a c < 0 := by
  have h3 := cmpW_le_trans h1 (Int.le_of_lt h2)
  by_cases h : cmpW a c = 0
  · have e := cmpW_eq h
    subst e
    have := cmpW_neg a b
    omega
  · omega

/-- strictly increasing words -/
def IncW : List (List Int) → Prop := List.Pairwise (fun a b => cmpW a b < 0)
theorem cptG_inc {α : Type} (f : α → List Int) : ∀ (p : Option (List Int)) (l : List α), l.Pairwise (fun a b => cmpW (f a) (f b) ≤ 0) → (∀ q, p = some q → ∀ x ∈ l, cmpW q (f x) ≤ 0) →
    (cptG f p l).Pairwise (fun a b => cmpW (f a) (f b) < 0) ∧ ∀ q, p = some q → ∀ x ∈ cptG f p l, cmpW q (f x) < 0
  | p, [], _, _ => ⟨List.Pairwise.nil, fun _ _ x hx => by simp [cptG] at hx⟩
  | p, x :: r, hp, hq => by
    obtain ⟨h1, h2⟩ := List.pairwise_cons.1 hp
    obtain ⟨i1, i2⟩ := cptG_inc f (some (f x)) r h2 (fun q e y hy => by injection e with e; subst e; exact h1 y hy)
    unfold cptG
    split
    · rename_i hpx
      refine ⟨i1, fun q e y hy => ?_⟩
      rw [hpx] at e
      exact i2 q e y hy
    · rename_i hpx
      refine ⟨List.pairwise_cons.2 ⟨fun y hy => i2 _ rfl y hy, i1⟩, fun q e y hy => ?_⟩
      have hqx := hq q e x (List.mem_cons_self ..)
      rcases List.mem_cons.1 hy with rfl | hy
      · have hne : cmpW q (f y) ≠ 0 := fun h0 => hpx (by rw [e, cmpW_eq h0])
        omega
      · exact cmpW_le_lt hqx (i2 _ rfl y hy)
theorem cptG_mem {α : Type} (f : α → List Int) (y : List Int) : ∀ (p : Option (List Int)) (l : List α), (y ∈ (cptG f p l).map f ∨ p = some y) ↔ (y ∈ l.map f ∨ p = some y)
  | p, [] => by simp [cptG]
  | p, x :: r => by
    have ih := cptG_mem f y (some (f x)) r
    unfold cptG
    split
    · rename_i h
      rw [h, ih, List.map_cons, List.mem_cons]
      constructor
      · rintro (h | h)
        · exact .inl (.inr h)
        · exact .inr h
      · rintro ((h | h) | h)
        · exact .inr (by rw [h])
        · exact .inl h
        · exact .inr h
    · rw [List.map_cons, List.mem_cons, List.map_cons, List.mem_cons]
      constructor
      · rintro ((h | h) | h)
        · exact .inl (.inl h)
        · rcases ih.1 (.inl h) with h | h
          · exact .inl (.inr h)
          · injection h with h; exact .inl (.inl h.symm)
        · exact .inr h
      · rintro ((h | h) | h)
        · exact .inl (.inl h)
        · rcases ih.2 (.inl h) with h | h
          · exact .inl (.inr h)
          · injection h with h; exact .inl (.inl h.symm)
        · exact .inr h
theorem cpt_mem {α : Type} (f : α → List Int) (l : List α) (y : List Int) : y ∈ (cpt f l).map f ↔ y ∈ l.map f := by
  have := cptG_mem f y none l
  simpa [cpt] using this
theorem cptG_sub {α : Type} (f : α → List Int) {y : α} : ∀ {p : Option (List Int)} {l : List α}, y ∈ cptG f p l → y ∈ l
  | _, [], h => by simp [cptG] at h
  | p, x :: r, h => by
    unfold cptG at h
    split at h
    · exact List.mem_cons_of_mem _ (cptG_sub f h)
    · rcases List.mem_cons.1 h with h | h
      · rw [h]; exact List.mem_cons_self ..
      · exact List.mem_cons_of_mem _ (cptG_sub f h)
theorem cpt_sub {α : Type} {f : α → List Int} {l : List α} {y : α} (h : y ∈ cpt f l) : y ∈ l := cptG_sub f h
theorem cpt_inc {α : Type} (f : α → List Int) {l : List α} (h : l.Pairwise (fun a b => cmpW (f a) (f b) ≤ 0)) : IncW ((cpt f l).map f) := by
  unfold IncW
  rw [List.pairwise_map]
  exact (cptG_inc f none l h (fun q e => by cases e)).1
theorem incW_unique : ∀ {l m : List (List Int)}, IncW l → IncW m → (∀ x, x ∈ l ↔ x ∈ m) → l = m
  | [], [], _, _, _ => rfl
  | [], y :: m, _, _, h => by have := (h y).2 (List.mem_cons_self ..); simp at this
  | x :: l, [], _, _, h => by have := (h x).1 (List.mem_cons_self ..); simp at this
  | x :: l, y :: m, hl, hm, h => by
    obtain ⟨l1, l2⟩ := List.pairwise_cons.1 hl
    obtain ⟨m1, m2⟩ := List.pairwise_cons.1 hm
    have asym : ∀ {a b : List Int}, cmpW a b < 0 → cmpW b a < 0 → False := fun {a b} h1 h2 => by have := cmpW_neg a b; omega
    have irr : ∀ {a : List Int}, cmpW a a < 0 → False := fun {a} h1 => by rw [cmpW_self] at h1; omega
    have hxy : x = y := by
      rcases List.mem_cons.1 ((h x).1 (List.mem_cons_self ..)) with e | hx
      · exact e
      · rcases List.mem_cons.1 ((h y).2 (List.mem_cons_self ..)) with e | hy
        · exact e.symm
        · exact (asym (m1 x hx) (l1 y hy)).elim
    subst hxy
    congr 1
    refine incW_unique l2 m2 fun z => ⟨fun hz => ?_, fun hz => ?_⟩
    · rcases List.mem_cons.1 ((h z).1 (List.mem_cons_of_mem _ hz)) with e | hz'
      · subst e; exact (irr (l1 _ hz)).elim
      · exact hz'
    · rcases List.mem_cons.1 ((h z).2 (List.mem_cons_of_mem _ hz)) with e | hz'
      · subst e; exact (irr (m1 _ hz)).elim
      · exact hz'
theorem shufN_ne (n : Nat) (g a b : List Int) : shufN n g a b ≠ [] := by
  cases n <;> cases a <;> cases b <;> simp [shufN]
  rename_i n x a y b
  intro h
  exact absurd h (by
    have : ∀ (m : Nat) (g a b : List Int), shufN m g a b ≠ [] := fun m => by
      induction m with
      | zero => intro g a b; cases a <;> cases b <;> simp [shufN]
      | succ m ih => intro g a b; cases a <;> cases b <;> simp [shufN, ih]
    exact this _ _ _ _)

/-- the match of two words over two sets -/
def mtW (f s : List Int) : Nat → List Int → List Int → List Int
  | 0, _, _ => []
  | n + 1, a, b =>
    match a[0]?, b[0]? with
    | none, none => []
    | some x, none => x :: mtW f s n (a.drop 1) b
    | none, some y => y :: mtW f s n a (b.drop 1)
    | some x, some y => if hasB s x = false ∧ (hasB f y = true ∨ x < y) then x :: mtW f s n (a.drop 1) b else if hasB f y = false then y :: mtW f s n a (b.drop 1) else x :: mtW f s n (a.drop 1) (b.drop 1)
theorem mt_a {f s a b : List Int} {n : Nat} {x : Int} (hx : a[0]? = some x) (h1 : hasB s x = false) (h2 : ∀ y, b[0]? = some y → hasB f y = true ∨ x < y) : mtW f s (n + 1) a b = x :: mtW f s n (a.drop 1) b := by
  rw [mtW, hx]
  cases hb : b[0]? with
  | none => rfl
  | some y => simp only [if_pos (⟨h1, h2 y hb⟩ : hasB s x = false ∧ (hasB f y = true ∨ x < y))]
theorem mt_b {f s a b : List Int} {n : Nat} {y : Int} (hy : b[0]? = some y) (h1 : hasB f y = false) (h2 : ∀ x, a[0]? = some x → hasB s x = true ∨ ¬ x < y) : mtW f s (n + 1) a b = y :: mtW f s n a (b.drop 1) := by
  rw [mtW, hy]
  cases ha : a[0]? with
  | none => rfl
  | some x =>
    have hn : ¬ (hasB s x = false ∧ (hasB f y = true ∨ x < y)) := by
      rintro ⟨k1, k2⟩
      rcases h2 x ha with h | h
      · rw [k1] at h; cases h
      · rcases k2 with k | k
        · rw [h1] at k; cases k
        · exact h k
    simp only [if_neg hn, if_pos h1]
theorem mt_c {f s a b : List Int} {n : Nat} {x y : Int} (hx : a[0]? = some x) (hy : b[0]? = some y) (h1 : hasB s x = true) (h2 : hasB f y = true) : mtW f s (n + 1) a b = x :: mtW f s n (a.drop 1) (b.drop 1) := by
  rw [mtW, hx, hy]
  simp [h1, h2]
theorem mt_end {f s : List Int} (n : Nat) : mtW f s n [] [] = [] := by cases n <;> rfl
theorem proj_no {a s : List Int} {x : Int} (hx : a[0]? = some x) (h : hasB s x = false) : projW a s = projW (a.drop 1) s := by
  cases a with
  | nil => simp at hx
  | cons z a => simp at hx; subst hx; simp [projW, h]
theorem proj_yes {a s : List Int} {x : Int} (hx : a[0]? = some x) (h : hasB s x = true) : projW a s = x :: projW (a.drop 1) s := by
  cases a with
  | nil => simp at hx
  | cons z a => simp at hx; subst hx; simp [projW, h]
theorem proj_both {f s a b : List Int} {x y : Int} (hx : a[0]? = some x) (hy : b[0]? = some y) (h1 : hasB s x = true) (h2 : hasB f y = true) (h : projW a s = projW b f) : projW (a.drop 1) s = projW (b.drop 1) f := by
  rw [proj_yes hx h1, proj_yes hy h2] at h
  injection h
/-- the word that Match returns -/
def matW (f s a b : List Int) : List Int := mtW f s (a.length + b.length) a b
end Go.Proofs.Ytcbhencebflgcaa
