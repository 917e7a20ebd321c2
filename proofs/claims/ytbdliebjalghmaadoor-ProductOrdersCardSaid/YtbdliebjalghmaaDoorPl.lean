/- Plain laws on lists and ints: no program in sight. -/
namespace Go.Proofs.YtbdliebjalghmaaDoor

theorem take_snoc' {α : Type} {l : List α} {k : Nat} {y : α} (h : l[k]? = some y) : l.take (k + 1) = l.take k ++ [y] := by
  obtain ⟨hk, he⟩ := List.getElem?_eq_some_iff.1 h
  rw [List.take_succ_eq_append_getElem hk, he]
theorem drop_cons' {α : Type} {l : List α} {k : Nat} {y : α} (h : l[k]? = some y) : l.drop k = y :: l.drop (k + 1) := by
  obtain ⟨hk, he⟩ := List.getElem?_eq_some_iff.1 h
  rw [List.drop_eq_getElem_cons hk, he]
theorem get_lt {α : Type} {l : List α} {k : Nat} {y : α} (h : l[k]? = some y) : k < l.length := (List.getElem?_eq_some_iff.1 h).1
theorem take_all' {α : Type} {l : List α} {k : Nat} (h : ¬ k < l.length) : l.take k = l := List.take_of_length_le (by omega)

theorem has_step {l : List Int} {k : Nat} {x y : Int} (h : l[k]? = some y) (hno : (l.take k).contains x = false) (hy : (y == x) = false) : (l.take (k + 1)).contains x = false := by
  rw [take_snoc' h, List.contains_append, hno]
  have : (x == y) = false := by
    have h1 : ¬ y = x := by simpa using hy
    have h2 : ¬ x = y := fun e => h1 e.symm
    simpa using h2
  simpa using this
theorem has_hit {l : List Int} {k : Nat} {y : Int} (h : l[k]? = some y) : l.contains y = true := by
  have := List.mem_of_getElem? h
  simpa using this

/-- The order of words: by length, then the first place where they part. -/
def lexI : List Int → List Int → Int
  | a :: r, b :: s => if a < b then -1 else if b < a then 1 else lexI r s
  | _, _ => 0
def cmpW (a b : List Int) : Int := if a.length < b.length then -1 else if b.length < a.length then 1 else lexI a b
theorem lexI_drop {a b : List Int} {k : Nat} {x y : Int} (ha : a[k]? = some x) (hb : b[k]? = some y) :
    lexI (a.drop k) (b.drop k) = if x < y then -1 else if y < x then 1 else lexI (a.drop (k + 1)) (b.drop (k + 1)) := by
  rw [drop_cons' ha, drop_cons' hb]
  rfl
/-- the first fault of a set: 2 out of range, 5 not increasing, 0 none -/
def setErrG (n : Int) : Option Int → List Int → Int
  | _, [] => 0
  | p, x :: r => if x < 0 ∨ n ≤ x then 2 else if p.any (fun q => decide (x ≤ q)) then 5 else setErrG n (some x) r
def setErr (l : List Int) (n : Int) : Int := setErrG n none l
def hasB (l : List Int) (x : Int) : Bool := l.contains x
theorem hasB_mem {l : List Int} {x : Int} : hasB l x = true ↔ x ∈ l := by simp [hasB]
theorem hasB_step {l : List Int} {k : Nat} {x y : Int} (h : l[k]? = some y) (hno : hasB (l.take k) x = false) (hy : (y == x) = false) : hasB (l.take (k + 1)) x = false := has_step h hno hy
theorem hasB_hit {l : List Int} {k : Nat} {y : Int} (h : l[k]? = some y) : hasB l y = true := has_hit h
theorem hasB_end {l : List Int} {k : Nat} {x : Int} (hno : hasB (l.take k) x = false) (h : ¬ k < l.length) : hasB l x = false := by rw [← hno, take_all' h]
theorem setErrG_range {l : List Int} {k : Nat} {n x : Int} {p : Option Int} (h : l[k]? = some x) (hr : x < 0 ∨ n ≤ x) : setErrG n p (l.drop k) = 2 := by
  rw [drop_cons' h]; simp [setErrG, hr]
theorem setErrG_order {l : List Int} {k : Nat} {n x q : Int} (h : l[k]? = some x) (hr : ¬ (x < 0 ∨ n ≤ x)) (hq : x ≤ q) : setErrG n (some q) (l.drop k) = 5 := by
  rw [drop_cons' h]; simp [setErrG, hr, hq]
theorem setErrG_next {l : List Int} {k : Nat} {n x q : Int} (h : l[k]? = some x) (hr : ¬ (x < 0 ∨ n ≤ x)) (hq : ¬ x ≤ q) : setErrG n (some q) (l.drop k) = setErrG n (some x) (l.drop (k + 1)) := by
  rw [drop_cons' h]; simp [setErrG, hr, hq]
theorem setErrG_first {l : List Int} {k : Nat} {n x : Int} (h : l[k]? = some x) (hr : ¬ (x < 0 ∨ n ≤ x)) : setErrG n none (l.drop k) = setErrG n (some x) (l.drop (k + 1)) := by
  rw [drop_cons' h]; simp [setErrG, hr]
theorem setErrG_end {l : List Int} {k : Nat} {n : Int} {p : Option Int} (h : ¬ k < l.length) : setErrG n p (l.drop k) = 0 := by
  rw [List.drop_of_length_le (by omega)]; cases p <;> rfl
/-- increasing -/
def Inc : List Int → Prop := List.Pairwise (· < ·)
theorem setErrG_inc {n : Int} : ∀ {l : List Int} {p : Option Int}, setErrG n p l = 0 → (∀ q, p = some q → ∀ x ∈ l, q < x) ∧ Inc l ∧ ∀ x ∈ l, 0 ≤ x ∧ x < n
  | [], p, _ => ⟨fun _ _ x hx => by simp at hx, List.Pairwise.nil, fun x hx => by simp at hx⟩
  | x :: r, p, h => by
    unfold setErrG at h
    split at h
    · cases h
    · rename_i hr
      split at h
      · cases h
      · rename_i hq
        obtain ⟨h1, h2, h3⟩ := setErrG_inc h
        refine ⟨fun q hp y hy => ?_, List.Pairwise.cons (h1 x rfl) h2, fun y hy => ?_⟩
        · subst hp
          simp at hq
          rcases List.mem_cons.1 hy with rfl | hy
          · exact hq
          · have := h1 x rfl y hy; omega
        · rcases List.mem_cons.1 hy with rfl | hy
          · omega
          · exact h3 y hy
theorem setErr_inc {l : List Int} {n : Int} (h : setErr l n = 0) : Inc l ∧ ∀ x ∈ l, 0 ≤ x ∧ x < n := ⟨(setErrG_inc h).2.1, (setErrG_inc h).2.2⟩
theorem lexI_self : ∀ l : List Int, lexI l l = 0
  | [] => rfl
  | a :: r => by simp [lexI, lexI_self r]
theorem lexI_end {a b : List Int} {k : Nat} (h : ¬ k < a.length) : lexI (a.drop k) (b.drop k) = 0 := by
  rw [List.drop_of_length_le (by omega)]; cases b.drop k <;> rfl
theorem cmpW_len {a b : List Int} (h : a.length = b.length) : cmpW a b = lexI a b := by unfold cmpW; rw [if_neg (by omega), if_neg (by omega)]
def eqB (a b : List Int) : Bool := decide (a = b)
theorem eq_of_drop {a b : List Int} (hl : a.length = b.length) {k : Nat} (h : a.take k = b.take k) (hk : ¬ k < a.length) : a = b := by
  rw [List.take_of_length_le (by omega), List.take_of_length_le (by omega)] at h; exact h
theorem take_eq_snoc {a b : List Int} {k : Nat} {x : Int} (ha : a[k]? = some x) (hb : b[k]? = some x) (h : a.take k = b.take k) : a.take (k + 1) = b.take (k + 1) := by rw [take_snoc' ha, take_snoc' hb, h]
theorem ne_of_get {a b : List Int} {k : Nat} {x y : Int} (ha : a[k]? = some x) (hb : b[k]? = some y) (h : x ≠ y) : eqB a b = false := by
  unfold eqB; rw [decide_eq_false_iff_not]; rintro rfl; rw [ha] at hb; exact h (by injection hb)
theorem ne_of_len {a b : List Int} (h : a.length ≠ b.length) : eqB a b = false := by
  unfold eqB; rw [decide_eq_false_iff_not]; rintro rfl; exact h rfl
theorem eqB_eq {a b : List Int} (h : eqB a b = true) : a = b := by unfold eqB at h; exact of_decide_eq_true h
theorem eqB_ne {a b : List Int} (h : eqB a b = false) : a ≠ b := by unfold eqB at h; exact of_decide_eq_false h
theorem eqB_of {a b : List Int} (h : a = b) : eqB a b = true := by unfold eqB; rw [decide_eq_true_iff]; exact h
/-- cmp.Compare -/
def cmpI (x y : Int) : Int := if x < y then -1 else if y < x then 1 else 0
theorem lexI_cmp {a b : List Int} {k : Nat} {x y : Int} (ha : a[k]? = some x) (hb : b[k]? = some y) :
    lexI (a.drop k) (b.drop k) = if cmpI x y = 0 then lexI (a.drop (k + 1)) (b.drop (k + 1)) else cmpI x y := by
  rw [lexI_drop ha hb]; unfold cmpI
  split
  · rfl
  · split <;> rfl
/-- slices.Compare -/
def slC : List Int → List Int → Int
  | [], [] => 0
  | [], _ :: _ => -1
  | _ :: _, [] => 1
  | a :: r, b :: s => if cmpI a b = 0 then slC r s else cmpI a b
theorem slC_step {a b : List Int} {k : Nat} {x y : Int} (ha : a[k]? = some x) (hb : b[k]? = some y) :
    slC (a.drop k) (b.drop k) = if cmpI x y = 0 then slC (a.drop (k + 1)) (b.drop (k + 1)) else cmpI x y := by
  rw [drop_cons' ha, drop_cons' hb]; rfl
theorem slC_longer {a b : List Int} {k : Nat} {x : Int} (ha : a[k]? = some x) (hb : ¬ k < b.length) : slC (a.drop k) (b.drop k) = 1 := by
  rw [drop_cons' ha, show b.drop k = [] from List.drop_of_length_le (by omega)]; rfl
theorem slC_shorter {a b : List Int} {k : Nat} (ha : ¬ k < a.length) (hb : k < b.length) : slC (a.drop k) (b.drop k) = -1 := by
  rw [show a.drop k = [] from List.drop_of_length_le (by omega), drop_cons' (List.getElem?_eq_getElem hb)]; rfl
theorem slC_both {a b : List Int} {k : Nat} (ha : ¬ k < a.length) (hb : ¬ k < b.length) : slC (a.drop k) (b.drop k) = 0 := by
  rw [show a.drop k = [] from List.drop_of_length_le (by omega), show b.drop k = [] from List.drop_of_length_le (by omega)]; rfl
theorem slC_lex : ∀ {a b : List Int}, a.length = b.length → slC a b = lexI a b
  | [], [], _ => rfl
  | [], _ :: _, h => by simp at h
  | _ :: _, [], h => by simp at h
  | x :: r, y :: s, h => by
    have ih := slC_lex (a := r) (b := s) (by simpa using h)
    unfold slC lexI
    rw [ih]; unfold cmpI
    split
    · rfl
    · split <;> rfl
def orI (x y : Int) : Int := if x ≠ 0 then x else y
theorem cmpW_or (a b : List Int) : orI (cmpI a.length b.length) (slC a b) = cmpW a b := by
  unfold orI cmpW cmpI
  by_cases h1 : a.length < b.length
  · simp [h1]
  · by_cases h2 : b.length < a.length
    · simp [h1, h2]
    · simp [h1, h2]; exact slC_lex (by omega)
theorem cmpI_range (x y : Int) : cmpI x y = -1 ∨ cmpI x y = 0 ∨ cmpI x y = 1 := by
  unfold cmpI; split
  · exact .inl rfl
  · split
    · exact .inr (.inr rfl)
    · exact .inr (.inl rfl)
/-- the search's loop: below i all are less, from j on none is -/
theorem bs_found {l : List Int} (hs : Inc l) {i : Nat} {x : Int} (h1 : ∀ k y, k < i → l[k]? = some y → y < x) (h2 : ∀ k y, i ≤ k → l[k]? = some y → x ≤ y) : hasB l x = (l[i]? == some x) := by
  rw [Bool.eq_iff_iff, hasB_mem, beq_iff_eq]
  constructor
  · intro hm
    obtain ⟨k, hk, he⟩ := List.mem_iff_getElem.1 hm
    have hg : l[k]? = some x := by rw [List.getElem?_eq_getElem hk, he]
    rcases Nat.lt_trichotomy k i with h | h | h
    · have := h1 k x h hg; omega
    · rw [← h]; exact hg
    · have hi : i < l.length := by omega
      have hle := h2 i _ (Nat.le_refl _) (List.getElem?_eq_getElem hi)
      have hlt : l[i] < l[k] := (List.pairwise_iff_getElem.1 hs) i k hi hk h
      omega
  · exact fun h => List.mem_of_getElem? h
theorem inc_get {l : List Int} (hs : Inc l) {i k : Nat} {x y : Int} (hi : l[i]? = some x) (hk : l[k]? = some y) (h : i ≤ k) : x ≤ y := by
  obtain ⟨hi', rfl⟩ := List.getElem?_eq_some_iff.1 hi
  obtain ⟨hk', rfl⟩ := List.getElem?_eq_some_iff.1 hk
  rcases Nat.lt_or_ge i k with hlt | hge
  · exact Int.le_of_lt ((List.pairwise_iff_getElem.1 hs) i k hi' hk' hlt)
  · have : i = k := by omega
    subst this; exact Int.le_refl _
def LoB (l : List Int) (x : Int) (i : Nat) : Prop := ∀ k y, k < i → l[k]? = some y → y < x
def HiB (l : List Int) (x : Int) (i : Nat) : Prop := ∀ k y, i ≤ k → l[k]? = some y → x ≤ y
theorem LoB.up {l : List Int} (hs : Inc l) {x y : Int} {h : Nat} (hy : l[h]? = some y) (hlt : y < x) : LoB l x (h + 1) := fun k z hk hz => by
  have := inc_get hs hz hy (by omega); omega
theorem HiB.down {l : List Int} (hs : Inc l) {x y : Int} {h : Nat} (hy : l[h]? = some y) (hge : ¬ y < x) : HiB l x h := fun k z hk hz => by
  have := inc_get hs hy hz hk; omega
theorem bs_some {l : List Int} (hs : Inc l) {i : Nat} {x y : Int} (h1 : LoB l x i) (h2 : HiB l x i) (hy : l[i]? = some y) : hasB l x = (y == x) := by
  rw [bs_found hs h1 h2, hy]; rfl
theorem bs_none {l : List Int} (hs : Inc l) {i : Nat} {x : Int} (h1 : LoB l x i) (h2 : HiB l x i) (hi : ¬ i < l.length) : hasB l x = false := by
  rw [bs_found hs h1 h2, List.getElem?_eq_none (by omega)]; rfl
theorem lexI_zero : ∀ {a b : List Int}, a.length = b.length → lexI a b = 0 → a = b
  | [], [], _, _ => rfl
  | [], _ :: _, h, _ => by simp at h
  | _ :: _, [], h, _ => by simp at h
  | x :: r, y :: s, h, h0 => by
    unfold lexI at h0
    split at h0
    · cases h0
    · split at h0
      · cases h0
      · have hxy : x = y := by omega
        rw [hxy, lexI_zero (by simpa using h) h0]
theorem cmpW_zero (a b : List Int) : (cmpW a b == 0) = eqB a b := by
  unfold eqB
  rw [Bool.eq_iff_iff, beq_iff_eq, decide_eq_true_iff]
  constructor
  · intro h
    unfold cmpW at h
    split at h
    · cases h
    · split at h
      · cases h
      · exact lexI_zero (by omega) h
  · rintro rfl
    rw [cmpW_len rfl, lexI_self]
/-- the first place at which p holds, or -1 -/
def idxI (p : Int → Bool) : List Int → Int
  | [] => -1
  | x :: r => if p x then 0 else if idxI p r < 0 then -1 else idxI p r + 1
theorem idxI_range (p : Int → Bool) : ∀ l : List Int, -1 ≤ idxI p l ∧ idxI p l < l.length
  | [] => by simp [idxI]
  | x :: r => by
    have := idxI_range p r
    unfold idxI
    simp only [List.length_cons]
    split
    · omega
    · split <;> omega
theorem idxI_any (p : Int → Bool) : ∀ l : List Int, decide (0 ≤ idxI p l) = l.any p
  | [] => by simp [idxI]
  | x :: r => by
    have ih := idxI_any p r
    unfold idxI
    by_cases hp : p x = true
    · simp [hp]
    · simp only [Bool.not_eq_true] at hp
      simp only [hp, List.any_cons, Bool.false_or, Bool.false_eq_true, if_false]
      rw [← ih]
      split <;> simp <;> omega
def noneB (p : Int → Bool) (l : List Int) : Prop := l.any p = false
theorem noneB_nil (p : Int → Bool) : noneB p [] := rfl
theorem noneB_step {p : Int → Bool} {l : List Int} {k : Nat} {x : Int} (h : l[k]? = some x) (hn : noneB p (l.take k)) (hx : p x = false) : noneB p (l.take (k + 1)) := by
  unfold noneB at *
  rw [take_snoc' h, List.any_append, hn]; simp [hx]
theorem idxI_at {p : Int → Bool} : ∀ {l : List Int} {k : Nat} {x : Int}, l[k]? = some x → noneB p (l.take k) → p x = true → idxI p l = k
  | [], k, x, h, _, _ => by simp at h
  | y :: r, 0, x, h, _, hx => by
    simp at h; subst h
    simp [idxI, hx]
  | y :: r, k + 1, x, h, hn, hx => by
    unfold noneB at hn
    simp only [List.take_succ_cons, List.any_cons, Bool.or_eq_false_iff] at hn
    have ih := idxI_at (p := p) (l := r) (k := k) (x := x) (by simpa using h) hn.2 hx
    unfold idxI
    rw [hn.1, ih, if_neg (by simp), if_neg (by omega)]
    omega
theorem idxI_no {p : Int → Bool} : ∀ {l : List Int}, noneB p l → idxI p l = -1
  | [], _ => rfl
  | y :: r, hn => by
    unfold noneB at hn
    simp only [List.any_cons, Bool.or_eq_false_iff] at hn
    unfold idxI
    rw [hn.1, idxI_no (p := p) (l := r) hn.2, if_neg (by simp), if_pos (by omega)]
theorem idxI_end {p : Int → Bool} {l : List Int} {k : Nat} (hn : noneB p (l.take k)) (h : ¬ k < l.length) : idxI p l = -1 := by
  rw [take_all' h] at hn; exact idxI_no hn
def badB (w set : List Int) : Bool := w.any (fun x => !hasB set x)
/-- a word's first fault over a set -/
def chkW (w set : List Int) : Int := if setErr set 32 ≠ 0 then setErr set 32 else if 4096 < w.length then 3 else if badB w set then 2 else 0
theorem chkW_set {w set : List Int} (h : setErr set 32 ≠ 0) : chkW w set = setErr set 32 := if_pos h
theorem chkW_long {w set : List Int} (h : setErr set 32 = 0) (hl : 4096 < w.length) : chkW w set = 3 := by unfold chkW; rw [if_neg (by simpa using h), if_pos hl]
theorem chkW_bad {w set : List Int} (h : setErr set 32 = 0) (hl : ¬ 4096 < w.length) (hb : badB w set = true) : chkW w set = 2 := by unfold chkW; rw [if_neg (by simpa using h), if_neg hl, if_pos hb]
theorem chkW_ok {w set : List Int} (h : setErr set 32 = 0) (hl : ¬ 4096 < w.length) (hb : badB w set = false) : chkW w set = 0 := by unfold chkW; rw [if_neg (by simpa using h), if_neg hl, hb]; rfl
theorem any_hit {p : Int → Bool} {l : List Int} {k : Nat} {x : Int} (h : l[k]? = some x) (hx : p x = true) : l.any p = true := by
  rw [List.any_eq_true]; exact ⟨x, List.mem_of_getElem? h, hx⟩
theorem noneB_end {p : Int → Bool} {l : List Int} {k : Nat} (hn : noneB p (l.take k)) (h : ¬ k < l.length) : l.any p = false := by rw [take_all' h] at hn; exact hn
/-- projection -/
def projW (w set : List Int) : List Int := w.filter (fun x => hasB set x)
theorem projW_keep {w set : List Int} {k : Nat} {x : Int} (h : w[k]? = some x) (hx : hasB set x = true) : projW (w.take (k + 1)) set = projW (w.take k) set ++ [x] := by
  unfold projW; rw [take_snoc' h, List.filter_append]; simp [hx]
theorem projW_drop {w set : List Int} {k : Nat} {x : Int} (h : w[k]? = some x) (hx : hasB set x = false) : projW (w.take (k + 1)) set = projW (w.take k) set := by
  unfold projW; rw [take_snoc' h, List.filter_append]; simp [hx]
theorem projW_le (w set : List Int) (k : Nat) : (projW (w.take k) set).length ≤ k := Nat.le_trans (List.length_filter_le _ _) (List.length_take_le _ _)
theorem projW_end {w set : List Int} {k : Nat} (h : ¬ k < w.length) : projW (w.take k) set = projW w set := by rw [take_all' h]
/-- bytes as small events -/
def wordB (l : List Int) (n : Nat) : List Int := (l.take n).map (· % 5)
theorem wordB_snoc {l : List Int} {k : Nat} {x : Int} (h : l[k]? = some x) : wordB l (k + 1) = wordB l k ++ [x % 5] := by
  unfold wordB; rw [take_snoc' h]; simp
theorem wordB_le (l : List Int) (k : Nat) : (wordB l k).length ≤ k := by unfold wordB; rw [List.length_map]; exact List.length_take_le _ _
theorem wordB_end {l : List Int} {k n : Nat} (hk : k ≤ n) (h : ¬ k < l.length) : wordB l k = wordB l n := by
  unfold wordB; rw [take_all' h, List.take_of_length_le (by omega)]
/-- bit i of a byte; the set that the lowest k bits choose -/
def bitB (x : Int) (i : Nat) : Bool := x / 2 ^ i % 2 == 1
def setB (x : Int) : Nat → List Int
  | 0 => []
  | k + 1 => if bitB x k then setB x k ++ [(k : Int)] else setB x k
theorem setB_yes {x : Int} {k : Nat} (h : bitB x k = true) : setB x (k + 1) = setB x k ++ [(k : Int)] := by rw [setB, if_pos h]
theorem setB_no {x : Int} {k : Nat} (h : bitB x k = false) : setB x (k + 1) = setB x k := by rw [setB, if_neg (by simp [h])]
theorem setB_le (x : Int) : ∀ k, (setB x k).length ≤ k
  | 0 => by simp [setB]
  | k + 1 => by
    have := setB_le x k
    rw [setB]; split
    · simp; omega
    · omega
theorem setB_mem {x y : Int} : ∀ {k : Nat}, y ∈ setB x k ↔ ∃ i : Nat, i < k ∧ y = i ∧ bitB x i = true
  | 0 => by simp [setB]
  | k + 1 => by
    have ih := setB_mem (x := x) (y := y) (k := k)
    rw [setB]
    split
    · rename_i h
      rw [List.mem_append, ih, List.mem_singleton]
      constructor
      · rintro (⟨i, h1, h2, h3⟩ | h1)
        · exact ⟨i, by omega, h2, h3⟩
        · exact ⟨k, by omega, h1, h⟩
      · rintro ⟨i, h1, h2, h3⟩
        by_cases hik : i = k
        · exact .inr (by rw [h2, hik])
        · exact .inl ⟨i, by omega, h2, h3⟩
    · rename_i h
      rw [ih]
      constructor
      · rintro ⟨i, h1, h2, h3⟩
        exact ⟨i, by omega, h2, h3⟩
      · rintro ⟨i, h1, h2, h3⟩
        by_cases hik : i = k
        · rw [hik] at h3; exact absurd h3 h
        · exact ⟨i, by omega, h2, h3⟩
theorem setB_inc (x : Int) : ∀ k, Inc (setB x k)
  | 0 => List.Pairwise.nil
  | k + 1 => by
    have ih := setB_inc x k
    rw [setB]; split
    · refine List.pairwise_append.2 ⟨ih, List.pairwise_singleton _ _, fun a ha b hb => ?_⟩
      obtain ⟨i, h1, h2, _⟩ := setB_mem.1 ha
      simp at hb; omega
    · exact ih
theorem flat_snoc {α β : Type} (f : α → List β) {l : List α} {k : Nat} {x : α} (h : l[k]? = some x) : (l.take (k + 1)).flatMap f = (l.take k).flatMap f ++ f x := by
  rw [take_snoc' h, List.flatMap_append]; simp
theorem flat_le {α β : Type} (f : α → List β) (l : List α) (k : Nat) : ((l.take k).flatMap f).length ≤ (l.flatMap f).length := by
  conv => rhs; rw [← List.take_append_drop k l, List.flatMap_append, List.length_append]
  omega
theorem flat_step_le {α β : Type} (f : α → List β) {l : List α} {k : Nat} {x : α} (h : l[k]? = some x) : ((l.take k).flatMap f).length + (f x).length ≤ (l.flatMap f).length := by
  have := flat_le f l (k + 1)
  rw [flat_snoc f h, List.length_append] at this
  exact this
/-- all ways in which two words run side by side -/
def shufN : Nat → List Int → List Int → List Int → List (List Int)
  | n + 1, g, x :: a, y :: b => shufN n (g ++ [x]) a (y :: b) ++ shufN n (g ++ [y]) (x :: a) b
  | _, g, a, b => [g ++ a ++ b]
theorem shufN_nil {n : Nat} {g a b : List Int} (h : a.length = 0 ∨ b.length = 0) : shufN n g a b = [g ++ a ++ b] := by
  cases n <;> cases a <;> cases b <;> simp_all [shufN]
theorem shufN_cons {n : Nat} {g a b : List Int} {x y : Int} (ha : a[0]? = some x) (hb : b[0]? = some y) : shufN (n + 1) g a b = shufN n (g ++ [x]) (a.drop 1) b ++ shufN n (g ++ [y]) a (b.drop 1) := by
  cases a <;> cases b <;> simp_all [shufN]
theorem shufN_le : ∀ (n : Nat) (g a b : List Int), (shufN n g a b).length ≤ 2 ^ n
  | 0, g, a, b => by simp [shufN]
  | n + 1, g, a, b => by
    have p : 0 < 2 ^ n := Nat.two_pow_pos n
    cases a with
    | nil => simp [shufN]; omega
    | cons x a =>
      cases b with
      | nil => simp [shufN]; omega
      | cons y b =>
        have h1 := shufN_le n (g ++ [x]) a (y :: b)
        have h2 := shufN_le n (g ++ [y]) (x :: a) b
        simp only [shufN, List.length_append]
        omega
/-- neighbours that are equal (by f) made one -/
def cptG {α : Type} (f : α → List Int) : Option (List Int) → List α → List α
  | _, [] => []
  | p, x :: r => if p = some (f x) then cptG f (some (f x)) r else x :: cptG f (some (f x)) r
def cpt {α : Type} (f : α → List Int) (l : List α) : List α := cptG f none l
def lastOf {α : Type} (f : α → List Int) (p : Option (List Int)) (l : List α) : Option (List Int) := match l.getLast? with | some y => some (f y) | none => p
theorem cptG_snoc {α : Type} (f : α → List Int) : ∀ (p : Option (List Int)) (l : List α) (x : α), cptG f p (l ++ [x]) = cptG f p l ++ (if lastOf f p l = some (f x) then [] else [x])
  | p, [], x => by
    by_cases h : p = some (f x) <;> simp [cptG, lastOf, h]
  | p, y :: r, x => by
    have ih := cptG_snoc f (some (f y)) r x
    have hl : lastOf f (some (f y)) r = lastOf f p (y :: r) := by
      unfold lastOf
      cases r with
      | nil => simp
      | cons z r =>
        rw [List.getLast?_cons_cons, List.getLast?_eq_some_getLast (List.cons_ne_nil z r)]
    simp only [List.cons_append, cptG]
    rw [ih, hl]
    split <;> simp
theorem cpt_snoc {α : Type} (f : α → List Int) {l : List α} {k : Nat} {x y : α} (hx : l[k + 1]? = some x) (hy : l[k]? = some y) : cpt f (l.take (k + 1 + 1)) = cpt f (l.take (k + 1)) ++ (if f y = f x then [] else [x]) := by
  rw [take_snoc' hx]
  unfold cpt
  rw [cptG_snoc]
  congr 1
  have : lastOf f none (l.take (k + 1)) = some (f y) := by rw [take_snoc' hy]; simp [lastOf]
  rw [this]
  simp
theorem cpt_same {α : Type} (f : α → List Int) {l : List α} {k : Nat} {x y : α} (hx : l[k + 1]? = some x) (hy : l[k]? = some y) (h : f y = f x) : cpt f (l.take (k + 1 + 1)) = cpt f (l.take (k + 1)) := by rw [cpt_snoc f hx hy, if_pos h, List.append_nil]
theorem cpt_keep {α : Type} (f : α → List Int) {l : List α} {k : Nat} {x y : α} (hx : l[k + 1]? = some x) (hy : l[k]? = some y) (h : f y ≠ f x) : cpt f (l.take (k + 1 + 1)) = cpt f (l.take (k + 1)) ++ [x] := by rw [cpt_snoc f hx hy, if_neg h]
theorem cptG_le {α : Type} (f : α → List Int) : ∀ (p : Option (List Int)) (l : List α), (cptG f p l).length ≤ l.length
  | _, [] => by simp [cptG]
  | p, x :: r => by
    have := cptG_le f (some (f x)) r
    simp only [cptG, List.length_cons]
    split
    · omega
    · simp; omega
theorem cpt_le {α : Type} (f : α → List Int) (l : List α) (k : Nat) : (cpt f (l.take k)).length ≤ k := Nat.le_trans (cptG_le f none _) (List.length_take_le _ _)
theorem cpt_one {α : Type} (f : α → List Int) (x : α) : cpt f [x] = [x] := by simp [cpt, cptG]
theorem set_take {α : Type} (l : List α) (i : Nat) (x : α) (h : i < l.length) : (l.set i x).take (i + 1) = l.take i ++ [x] := by
  rw [List.take_succ_eq_append_getElem (by simpa using h)]
  simp [List.take_set_of_le]
theorem set_drop {α : Type} (l : List α) (i : Nat) (x : α) : (l.set i x).drop (i + 1) = l.drop (i + 1) := by
  rw [List.drop_set_of_lt (by omega)]
end Go.Proofs.YtbdliebjalghmaaDoor
