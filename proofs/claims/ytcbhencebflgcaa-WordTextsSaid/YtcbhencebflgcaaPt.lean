/- Plain laws, ninth text: texts of words, and how they are read. -/
import Derived.Test.YtcbhencebflgcaaPl
namespace Go.Proofs.Ytcbhencebflgcaa

/-- the first place of a name, or -1 -/
def fnd : List ByteArray → ByteArray → Int
  | [], _ => -1
  | a :: r, s => if a = s then 0 else if fnd r s < 0 then -1 else fnd r s + 1
/-- the bytes up to the next blank -/
def tok (r : List UInt8) : List UInt8 := r.takeWhile (fun c => !(c == 32))
def nameOf (r : List UInt8) : ByteArray := ⟨(tok r).toArray⟩
/-- word.Parse: what is left of the text, the place, the word so far -/
def prs (names : List ByteArray) : Nat → List UInt8 → Nat → List Int → List Int × Int × Int
  | 0, _, _, acc => (acc, 0, 0)
  | _ + 1, [], _, acc => (acc, 0, 0)
  | n + 1, c :: r, p, acc => if c = 32 then prs names n r (p + 1) acc
      else if fnd names (nameOf (c :: r)) < 0 then ([], p, 9) else prs names n ((c :: r).drop (tok (c :: r)).length) (p + (tok (c :: r)).length) (acc ++ [fnd names (nameOf (c :: r))])
/-- the reference's Parse: the byte before, what is left -/
def rfs (names : List ByteArray) : Bool → List UInt8 → Nat → List Int → List Int × Int × Int
  | _, [], _, acc => (acc, 0, 0)
  | inside, c :: r, p, acc => if c = 32 then rfs names false r (p + 1) acc
      else if inside then rfs names true r (p + 1) acc
      else if fnd names (nameOf (c :: r)) < 0 then ([], p, 9) else rfs names true r (p + 1) (acc ++ [fnd names (nameOf (c :: r))])
theorem rfs_skip (names : List ByteArray) : ∀ (r : List UInt8) (p : Nat) (acc : List Int), rfs names true r p acc = rfs names false (r.drop (tok r).length) (p + (tok r).length) acc
  | [], p, acc => by simp [tok, rfs]
  | c :: r, p, acc => by
    have ih := rfs_skip names r (p + 1) acc
    by_cases hc : c = 32
    · subst hc
      simp [tok, rfs]
    · have ht : tok (c :: r) = c :: tok r := by simp [tok, hc]
      rw [ht]
      simp only [List.length_cons, List.drop_succ_cons]
      rw [show p + ((tok r).length + 1) = p + 1 + (tok r).length by omega, ← ih]
      simp [rfs, hc]
theorem prs_rfs (names : List ByteArray) : ∀ (n : Nat) (r : List UInt8) (p : Nat) (acc : List Int), r.length ≤ n → prs names n r p acc = rfs names false r p acc
  | 0, r, p, acc, h => by
    obtain rfl := List.eq_nil_of_length_eq_zero (by omega : r.length = 0)
    rfl
  | n + 1, [], p, acc, h => rfl
  | n + 1, c :: r, p, acc, h => by
    by_cases hc : c = 32
    · subst hc
      simp only [prs, rfs, if_true]
      exact prs_rfs names n r (p + 1) acc (by simp at h; omega)
    · have ht : tok (c :: r) = c :: tok r := by simp [tok, hc]
      simp only [prs, rfs, if_neg hc, Bool.false_eq_true, if_false]
      split
      · rfl
      · rw [rfs_skip names r (p + 1)]
        rw [ht]
        simp only [List.length_cons, List.drop_succ_cons]
        rw [show p + ((tok r).length + 1) = p + 1 + (tok r).length by omega]
        exact prs_rfs names n _ _ _ (by simp at h ⊢; omega)
/-- names with blanks between -/
def joinN : List (List UInt8) → List UInt8
  | [] => []
  | [a] => a
  | a :: b :: r => a ++ 32 :: joinN (b :: r)
theorem tok_join {a rest : List UInt8} (h : ∀ c ∈ a, c ≠ 32) (hr : rest = [] ∨ ∃ t, rest = 32 :: t) : tok (a ++ rest) = a := by
  induction a with
  | nil =>
    rcases hr with rfl | ⟨t, rfl⟩
    · rfl
    · simp [tok]
  | cons c a ih =>
    have hc := h c (List.mem_cons_self ..)
    have := ih (fun d hd => h d (List.mem_cons_of_mem _ hd))
    unfold tok at this ⊢
    simp [hc, this]
theorem fnd_at : ∀ {names : List ByteArray} {k : Nat} {s : ByteArray}, names.Nodup → names[k]? = some s → fnd names s = k
  | [], k, s, _, h => by simp at h
  | a :: r, 0, s, _, h => by
    simp at h; subst h; simp [fnd]
  | a :: r, k + 1, s, hn, h => by
    obtain ⟨h1, h2⟩ := List.nodup_cons.1 hn
    have h' : r[k]? = some s := by simpa using h
    have ih := fnd_at h2 h'
    have hne : a ≠ s := by rintro rfl; exact h1 (List.mem_of_getElem? h')
    unfold fnd
    rw [if_neg hne, ih, if_neg (by omega)]
    omega
/-- What is joined is read back. -/
theorem prs_join (names : List ByteArray) (hn : names.Nodup) (hs : ∀ s ∈ names, s.data.toList ≠ [] ∧ ∀ c ∈ s.data.toList, c ≠ 32) :
    ∀ (w : List Nat) (bs : List ByteArray) (n p : Nat) (acc : List Int), w.map (fun k => names[k]?) = bs.map some → (joinN (bs.map (·.data.toList))).length ≤ n → prs names n (joinN (bs.map (·.data.toList))) p acc = (acc ++ w.map (fun k : Nat => (k : Int)), 0, 0)
  | [], bs, n, p, acc, hw, _ => by
    cases bs with
    | nil => cases n <;> simp [joinN, prs]
    | cons b bs => simp at hw
  | k :: w, [], n, p, acc, hw, _ => by simp at hw
  | k :: w, b :: bs, n, p, acc, hw, hl => by
    simp only [List.map_cons, List.cons.injEq] at hw
    obtain ⟨hk, hw⟩ := hw
    have hb := hs b (List.mem_of_getElem? hk)
    have hf := fnd_at hn hk
    have core : ∀ rest : List UInt8, (rest = [] ∨ ∃ t, rest = 32 :: t) → ∀ m, (b.data.toList ++ rest).length ≤ m + 1 → prs names (m + 1) (b.data.toList ++ rest) p acc = prs names m rest (p + b.data.toList.length) (acc ++ [(k : Int)]) := by
      intro rest hr m hm
      have ht := tok_join hb.2 hr
      have hne := hb.1
      have hnm : nameOf (b.data.toList ++ rest) = b := by unfold nameOf; rw [ht]
      cases hbl : b.data.toList with
      | nil => exact absurd hbl hne
      | cons c t =>
        have hc : c ≠ 32 := hb.2 c (by rw [hbl]; exact List.mem_cons_self ..)
        rw [hbl] at ht hnm
        simp only [List.cons_append] at ht hnm ⊢
        rw [prs, if_neg hc, hnm, hf, if_neg (by omega), ht]
        simp
    have hlen : 0 < b.data.toList.length := by
      rcases Nat.eq_zero_or_pos b.data.toList.length with h | h
      · exact absurd (List.eq_nil_of_length_eq_zero h) hb.1
      · exact h
    cases bs with
    | nil =>
      have hw0 : w = [] := by cases w with | nil => rfl | cons a b => simp at hw
      subst hw0
      simp only [List.map_cons, List.map_nil, joinN] at hl ⊢
      obtain ⟨m, rfl⟩ : ∃ m, n = m + 1 := ⟨n - 1, by omega⟩
      have := core [] (.inl rfl) m (by simpa using hl)
      simp only [List.append_nil] at this
      rw [this]
      cases m <;> simp [prs]
    | cons b2 bs =>
      simp only [List.map_cons, joinN] at hl ⊢
      have hl0 := hl
      rw [List.length_append, List.length_cons] at hl0
      obtain ⟨m, rfl⟩ : ∃ m, n = m + 1 := ⟨n - 1, by omega⟩
      rw [core _ (.inr ⟨_, rfl⟩) m hl]
      obtain ⟨m', rfl⟩ : ∃ m', m = m' + 1 := ⟨m - 1, by omega⟩
      rw [prs, if_pos rfl]
      have ih := prs_join names hn hs w (b2 :: bs) m' (p + b.data.toList.length + 1) (acc ++ [(k : Int)]) hw (by simp only [List.map_cons]; omega)
      simp only [List.map_cons] at ih
      rw [ih]
      simp
end Go.Proofs.Ytcbhencebflgcaa
