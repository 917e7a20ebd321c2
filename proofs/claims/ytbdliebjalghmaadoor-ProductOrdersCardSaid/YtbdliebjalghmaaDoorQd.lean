/- Plain laws on products: the union of alphabets, the step of a tuple. -/
import Derived.Test.YtbdliebjalghmaaDoorQc
namespace Go.Proofs.YtbdliebjalghmaaDoor

/-- two sets merged -/
def mrgN : Nat → List Int → List Int → List Int
  | 0, _, _ => []
  | _ + 1, [], [] => []
  | n + 1, x :: a, [] => x :: mrgN n a []
  | n + 1, [], y :: b => y :: mrgN n [] b
  | n + 1, x :: a, y :: b => if x < y then x :: mrgN n a (y :: b) else if y < x then y :: mrgN n (x :: a) b else x :: mrgN n a b
def mrg (a b : List Int) : List Int := mrgN (a.length + b.length) a b
theorem mrgN_fuel : ∀ (n m : Nat) (a b : List Int), a.length + b.length ≤ n → a.length + b.length ≤ m → mrgN n a b = mrgN m a b
  | 0, m, a, b, h, _ => by
    obtain rfl := List.eq_nil_of_length_eq_zero (by omega : a.length = 0)
    obtain rfl := List.eq_nil_of_length_eq_zero (by omega : b.length = 0)
    cases m <;> rfl
  | n + 1, 0, a, b, _, h => by
    obtain rfl := List.eq_nil_of_length_eq_zero (by omega : a.length = 0)
    obtain rfl := List.eq_nil_of_length_eq_zero (by omega : b.length = 0)
    rfl
  | n + 1, m + 1, [], [], _, _ => rfl
  | n + 1, m + 1, x :: a, [], h1, h2 => by simp only [mrgN]; rw [mrgN_fuel n m a [] (by simp at h1 ⊢; omega) (by simp at h2 ⊢; omega)]
  | n + 1, m + 1, [], y :: b, h1, h2 => by simp only [mrgN]; rw [mrgN_fuel n m [] b (by simp at h1 ⊢; omega) (by simp at h2 ⊢; omega)]
  | n + 1, m + 1, x :: a, y :: b, h1, h2 => by
    simp only [mrgN]
    simp at h1 h2
    rw [mrgN_fuel n m a (y :: b) (by simp; omega) (by simp; omega), mrgN_fuel n m (x :: a) b (by simp; omega) (by simp; omega), mrgN_fuel n m a b (by omega) (by omega)]
section
variable {a b : List Int} {i j n : Nat} {x y : Int}
theorem mrgN_a (ha : a[i]? = some x) (hb : ¬ j < b.length) : mrgN (n + 1) (a.drop i) (b.drop j) = x :: mrgN n (a.drop (i + 1)) (b.drop j) := by
  rw [drop_cons' ha, List.drop_of_length_le (by omega : b.length ≤ j)]; rfl
theorem mrgN_b (ha : ¬ i < a.length) (hb : b[j]? = some y) : mrgN (n + 1) (a.drop i) (b.drop j) = y :: mrgN n (a.drop i) (b.drop (j + 1)) := by
  rw [drop_cons' hb, List.drop_of_length_le (by omega : a.length ≤ i)]; rfl
theorem mrgN_lt (ha : a[i]? = some x) (hb : b[j]? = some y) (h : x < y) : mrgN (n + 1) (a.drop i) (b.drop j) = x :: mrgN n (a.drop (i + 1)) (b.drop j) := by
  rw [drop_cons' ha, drop_cons' hb, mrgN, if_pos h]
theorem mrgN_gt (ha : a[i]? = some x) (hb : b[j]? = some y) (h : y < x) : mrgN (n + 1) (a.drop i) (b.drop j) = y :: mrgN n (a.drop i) (b.drop (j + 1)) := by
  rw [drop_cons' ha, drop_cons' hb, mrgN, if_neg (by omega), if_pos h]
theorem mrgN_eq (ha : a[i]? = some x) (hb : b[j]? = some x) : mrgN (n + 1) (a.drop i) (b.drop j) = x :: mrgN n (a.drop (i + 1)) (b.drop (j + 1)) := by
  rw [drop_cons' ha, drop_cons' hb, mrgN, if_neg (by omega), if_neg (by omega)]
theorem mrgN_end (ha : ¬ i < a.length) (hb : ¬ j < b.length) : mrgN n (a.drop i) (b.drop j) = [] := by
  rw [List.drop_of_length_le (by omega : a.length ≤ i), List.drop_of_length_le (by omega : b.length ≤ j)]
  cases n <;> rfl
end
theorem mrgN_mem {z : Int} : ∀ {n : Nat} {a b : List Int}, a.length + b.length ≤ n → (z ∈ mrgN n a b ↔ z ∈ a ∨ z ∈ b)
  | 0, a, b, h => by
    obtain rfl := List.eq_nil_of_length_eq_zero (by omega : a.length = 0)
    obtain rfl := List.eq_nil_of_length_eq_zero (by omega : b.length = 0)
    simp [mrgN]
  | n + 1, [], [], _ => by simp [mrgN]
  | n + 1, x :: a, [], h => by
    have := mrgN_mem (z := z) (n := n) (a := a) (b := []) (by simp at h ⊢; omega)
    simp only [mrgN, List.mem_cons, this, or_assoc]
  | n + 1, [], y :: b, h => by
    have := mrgN_mem (z := z) (n := n) (a := []) (b := b) (by simp at h ⊢; omega)
    simp only [mrgN, List.mem_cons, this, List.not_mem_nil, false_or]
  | n + 1, x :: a, y :: b, h => by
    simp at h
    simp only [mrgN]
    split
    · rw [List.mem_cons, mrgN_mem (by simp; omega), List.mem_cons, List.mem_cons, or_assoc]
    · split
      · rw [List.mem_cons, mrgN_mem (by simp; omega), List.mem_cons, List.mem_cons]
        constructor
        · rintro (h | h | h)
          · exact .inr (.inl h)
          · exact .inl h
          · exact .inr (.inr h)
        · rintro (h | h | h)
          · exact .inr (.inl h)
          · exact .inl h
          · exact .inr (.inr h)
      · have hxy : x = y := by omega
        subst hxy
        rw [List.mem_cons, mrgN_mem (by omega), List.mem_cons, List.mem_cons]
        constructor
        · rintro (h | h | h)
          · exact .inl (.inl h)
          · exact .inl (.inr h)
          · exact .inr (.inr h)
        · rintro ((h | h) | (h | h))
          · exact .inl h
          · exact .inr (.inl h)
          · exact .inl h
          · exact .inr (.inr h)
theorem mrg_mem {a b : List Int} {z : Int} : z ∈ mrg a b ↔ z ∈ a ∨ z ∈ b := mrgN_mem (Nat.le_refl _)
theorem mrgN_inc : ∀ {n : Nat} {a b : List Int}, a.length + b.length ≤ n → Inc a → Inc b → Inc (mrgN n a b)
  | 0, a, b, _, _, _ => List.Pairwise.nil
  | n + 1, [], [], _, _, _ => List.Pairwise.nil
  | n + 1, x :: a, [], h, h1, h2 => by
    obtain ⟨g1, g2⟩ := List.pairwise_cons.1 h1
    have hl : a.length + ([] : List Int).length ≤ n := by simp at h ⊢; omega
    refine List.pairwise_cons.2 ⟨fun z hz => ?_, mrgN_inc hl g2 h2⟩
    rcases (mrgN_mem hl).1 hz with hz | hz
    · exact g1 z hz
    · simp at hz
  | n + 1, [], y :: b, h, h1, h2 => by
    obtain ⟨g1, g2⟩ := List.pairwise_cons.1 h2
    have hl : ([] : List Int).length + b.length ≤ n := by simp at h ⊢; omega
    refine List.pairwise_cons.2 ⟨fun z hz => ?_, mrgN_inc hl h1 g2⟩
    rcases (mrgN_mem hl).1 hz with hz | hz
    · simp at hz
    · exact g1 z hz
  | n + 1, x :: a, y :: b, h, h1, h2 => by
    obtain ⟨g1, g2⟩ := List.pairwise_cons.1 h1
    obtain ⟨k1, k2⟩ := List.pairwise_cons.1 h2
    simp at h
    unfold mrgN
    split
    · rename_i hxy
      have hl : a.length + (y :: b).length ≤ n := by simp; omega
      refine List.pairwise_cons.2 ⟨fun z hz => ?_, mrgN_inc hl g2 h2⟩
      rcases (mrgN_mem hl).1 hz with hz | hz
      · exact g1 z hz
      · rcases List.mem_cons.1 hz with rfl | hz
        · exact hxy
        · have := k1 z hz; omega
    · split
      · rename_i hxy
        have hl : (x :: a).length + b.length ≤ n := by simp; omega
        refine List.pairwise_cons.2 ⟨fun z hz => ?_, mrgN_inc hl h1 k2⟩
        rcases (mrgN_mem hl).1 hz with hz | hz
        · rcases List.mem_cons.1 hz with rfl | hz
          · exact hxy
          · have := g1 z hz; omega
        · exact k1 z hz
      · have hl : a.length + b.length ≤ n := by omega
        refine List.pairwise_cons.2 ⟨fun z hz => ?_, mrgN_inc hl g2 k2⟩
        rcases (mrgN_mem hl).1 hz with hz | hz
        · exact g1 z hz
        · have := k1 z hz; omega
theorem mrg_inc {a b : List Int} (ha : Inc a) (hb : Inc b) : Inc (mrg a b) := mrgN_inc (Nat.le_refl _) ha hb
theorem mrgN_len : ∀ {n : Nat} {a b : List Int}, (mrgN n a b).length ≤ a.length + b.length
  | 0, a, b => by simp [mrgN]
  | n + 1, [], [] => by simp [mrgN]
  | n + 1, x :: a, [] => by have := mrgN_len (n := n) (a := a) (b := []); simp [mrgN] at this ⊢; omega
  | n + 1, [], y :: b => by have := mrgN_len (n := n) (a := []) (b := b); simp [mrgN] at this ⊢; omega
  | n + 1, x :: a, y :: b => by
    have h1 := mrgN_len (n := n) (a := a) (b := y :: b)
    have h2 := mrgN_len (n := n) (a := x :: a) (b := b)
    have h3 := mrgN_len (n := n) (a := a) (b := b)
    unfold mrgN
    simp at h1 h2 ⊢
    split
    · simp; omega
    · split <;> simp <;> omega
theorem inc_unique : ∀ {l m : List Int}, Inc l → Inc m → (∀ x, x ∈ l ↔ x ∈ m) → l = m
  | [], [], _, _, _ => rfl
  | [], y :: m, _, _, h => by have := (h y).2 (List.mem_cons_self ..); simp at this
  | x :: l, [], _, _, h => by have := (h x).1 (List.mem_cons_self ..); simp at this
  | x :: l, y :: m, hl, hm, h => by
    obtain ⟨h1, h2⟩ := List.pairwise_cons.1 hl
    obtain ⟨h3, h4⟩ := List.pairwise_cons.1 hm
    have hxy : x = y := by
      rcases List.mem_cons.1 ((h x).1 (List.mem_cons_self ..)) with e | e
      · exact e
      · rcases List.mem_cons.1 ((h y).2 (List.mem_cons_self ..)) with e' | e'
        · exact e'.symm
        · have := h1 y e'; have := h3 x e; omega
    subst hxy
    rw [inc_unique h2 h4 fun z => ?_]
    constructor
    · intro hz
      rcases List.mem_cons.1 ((h z).1 (List.mem_cons_of_mem _ hz)) with e | e
      · subst e; have := h1 z hz; omega
      · exact e
    · intro hz
      rcases List.mem_cons.1 ((h z).2 (List.mem_cons_of_mem _ hz)) with e | e
      · subst e; have := h3 z hz; omega
      · exact e
/-- the union of the alphabets -/
def evs (l : List Aut) : List Int := l.foldl (fun o a => mrg o a.al) []
theorem evs_snoc {l : List Aut} {k : Nat} {a : Aut} (h : l[k]? = some a) : evs (l.take (k + 1)) = mrg (evs (l.take k)) a.al := by
  unfold evs; rw [take_snoc' h, List.foldl_append]; rfl
theorem evsG_mem {z : Int} : ∀ (l : List Aut) (o : List Int), z ∈ l.foldl (fun o a => mrg o a.al) o ↔ z ∈ o ∨ ∃ a ∈ l, z ∈ a.al
  | [], _ => by simp
  | a :: l, o => by
    rw [List.foldl_cons, evsG_mem l, mrg_mem]
    simp only [List.mem_cons, exists_eq_or_imp, or_assoc]
theorem evs_mem {l : List Aut} {z : Int} : z ∈ evs l ↔ ∃ a ∈ l, z ∈ a.al := by
  unfold evs; rw [evsG_mem]; simp
theorem evsG_inc : ∀ (l : List Aut) (o : List Int), Inc o → (∀ a ∈ l, Inc a.al) → Inc (l.foldl (fun o a => mrg o a.al) o)
  | [], _, h, _ => h
  | a :: l, _, h, h2 => evsG_inc l _ (mrg_inc h (h2 a (List.mem_cons_self ..))) (fun b hb => h2 b (List.mem_cons_of_mem _ hb))
theorem evs_inc {l : List Aut} (h : ∀ a ∈ l, Inc a.al) : Inc (evs l) := evsG_inc l [] List.Pairwise.nil h

/-- does an automaton refuse an event in a state? where does it go? -/
def rf (a : Aut) (s v : Int) : Bool := hasB a.al v && decide (nxt a s v < 0)
def mv (a : Aut) (s v : Int) : Int := if hasB a.al v = true then nxt a s v else s
def rfB : List Aut → List Int → Int → Bool
  | a :: l, s :: t, v => rf a s v || rfB l t v
  | _, _, _ => false
def mvs : List Aut → List Int → Int → List Int
  | a :: l, s :: t, v => mv a s v :: mvs l t v
  | _, _, _ => []
def stp (l : List Aut) (t : List Int) (v : Int) : Option (List Int) := if rfB l t v = true then none else some (mvs l t v)
def mkT : List Aut → List Int → Bool
  | a :: l, s :: t => hasB a.ma s && mkT l t
  | _, _ => true
def noSt (l : List Aut) : Bool := l.any (fun a => decide (a.st = 0))
def ini (l : List Aut) : List Int := List.replicate l.length 0
def synS (l : List Aut) : Option (Bs (List Int)) := bfs 4096 (stp l) (evs l) (ini l)
/-- the product and its tuples; none: too many -/
def synR (l : List Aut) : Option (Aut × List (List Int)) := if noSt l = true then some (⟨evs l, 0, [], []⟩, []) else (synS l).map (fun s => (autOf (evs l) (mkT l) s, s.ts))
/-- a tuple of states -/
def Tup : List Aut → List Int → Prop
  | [], t => t = []
  | _ :: _, [] => False
  | a :: l, s :: t => 0 ≤ s ∧ s < a.st ∧ Tup l t
theorem Tup.len : ∀ {l : List Aut} {t : List Int}, Tup l t → t.length = l.length
  | [], t, h => by rw [show t = [] from h]; rfl
  | a :: l, [], h => h.elim
  | a :: l, s :: t, h => by simp [h.2.2.len]
theorem Tup.at_ : ∀ {l : List Aut} {t : List Int} {k : Nat} {a : Aut} {s : Int}, Tup l t → l[k]? = some a → t[k]? = some s → 0 ≤ s ∧ s < a.st
  | [], t, k, a, s, _, h, _ => by simp at h
  | b :: l, [], _, _, _, h, _, _ => h.elim
  | b :: l, u :: t, 0, a, s, h, h1, h2 => by simp at h1 h2; subst h1 h2; exact ⟨h.1, h.2.1⟩
  | b :: l, u :: t, k + 1, a, s, h, h1, h2 => h.2.2.at_ (by simpa using h1) (by simpa using h2)
theorem Tup.of : ∀ {l : List Aut} {t : List Int}, t.length = l.length → (∀ (k : Nat) (a : Aut) (s : Int), l[k]? = some a → t[k]? = some s → 0 ≤ s ∧ s < a.st) → Tup l t
  | [], t, h, _ => List.eq_nil_of_length_eq_zero (by simpa using h)
  | a :: l, [], h, _ => by simp at h
  | a :: l, s :: t, h, hk => ⟨(hk 0 a s rfl rfl).1, (hk 0 a s rfl rfl).2, Tup.of (by simpa using h) (fun k b u h1 h2 => hk (k + 1) b u (by simpa using h1) (by simpa using h2))⟩
theorem ini_tup : ∀ {l : List Aut}, (∀ a ∈ l, WF a) → noSt l = false → Tup l (ini l)
  | [], _, _ => rfl
  | a :: l, h, hn => by
    unfold noSt at hn
    rw [List.any_cons, Bool.or_eq_false_iff] at hn
    have h0 := (h a (List.mem_cons_self ..)).st0
    have h1 : a.st ≠ 0 := by simpa using hn.1
    exact ⟨Int.le_refl _, by omega, ini_tup (fun b hb => h b (List.mem_cons_of_mem _ hb)) hn.2⟩
theorem mvs_len : ∀ (l : List Aut) (t : List Int) (v : Int), (mvs l t v).length = min l.length t.length
  | [], t, v => by simp [mvs]
  | a :: l, [], v => by simp [mvs]
  | a :: l, s :: t, v => by simp [mvs, mvs_len l t v]
theorem mvs_at : ∀ {l : List Aut} {t : List Int} {v : Int} {k : Nat} {a : Aut} {s : Int}, l[k]? = some a → t[k]? = some s → (mvs l t v)[k]? = some (mv a s v)
  | [], t, v, k, a, s, h, _ => by simp at h
  | b :: l, [], v, k, a, s, _, h => by simp at h
  | b :: l, u :: t, v, 0, a, s, h1, h2 => by simp at h1 h2; subst h1 h2; rfl
  | b :: l, u :: t, v, k + 1, a, s, h1, h2 => by
    show (mvs l t v)[k]? = _
    exact mvs_at (by simpa using h1) (by simpa using h2)
theorem rfB_iff : ∀ {l : List Aut} {t : List Int} {v : Int}, rfB l t v = true ↔ ∃ (k : Nat) (a : Aut) (s : Int), l[k]? = some a ∧ t[k]? = some s ∧ rf a s v = true
  | [], t, v => by simp [rfB]
  | a :: l, [], v => by simp [rfB]
  | a :: l, s :: t, v => by
    unfold rfB
    rw [Bool.or_eq_true, rfB_iff]
    constructor
    · rintro (h | ⟨k, b, u, h1, h2, h3⟩)
      · exact ⟨0, a, s, rfl, rfl, h⟩
      · exact ⟨k + 1, b, u, by simpa using h1, by simpa using h2, h3⟩
    · rintro ⟨k, b, u, h1, h2, h3⟩
      cases k with
      | zero => simp at h1 h2; subst h1 h2; exact .inl h3
      | succ k => exact .inr ⟨k, b, u, by simpa using h1, by simpa using h2, h3⟩
theorem stp_tup : ∀ {l : List Aut} {t u : List Int} {v : Int}, (∀ a ∈ l, WF a) → Tup l t → stp l t v = some u → Tup l u := fun {l t u v} hw ht hs => by
  unfold stp at hs
  by_cases hr : rfB l t v = true
  · rw [if_pos hr] at hs; cases hs
  rw [if_neg hr] at hs
  injection hs with hs
  subst hs
  have hl := ht.len
  refine Tup.of (by rw [mvs_len]; omega) fun k a s h1 h2 => ?_
  have hk : k < t.length := by have := (List.getElem?_eq_some_iff.1 h1).1; omega
  have h3 : t[k]? = some t[k] := List.getElem?_eq_getElem hk
  rw [mvs_at h1 h3] at h2
  injection h2 with h2
  subst h2
  unfold mv
  by_cases hh : hasB a.al v = true
  · rw [if_pos hh]
    have hnr : rf a t[k] v = false := by
      cases hb : rf a t[k] v with
      | false => rfl
      | true => exact absurd (rfB_iff.2 ⟨k, a, _, h1, h3, hb⟩) hr
    unfold rf at hnr
    rw [hh] at hnr
    simp at hnr
    have hne : nxt a t[k] v ≠ -1 := fun e => by rw [e] at hnr; omega
    obtain ⟨g1, g2, _⟩ := (hw a (List.mem_of_getElem? h1)).nxt_rng hne
    exact ⟨g1, g2⟩
  · rw [if_neg hh]
    exact ht.at_ h1 h3
theorem rch_tup {l : List Aut} (hw : ∀ a ∈ l, WF a) (hn : noSt l = false) {t : List Int} (h : Rch (stp l) (evs l) (ini l) t) : Tup l t := by
  induction h with
  | start => exact ini_tup hw hn
  | step _ _ hs ih => exact stp_tup hw ih hs
/-- all tuples -/
def rngI (n : Int) : List Int := (List.range n.toNat).map (fun k : Nat => (k : Int))
theorem rngI_mem {n x : Int} : x ∈ rngI n ↔ 0 ≤ x ∧ x < n := by
  unfold rngI
  rw [List.mem_map]
  constructor
  · rintro ⟨k, hk, rfl⟩; have := List.mem_range.1 hk; omega
  · intro h; exact ⟨x.toNat, List.mem_range.2 (by omega), by omega⟩
theorem rngI_len (n : Int) : (rngI n).length = n.toNat := by simp [rngI]
def box : List Aut → List (List Int)
  | [] => [[]]
  | a :: l => (rngI a.st).flatMap (fun s => (box l).map (fun t => s :: t))
theorem box_mem : ∀ {l : List Aut} {t : List Int}, t ∈ box l ↔ Tup l t
  | [], t => by simp [box, Tup]
  | a :: l, [] => by simp [box, Tup]
  | a :: l, s :: t => by
    simp only [box, List.mem_flatMap, List.mem_map, Tup]
    constructor
    · rintro ⟨u, hu, w, hw, h⟩
      injection h with h1 h2
      subst h1 h2
      exact ⟨(rngI_mem.1 hu).1, (rngI_mem.1 hu).2, box_mem.1 hw⟩
    · rintro ⟨h1, h2, h3⟩
      exact ⟨s, rngI_mem.2 ⟨h1, h2⟩, t, box_mem.2 h3, rfl⟩
def prodN : List Aut → Nat
  | [] => 1
  | a :: l => a.st.toNat * prodN l
theorem flat_const {α β : Type} (f : α → List β) (n : Nat) : ∀ l : List α, (∀ x ∈ l, (f x).length = n) → (l.flatMap f).length = l.length * n
  | [], _ => by simp
  | x :: l, h => by
    rw [List.flatMap_cons, List.length_append, h x (List.mem_cons_self ..), flat_const f n l (fun y hy => h y (List.mem_cons_of_mem _ hy))]
    simp [Nat.succ_mul]; omega
theorem box_len : ∀ l : List Aut, (box l).length = prodN l
  | [] => rfl
  | a :: l => by
    unfold box prodN
    rw [flat_const _ (prodN l) _ (fun x _ => by rw [List.length_map, box_len l]), rngI_len]
/-- Few tuples: the search comes to its end. -/
theorem synS_some {l : List Aut} (hw : ∀ a ∈ l, WF a) (hn : noSt l = false) (hp : prodN l ≤ 4096) : ∃ s, synS l = some s ∧ BInv 4096 (stp l) (evs l) (ini l) s.ts.length s := by
  rcases bfs_spec (C := 4096) (st := stp l) (V := evs l) (x0 := ini l) (by omega) with hs | ⟨_, hm⟩
  · exact hs
  · exfalso
    exact not_many (box l) (by rw [box_len]; exact hp) (fun x hx => box_mem.2 (rch_tup hw hn hx)) hm
end Go.Proofs.YtbdliebjalghmaaDoor
