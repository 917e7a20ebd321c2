/- Regions that draw their order, walked once in the text's order: reads are taken first where they yield in every world that may come up before them (A: facts that always hold; B: facts that hold until operation q, which waits for the reads of B, has come up). No program in sight. -/
import Derived.OrdersHeld
import Derived.Still
import Derived.StillTail
import Derived.KernelRfl
namespace Go.Proofs.Ytddhaidimadliaa
open Go

section
variable {P : Program} {ops : Array Oper} {md : Region.Mode} {Q : Exit → Act → World → Prop} {A B : World → Prop} {q : Nat}
def heldU (A B : World → Prop) (q : Nat) (listed : Array Bool) (w : World) : Prop := A w ∧ (listed.getD q true = false → B w)
def anyU (P : Program) (md : Region.Mode) (ops : Array Oper) (Q : Exit → Act → World → Prop) (A B : World → Prop) (q : Nat) : Nat → Array Bool → Act → World → Prop
 | 0, listed, a, w => Region.ready md ops listed = [] ∧ Q .normal a w
 | f + 1, listed, a, w => (Region.ready md ops listed = [] → Q .normal a w) ∧ ∀ i ∈ Region.ready md ops listed, wpOp P ops Q i (fun a' w' => heldU A B q (listed.setIfInBounds i true) w' ∧ anyU P md ops Q A B q f (listed.setIfInBounds i true) a' w') a w
theorem any_of_U : ∀ (f : Nat) (listed : Array Bool) (a : Act) (w : World), anyU P md ops Q A B q f listed a w → wpAny P md ops Q f listed a w
 | 0, _, _, _, h => h
 | f + 1, _, _, _, h => ⟨h.1, fun i hi => wpOp_mono (fun a' w' h' => any_of_U f _ a' w' h'.2) (h.2 i hi)⟩
theorem anyU_first {i : Nat} {oi : Oper} {v : Value} (hi : ops[i]? = some oi) (hsel : ∀ (j : Nat) (o : Oper) cs b, ops[j]? = some o → o.op ≠ .select cs b)
  (hQ : ∀ c a w, Q (.panic c) (a.put oi.dst v) w → Q (.panic c) a w) (hiq : i ≠ q) :
  ∀ (f : Nat) (listed : Array Bool) (a : Act) (w : World),
   (∀ j oj, ops[j]? = some oj → j ≠ i → listed.getD j true = false → (∀ e ∈ oj.after, Region.binds md e = true → e.on ≠ i) → oi.apart ops oj = true) →
   i ∈ Region.ready md ops listed → YieldsIf P ops (fun w => A w ∧ (Region.waitsFor md ops q i = true → B w)) oi v a → heldU A B q listed w → (Region.waitsFor md ops q i = true → listed.getD q true = false) →
   anyU P md ops Q A B q f (listed.setIfInBounds i true) (a.put oi.dst v) w → anyU P md ops Q A B q (f + 1) listed a w
 | f, listed, a, w, hfree, hr, hy, hS, hu, H => by
  have hsame : ∀ (L : Array Bool) (W : World), heldU A B q (L.setIfInBounds i true) W ↔ heldU A B q L W := fun L W => by unfold heldU; rw [getD_set_ne true hiq]
  have hrun : ∀ {K : Act → World → Prop}, K (a.put oi.dst v) w → wpOp P ops Q i K a w := fun hK => hy.wpOp hi ⟨hS.1, fun h => hS.2 (hu h)⟩ hK
  refine ⟨fun h => (by rw [h] at hr; cases hr), fun j hj => ?_⟩
  by_cases hji : j = i
  ·subst hji; exact hrun ⟨(hsame _ _).2 hS, H⟩
  match f, H with
  | 0, H =>
   have := ready_mono hj hji
   rw [H.1] at this
   cases this
  | f + 1, H =>
   have h1 := H.2 j (ready_mono hj hji)
   obtain ⟨hjun, oj, hoj, hall⟩ := mem_ready.1 hj
   have hun := (mem_ready.1 hr).1
   have hnot : ∀ e ∈ oj.after, Region.binds md e = true → e.on ≠ i := fun e he hb heq => by
    have h1 := hall e he hb
    rw [heq, getD_both hun] at h1
    cases h1
   have h2 := wpOp_putIf hoj (hfree j oj hoj hji hjun hnot) (fun cs b => hsel i oi cs b hi) (fun cs b => hsel j oj cs b hoj) hQ hy h1
   have hfree' : ∀ k ok, ops[k]? = some ok → k ≠ i → (listed.setIfInBounds j true).getD k true = false → (∀ e ∈ ok.after, Region.binds md e = true → e.on ≠ i) → oi.apart ops ok = true := fun k ok hk hki hun hno => by
    refine hfree k ok hk hki ?_ hno
    by_cases hjk : j = k
    ·subst hjk; exact hjun
    ·rw [getD_set_ne true hjk] at hun; exact hun
   have hu' : Region.waitsFor md ops q i = true → (listed.setIfInBounds j true).getD q true = false := fun hw => by
    have hjq : j ≠ q := by
     rintro rfl
     obtain ⟨o', ho', e, he, hb, hon⟩ := Region.waitsFor_spec hw
     obtain rfl : o' = oj := Option.some.inj (ho'.symm.trans hoj)
     exact hnot e he hb hon
    rw [getD_set_ne true hjq]; exact hu hw
   refine wpOp_mono (fun a' w' h3 => ?_) h2
   have hS' : heldU A B q (listed.setIfInBounds j true) w' := by
    have := h3.2.1
    rw [Array.setIfInBounds_comm _ _ (Ne.symm hji)] at this
    exact (hsame _ _).1 this
   refine ⟨hS', anyU_first hi hsel hQ hiq f (listed.setIfInBounds j true) a' w' hfree' (ready_mono hr (Ne.symm hji)) h3.1 hS' hu' ?_⟩
   rw [Array.setIfInBounds_comm _ _ hji]
   exact h3.2.2
def takeB (md : Region.Mode) (ops : Array Oper) (q i : Nat) (listed : Array Bool) : Bool :=
 Region.noSelect ops && Region.free md ops listed i && (Region.ready md ops listed).contains i && decide (i ≠ q) && (!Region.waitsFor md ops q i || !listed.getD q true)
/-- Take a read first. -/
theorem anyU_take {i : Nat} {oi : Oper} {v : Value} {f : Nat} {listed : Array Bool} {a : Act} {w : World} (hi : ops[i]? = some oi) (hB : takeB md ops q i listed = true)
  (hQ : ∀ c a w, Q (.panic c) (a.put oi.dst v) w → Q (.panic c) a w) (hw : Region.wanted oi (yielded ops a.tmps) = true) (hy : ∀ W, A W → (Region.waitsFor md ops q i = true → B W) → (execOp a.eval oi).run P W = .ok (.value v) W)
  (hS : heldU A B q listed w) (h : anyU P md ops Q A B q f (listed.setIfInBounds i true) (a.put oi.dst v) w) : anyU P md ops Q A B q (f + 1) listed a w := by
 simp only [takeB, Bool.and_eq_true, Bool.or_eq_true, Bool.not_eq_true', decide_eq_true_eq] at hB
 obtain ⟨⟨⟨⟨h1, h2⟩, h3⟩, h4⟩, h5⟩ := hB
 refine anyU_first hi (Region.noSelect_spec h1) hQ h4 f listed a w (Region.free_spec hi h2) (by simpa using h3) (.inl ⟨hw, fun W hW => hy W hW.1 hW.2⟩) hS (fun hq => ?_) h
 rcases h5 with h5 | h5
 ·rw [h5] at hq; cases hq
 ·exact h5
/-- the same, by a law for the read -/
theorem anyU_takeY {i : Nat} {oi : Oper} {v : Value} {f : Nat} {listed : Array Bool} {a : Act} {w : World} (hi : ops[i]? = some oi) (hB : takeB md ops q i listed = true)
  (hQ : ∀ c a w, Q (.panic c) (a.put oi.dst v) w → Q (.panic c) a w) (hy : YieldsIf P ops A oi v a)
  (hS : heldU A B q listed w) (h : anyU P md ops Q A B q f (listed.setIfInBounds i true) (a.put oi.dst v) w) : anyU P md ops Q A B q (f + 1) listed a w := by
 simp only [takeB, Bool.and_eq_true, Bool.or_eq_true, Bool.not_eq_true', decide_eq_true_eq] at hB
 obtain ⟨⟨⟨⟨h1, h2⟩, h3⟩, h4⟩, h5⟩ := hB
 refine anyU_first hi (Region.noSelect_spec h1) hQ h4 f listed a w (Region.free_spec hi h2) (by simpa using h3) (hy.imp (fun ⟨hw, hv⟩ => ⟨hw, fun W hW => hv W hW.1⟩) id) hS (fun hq => ?_) h
 rcases h5 with h5 | h5
 ·rw [h5] at hq; cases hq
 ·exact h5
/-- The only one that may come up. -/
theorem anyU_one {i : Nat} {oi : Oper} {f : Nat} {listed : Array Bool} {a : Act} {w : World} (hi : ops[i]? = some oi) (hr : Region.ready md ops listed = [i])
  (h : ∀ K : Act → World → Prop, (∀ a' w', heldU A B q (listed.setIfInBounds i true) w' → anyU P md ops Q A B q f (listed.setIfInBounds i true) a' w' → K a' w') → if Region.wanted oi (yielded ops a.tmps) then oi.wp P a w K Q else K (a.put oi.dst undef) w) :
  anyU P md ops Q A B q (f + 1) listed a w := by
 refine ⟨fun h0 => (by rw [hr] at h0; cases h0), fun j hj => ?_⟩
 rw [hr] at hj
 obtain rfl : j = i := by simpa using hj
 have := h (fun a' w' => heldU A B q (listed.setIfInBounds j true) w' ∧ anyU P md ops Q A B q f (listed.setIfInBounds j true) a' w') (fun a' w' h1 h2 => ⟨h1, h2⟩)
 unfold wpOp
 simp only [hi]
 split
 ·rename_i hw; rw [if_pos hw] at this; exact .inl this
 ·rename_i hw; rw [if_neg hw] at this; exact this
theorem anyU_done {listed : Array Bool} {a : Act} {w : World} (hr : Region.ready md ops listed = []) (h : Q .normal a w) : ∀ f, anyU P md ops Q A B q f listed a w
 | 0 => ⟨hr, h⟩
 | _ + 1 => ⟨fun _ => h, by rw [hr]; simp⟩
end
section
variable {P : Program} {l : List Oper} {md : Region.Mode} {Q : Exit → Act → World → Prop} {A B : World → Prop} {q : Nat}
theorem at_drop {i : Nat} {oi : Oper} {r : List Oper} (h : l.drop i = oi :: r) : l.toArray[i]? = some oi := by
 have h1 : (l.drop i)[0]? = some oi := by rw [h]; rfl
 rw [List.getElem?_drop] at h1
 simpa using h1
theorem uTakeY {i : Nat} {oi : Oper} {r : List Oper} {v : Value} {f : Nat} {listed : Array Bool} {a : Act} {w : World} (hi : l.drop i = oi :: r) (hB : takeB md l.toArray q i listed = true)
  (hQ : ∀ c a w, Q (.panic c) (a.put oi.dst v) w → Q (.panic c) a w) (hy : YieldsIf P l.toArray A oi v a)
  (hS : heldU A B q listed w) (h : anyU P md l.toArray Q A B q f (listed.setIfInBounds i true) (a.put oi.dst v) w) : anyU P md l.toArray Q A B q (f + 1) listed a w :=
 anyU_takeY (at_drop hi) hB hQ hy hS h
/-- a read, in short -/
theorem uA (i : Nat) {oi : Oper} {r : List Oper} (v : Value) {f : Nat} {listed : Array Bool} {a : Act} {w : World} (hi : l.drop i = oi :: r) (hA0 : A w) (hB0 : B w) (hy : ∀ W, A W → (execOp a.eval oi).run P W = .ok (.value v) W)
  (h : anyU P md l.toArray Q A B q f (listed.setIfInBounds i true) (a.put oi.dst v) w) (hB : takeB md l.toArray q i listed = true := by kernel_rfl)
  (hQ : ∀ c a w, Q (.panic c) (a.put oi.dst v) w → Q (.panic c) a w := by exact fun _ _ _ h => h) (hw : Region.wanted oi (yielded l.toArray a.tmps) = true := by rfl) : anyU P md l.toArray Q A B q (f + 1) listed a w :=
 anyU_take (at_drop hi) hB hQ hw (fun W h1 _ => hy W h1) ⟨hA0, fun _ => hB0⟩ h
/-- a read that needs B, in short -/
theorem uB (i : Nat) {oi : Oper} {r : List Oper} (v : Value) {f : Nat} {listed : Array Bool} {a : Act} {w : World} (hi : l.drop i = oi :: r) (hA0 : A w) (hB0 : B w) (hy : ∀ W, A W → B W → (execOp a.eval oi).run P W = .ok (.value v) W)
  (h : anyU P md l.toArray Q A B q f (listed.setIfInBounds i true) (a.put oi.dst v) w) (hB : takeB md l.toArray q i listed = true := by kernel_rfl) (hW : Region.waitsFor md l.toArray q i = true := by kernel_rfl)
  (hQ : ∀ c a w, Q (.panic c) (a.put oi.dst v) w → Q (.panic c) a w := by exact fun _ _ _ h => h) (hw : Region.wanted oi (yielded l.toArray a.tmps) = true := by rfl) : anyU P md l.toArray Q A B q (f + 1) listed a w :=
 anyU_take (at_drop hi) hB hQ hw (fun W h1 h2 => hy W h1 (h2 hW)) ⟨hA0, fun _ => hB0⟩ h
/-- an op that is not wanted, in short -/
theorem uS (i : Nat) {oi : Oper} {r : List Oper} {f : Nat} {listed : Array Bool} {a : Act} {w : World} (hi : l.drop i = oi :: r) (hA0 : A w) (hB0 : B w) (h : anyU P md l.toArray Q A B q f (listed.setIfInBounds i true) (a.put oi.dst undef) w)
  (hB : takeB md l.toArray q i listed = true := by kernel_rfl) (hQ : ∀ c a w, Q (.panic c) (a.put oi.dst undef) w → Q (.panic c) a w := by exact fun _ _ _ h => h) (hw : Region.wanted oi (yielded l.toArray a.tmps) = false := by rfl) : anyU P md l.toArray Q A B q (f + 1) listed a w :=
 anyU_takeY (at_drop hi) hB hQ (.inr ⟨hw, rfl⟩) ⟨hA0, fun _ => hB0⟩ h
theorem uOne {i : Nat} {oi : Oper} {r : List Oper} {f : Nat} {listed : Array Bool} {a : Act} {w : World} (hi : l.drop i = oi :: r) (hr : Region.ready md l.toArray listed = [i])
  (h : ∀ K : Act → World → Prop, (∀ a' w', heldU A B q (listed.setIfInBounds i true) w' → anyU P md l.toArray Q A B q f (listed.setIfInBounds i true) a' w' → K a' w') → if Region.wanted oi (yielded l.toArray a.tmps) then oi.wp P a w K Q else K (a.put oi.dst undef) w) :
  anyU P md l.toArray Q A B q (f + 1) listed a w := anyU_one (at_drop hi) hr h
end
/-- The beginning. -/
theorem wp_region_U {P : Program} {id : Nat} {Q : Exit → Act → World → Prop} {a : Act} {w : World} {l : List Oper} (A B : World → Prop) (q : Nat) (hm : P.follows .mixedOrders = true)
  (h : anyU P .any l.toArray Q A B q l.toArray.size (Array.replicate l.toArray.size false) a w.drew) : (Code.region id l.toArray true).wp P Q a w :=
 wp_region_any hm (any_of_U _ _ _ _ h)
end Go.Proofs.Ytddhaidimadliaa
