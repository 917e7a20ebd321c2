/- Words on maps with int elements that the call has made: a table. Any program. -/
import Derived.Test.YtbdliebjalghmaaDoorBase
import Derived.Maps.Own
import Derived.Maps.OwnOps
import Derived.Maps.Views
import Derived.Maps.OwnSet
import Derived.WideAt
namespace Go.Proofs.YtbdliebjalghmaaDoor
open Go.RowKit Go Go.Maps

/-- Block b is a map of at most n entries that says g: at the key of a, the element x where g a = some x, nothing where none. -/
def TabI {α : Type} (P : Program) (K E : TypeId) (key : α → Value) (w : World) (b n : Nat) (g : α → Option Int) : Prop :=
  ∃ D : DataW Unit, w.ownsMap P K (plainElem P E) b n D ∧ ∀ a kl, keyOf P K (key a) = some kl →
    Maps.has D kl = (g a).isSome ∧ ∀ x, g a = some x → D.atKey kl (.lit (.int .i64 0)) = .lit (.int .i64 x)
section
variable {α : Type} {P : Program} {K E : TypeId} {key : α → Value} {w w' : World} {b n : Nat} {g : α → Option Int}
theorem TabI.made (w : World) (P : Program) (K E : TypeId) (key : α → Value) : TabI P K E key (w.alloc (.map #[] 0)) w.heap.size 0 (fun _ => none) :=
  ⟨_, World.ownsMap_made _ _ _ _, fun a kl _ => ⟨by simp [Maps.has_eq], fun x hx => by cases hx⟩⟩
theorem TabI.mono (h : TabI P K E key w b n g) {m : Nat} (hn : n ≤ m) : TabI P K E key w b m g := by
  obtain ⟨D, h1, h2⟩ := h
  exact ⟨D, h1.mono hn, h2⟩
theorem TabI.lt (h : TabI P K E key w b n g) : b < w.heap.size := by
  obtain ⟨D, h1, h2⟩ := h
  exact h1.lt
theorem TabI.kept (h : TabI P K E key w b n g) {row : Option Nat} (hg : w.grownBy w' row) (hne : some b ≠ row) : TabI P K E key w' b n g := by
  obtain ⟨D, h1, h2⟩ := h
  exact ⟨D, h1.kept hg hne, h2⟩
theorem TabI.block (h : TabI P K E key w b n g) (he : w'.heap[b]? = w.heap[b]?) : TabI P K E key w' b n g := by
  obtain ⟨D, ⟨es, clock, hb, F, hs, hD⟩, h2⟩ := h
  exact ⟨D, ⟨es, clock, he.trans hb, F, hs, hD⟩, h2⟩
theorem TabI.below {B : Nat} (h : TabI P K E key w b n g) (hb : Below B w w') (hB : b < B) : TabI P K E key w' b n g := h.block (hb.block b hB)
theorem TabI.alloc (h : TabI P K E key w b n g) (o : Obj) : TabI P K E key (w.alloc o) b n g := h.kept (World.grownBy_alloc w o none) (by simp)
theorem TabI.say (h : TabI P K E key w b n g) {g' : α → Option Int} (he : ∀ a, (∃ kl, keyOf P K (key a) = some kl) → g' a = g a) : TabI P K E key w b n g' := by
  obtain ⟨D, h1, h2⟩ := h
  exact ⟨D, h1, fun a kl hk => by rw [he a ⟨kl, hk⟩]; exact h2 a kl hk⟩
theorem wpList_tab_hit {ops : Array Oper} {rest : List Oper} {o : Oper} {a : Act} {Q : Exit → Act → World → Prop} (hg : o.guard = none) (m x : Operand) (t : TypeId) (hop : o.op = Op.lookup t m x true)
    (KK : Keyed P K) (ht : P.underlying t = some (.map K E)) (he : P.underlying E = some (.int .i64)) (hz : (zeroValue E).run P w = .ok (.int .i64 0) w)
    (hm : a.eval m = .map (some b)) (h : TabI P K E key w b n g) (c : α) (hx : a.eval x = key c) (hk : ∃ kl, keyOf P K (key c) = some kl) (y : Int) (hy : g c = some y)
    (hK : wpList P ops Q rest (a.put o.dst (.tuple #[.int .i64 y, .bool true])) w) : wpList P ops Q (o :: rest) a w := by
  obtain ⟨D, h1, h2⟩ := h
  obtain ⟨kl, hkl⟩ := hk
  obtain ⟨h3, h4⟩ := h2 c kl hkl
  refine wpList_lookup_own_ok_int w hg m x t hop K E .i64 KK ht he hz b n D hm h1 (key c) kl hx hkl ?_
  intro z hz1 _
  rw [h4 y hy] at hz1
  simp only [DataW.lit.injEq, Lit.int.injEq, true_and] at hz1
  rw [h3, hy, ← hz1]
  exact hK
theorem wpList_tab_miss {ops : Array Oper} {rest : List Oper} {o : Oper} {a : Act} {Q : Exit → Act → World → Prop} (hg : o.guard = none) (m x : Operand) (t : TypeId) (hop : o.op = Op.lookup t m x true)
    (KK : Keyed P K) (ht : P.underlying t = some (.map K E)) (he : P.underlying E = some (.int .i64)) (hz : (zeroValue E).run P w = .ok (.int .i64 0) w)
    (hm : a.eval m = .map (some b)) (h : TabI P K E key w b n g) (c : α) (hx : a.eval x = key c) (hk : ∃ kl, keyOf P K (key c) = some kl) (hy : g c = none)
    (hK : wpList P ops Q rest (a.put o.dst (.tuple #[.int .i64 0, .bool false])) w) : wpList P ops Q (o :: rest) a w := by
  obtain ⟨D, h1, h2⟩ := h
  obtain ⟨kl, hkl⟩ := hk
  obtain ⟨h3, h4⟩ := h2 c kl hkl
  rw [hy] at h3
  refine wpList_lookup_own_ok_int w hg m x t hop K E .i64 KK ht he hz b n D hm h1 (key c) kl hx hkl ?_
  intro z hz1 _
  rw [Maps.atKey_of_not_has h3] at hz1
  simp only [DataW.lit.injEq, Lit.int.injEq, true_and] at hz1
  rw [h3, ← hz1]
  exact hK
theorem wpList_tab_put {ops : Array Oper} {rest : List Oper} {o : Oper} {a : Act} {Q : Exit → Act → World → Prop} (hg : o.guard = none) (m x v : Operand) (t : TypeId) (hop : o.op = Op.mapUpdate t m x v)
    (KK : Keyed P K) (ht : P.underlying t = some (.map K E)) (he : P.underlying E = some (.int .i64))
    (hm : a.eval m = .map (some b)) (h : TabI P K E key w b n g) (hn : n ≤ 1000000000) (c : α) (hx : a.eval x = key c) (hk : ∃ kl, keyOf P K (key c) = some kl) (y : Int) (hv : a.eval v = .int .i64 y) (hw : (Lit.int .i64 y).wf = true)
    (g' : α → Option Int) (hg1 : ∀ d, key d = key c → g' d = some y) (hg2 : ∀ d, key d ≠ key c → g' d = g d)
    (hK : ∀ w', TabI P K E key w' b (n + 1) g' → w.grownBy w' (some b) → wpList P ops Q rest (a.put o.dst undef) w') : wpList P ops Q (o :: rest) a w := by
  obtain ⟨D, h1, h2⟩ := h
  obtain ⟨kl, hkl⟩ := hk
  refine wpList_mapUpdate_own w hg m x v t hop K E KK ht _ b n D hm h1 (by unfold maxLen; omega) _ _ kl hx hv hkl (.lit (.int .i64 y)) [] (plainElem_int he hw) ?_
  intro w' h3 h4
  refine hK w' ⟨_, h3, fun d kd hkd => ?_⟩ h4
  by_cases hd : key d = key c
  · have : kd = kl := by rw [hd, hkl] at hkd; injection hkd with e; exact e.symm
    subst this
    rw [hg1 d hd]
    exact ⟨Maps.has_put_same h1.isMap (KK.key hkl) _, fun z hz => by injection hz with hz; subst hz; exact Maps.atKey_put_same h1.isMap (KK.key hkl) _ _⟩
  · have hne : kd ≠ kl := fun e => hd (KK.inj (by rw [← e]; exact hkd) hkl)
    rw [hg2 d hd, Maps.has_put_other hne, Maps.atKey_put_other hne]
    exact h2 d kd hkd
end
end Go.Proofs.YtbdliebjalghmaaDoor
