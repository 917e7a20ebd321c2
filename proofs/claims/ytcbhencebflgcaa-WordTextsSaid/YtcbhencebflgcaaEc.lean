/- Walks: the set of names that alphabet.Check keeps. -/
import Derived.Test.YtcbhencebflgcaaWa
import Derived.Test.YtcbhencebflgcaaEa
import Derived.Maps.Own
import Derived.Maps.OwnOps
import Derived.Maps.Views
import Derived.Maps.OwnSet
import Derived.WideAt
namespace Go.Proofs.Ytcbhencebflgcaa
open Go.RowKit Go Go.Maps

theorem strLaw : Keyed Try.prog 9 := string_keyed Try.underlying9
theorem zeroBool (w : World) : (zeroValue 4).run Try.prog w = .ok (.bool false) w := by kernel_rfl
theorem plainElem_bool_inv {H : Type} {P : Program} {e : TypeId} (he : P.underlying e = some .bool) {v : Value} {y : DataW H × List MemPlace} (h : plainElem P e v = some y) : ∃ x, v = .bool x ∧ y = (.lit (.bool x), []) := by
  unfold plainElem at h
  rw [he] at h
  cases v <;> simp at h
  rename_i b
  exact ⟨b, rfl, h.symm⟩
/-- Block b is a map that says of each name whether it is on the list. -/
def NamesIn (w : World) (b n : Nat) (names : List ByteArray) : Prop :=
  ∃ D : DataW Unit, w.ownsMap Try.prog 9 (plainElem Try.prog 4) b n D ∧ ∀ s : ByteArray, D.atKey (.string s.data.toList) (.lit (.bool false)) = .lit (.bool (inB names s))
section
variable {w w' : World} {b n : Nat} {names : List ByteArray}
theorem NamesIn.made (w : World) : NamesIn (w.alloc (.map #[] 0)) w.heap.size 0 [] := ⟨_, World.ownsMap_made _ _ _ _, fun _ => rfl⟩
theorem NamesIn.mono (h : NamesIn w b n names) {m : Nat} (hn : n ≤ m) : NamesIn w b m names := by
  obtain ⟨D, h1, h2⟩ := h
  exact ⟨D, h1.mono hn, h2⟩
theorem NamesIn.lt (h : NamesIn w b n names) : b < w.heap.size := by
  obtain ⟨D, h1, h2⟩ := h
  exact h1.lt
theorem NamesIn.kept (h : NamesIn w b n names) {row : Option Nat} (hg : w.grownBy w' row) (hne : some b ≠ row) : NamesIn w' b n names := by
  obtain ⟨D, h1, h2⟩ := h
  exact ⟨D, h1.kept hg hne, h2⟩
theorem NamesIn.alloc (h : NamesIn w b n names) (o : Obj) : NamesIn (w.alloc o) b n names := h.kept (World.grownBy_alloc w o none) (by simp)
end
theorem bytes_eq {s t : ByteArray} (h : s.data.toList = t.data.toList) : s = t := by
  cases s; cases t; simp at h; congr
section
variable {w w' : World} {b n : Nat} {names : List ByteArray}
theorem wpList_lookup_names {ops : Array Oper} {rest : List Oper} {o : Oper} {a : Act} {Q : Exit → Act → World → Prop} (hg : o.guard = none) (m x : Operand) (hop : o.op = Op.lookup 92 m x false)
    (hm : a.eval m = .map (some b)) (h : NamesIn w b n names) (s : ByteArray) (hx : a.eval x = .string s) (hs : s.size ≤ 9223372036854775807) (q : Bool) (hq : inB names s = q)
    (hK : wpList Try.prog ops Q rest (a.put o.dst (.bool q)) w) : wpList Try.prog ops Q (o :: rest) a w := by
  obtain ⟨D, h1, h2⟩ := h
  refine wpList_plain hg fun K' hK' => ?_
  obtain ⟨v, ps, hrun, hv⟩ := h1.lookup strLaw Try.underlying92 (zeroBool w) (plainElem_bool Try.underlying4 false) (key := .string s) (kl := .string s.data.toList) (WideMaps.keyOf_string_mk Try.underlying9 (by unfold maxLen; omega))
  obtain ⟨c, rfl, hy⟩ := plainElem_bool_inv Try.underlying4 hv
  rw [h2 s, hq] at hy
  simp only [Prod.mk.injEq, DataW.lit.injEq, Lit.bool.injEq] at hy
  obtain ⟨rfl, _⟩ := hy
  unfold Oper.wp
  simp [execOp, hop, hm, hx, hrun, Result.andThen]
  exact hK' _ _ hK
theorem wpList_add_name {ops : Array Oper} {rest : List Oper} {o : Oper} {a : Act} {Q : Exit → Act → World → Prop} (hg : o.guard = none) (m x v : Operand) (hop : o.op = Op.mapUpdate 92 m x v)
    (hm : a.eval m = .map (some b)) (h : NamesIn w b n names) (hn : n ≤ 1000000) (s : ByteArray) (hx : a.eval x = .string s) (hs : s.size ≤ 9223372036854775807) (hv : a.eval v = .bool true)
    (hK : ∀ w', NamesIn w' b (n + 1) (names ++ [s]) → w.grownBy w' (some b) → wpList Try.prog ops Q rest (a.put o.dst undef) w') : wpList Try.prog ops Q (o :: rest) a w := by
  obtain ⟨D, h1, h2⟩ := h
  refine wpList_mapUpdate_own w hg m x v _ hop _ _ strLaw Try.underlying92 _ b n D hm h1 (by unfold maxLen; omega) _ _ (.string s.data.toList) hx hv (WideMaps.keyOf_string_mk Try.underlying9 (by unfold maxLen; omega)) _ [] (plainElem_bool Try.underlying4 true) ?_
  intro w' h3 h4
  refine hK w' ⟨_, h3, fun u => ?_⟩ h4
  by_cases hu : u = s
  · subst hu
    rw [atKey_put_same (h1.isMap) (show WideAt.IsKeyLit (.string _) from trivial), inB_iff.2 (by simp)]
  · rw [atKey_put_other (fun e => hu (bytes_eq (by injection e))), h2 u]
    have this : inB (names ++ [s]) u = inB names u := by
      rw [Bool.eq_iff_iff, inB_iff, inB_iff, List.mem_append, List.mem_singleton]
      exact ⟨fun h => h.resolve_right hu, .inl⟩
    rw [this]
end
end Go.Proofs.Ytcbhencebflgcaa
