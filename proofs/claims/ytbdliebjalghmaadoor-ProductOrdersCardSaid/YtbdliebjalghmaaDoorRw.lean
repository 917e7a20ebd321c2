/- From a row's readings to the walks' words: slices of slices of ints. -/
import Derived.Test.YtbdliebjalghmaaDoorRow
import Derived.Deep.Slices
import Derived.Deep.Fields
import Derived.ChangeSame
import Derived.ChangeMaps5
namespace Go.Proofs.YtbdliebjalghmaaDoor
open Go.ChangeShapes Go.WideShapes Go.ChangeAt Go.RowKit Go.Deep Go

theorem list_of {α : Type} {P : Nat → α → Prop} : ∀ (n : Nat), (∀ i, i < n → ∃ e, P i e) → ∃ l : List α, l.length = n ∧ ∀ k e, l[k]? = some e → P k e
  | 0, _ => ⟨[], rfl, fun k e h => by simp at h⟩
  | n + 1, h => by
    obtain ⟨l, hl, hp⟩ := list_of n (fun i hi => h i (by omega))
    obtain ⟨e, he⟩ := h n (by omega)
    refine ⟨l ++ [e], by simp [hl], fun k u hk => ?_⟩
    rcases Nat.lt_or_ge k n with h1 | h1
    · rw [List.getElem?_append_left (by omega)] at hk
      exact hp k u hk
    · rw [List.getElem?_append_right (by omega), hl] at hk
      have : k = n := by
        rcases Nat.lt_or_ge k (n + 1) with h2 | h2
        · omega
        · rw [List.getElem?_eq_none (by simp; omega)] at hk; cases hk
      subst this
      simp at hk
      subst hk
      exact he
theorem slsArg_of {H : Type} {enc : TypeId × Value → H} {W : World} {spare : Nat → Bool} {held : Bool} {t e g : TypeId} {a : Option Addr} {len cap : Nat} {d : DataW H} {p : List MemPlace}
    (ht : Tryd.prog.underlying t = some (.slice e)) (he : Tryd.prog.underlying e = some (.slice g)) (hg : Tryd.prog.underlying g = some (.int .i64)) (hce : Tryd.prog.cellsOf e = 1) (hcg : Tryd.prog.cellsOf g = 1)
    (h : DataW.Trod enc Tryd.prog W 0 spare held t (.slice a len cap) d p) (hsp : ∀ b, spare b = true) :
    ∃ xs : List SlV, xs.length = len ∧ len ≤ cap ∧ cap ≤ 9223372036854775807 ∧ RdS W W.heap.size a xs := by
  obtain ⟨fuel, hf⟩ := h
  rcases open_slice ht hf with h0 | ⟨x, n, c, m, n', D, Pl, hcs, hb, hl, hm, hmm, hx, hi⟩
  · have hcs := h0.1
    simp [Value.cells] at hcs
    obtain ⟨rfl, rfl, rfl⟩ := hcs
    exact ⟨[], rfl, Nat.le_refl _, by omega, RdS.nil⟩
  · simp [Value.cells] at hcs
    obtain ⟨rfl, rfl, rfl⟩ := hcs
    have hmc : len ≤ m := by rw [hmm, hsp]; exact hl
    obtain ⟨l, hll, hp⟩ := list_of (P := fun (i : Nat) (s : SlV) => x.block < W.heap.size ∧ W.cell? (x.add i) = some s.v ∧ s.ok W W.heap.size) len (fun i hil => by
      obtain ⟨cs', hc, ht'⟩ := hi i (by omega)
      rw [hce, Nat.mul_one] at hc
      obtain ⟨_, hcl, hat⟩ := World.cells?_some hc
      have hcell := hat 0 (by omega)
      have hv : ∃ v, cs' = [v] := by
        match cs', hcl with
        | [v], _ => exact ⟨v, rfl⟩
      obtain ⟨v, rfl⟩ := hv
      have hcell' : W.cell? (x.add i) = some v := by
        rw [Go.Deep.add_add, Nat.add_zero] at hcell
        simpa using hcell
      have hv2 : ∃ a' n2 c2, v = .slice a' n2 c2 := by
        rcases open_ints he hg hcg ht' with ⟨h1, _⟩ | ⟨y, n2, c2, zs, h1, _⟩
        · simp at h1; exact ⟨_, _, _, h1⟩
        · simp at h1; exact ⟨_, _, _, h1⟩
      obtain ⟨a', n2, c2, rfl⟩ := hv2
      obtain ⟨l, h1, h2, h3, h4, _⟩ := slArg_of (enc := enc) (W := W) (spare := spare) (held := held) (k := .i64) (d := _) (p := _) he hg hcg ⟨_, ht'⟩ hsp
      refine ⟨⟨a', c2, l⟩, ?_, ?_, h4, by rw [h1]; exact h2, h3⟩
      · have := World.block_lt_of_cell? W _ hcell'
        rwa [block_of_add] at this
      · rw [hcell']; unfold SlV.v; rw [h1])
    refine ⟨l, hll, hl, by simpa [maxLen] using hm, ⟨fun k u hu => ?_, fun s hs => ?_⟩⟩
    · rw [List.getElem?_map] at hu
      obtain ⟨s, hs, rfl⟩ := Option.map_eq_some_iff.1 hu
      obtain ⟨h1, h2, _⟩ := hp k s hs
      exact ⟨x, rfl, h1, h2⟩
    · obtain ⟨k, hk⟩ := List.getElem?_of_mem hs
      exact (hp k s hk).2.2
end Go.Proofs.YtbdliebjalghmaaDoor
