/- From a row's readings to the walks' words: graphs, parts, problems (chapter 26). -/
import Derived.Test.YtddhaidimadliaaRow
import Derived.Test.YtddhaidimadliaaGe
import Derived.Deep.Strs
namespace Go.Proofs.Ytddhaidimadliaa
open Go.ChangeShapes Go.WideShapes Go.ChangeAt Go.RowKit Go.Deep Go

section
variable {H : Type} {enc : TypeId × Value → H} {W : World} {base : Nat} {spare : Nat → Bool} {held : Bool}
theorem one_of {cs : List Value} {i : Nat} {v : Value} (h : (cs.drop i).take 1 = [v]) : cs[i]? = some v := by
 have h1 : ((cs.drop i).take 1)[0]? = some v := by rw [h]; rfl
 rw [List.getElem?_take, if_pos (by omega), List.getElem?_drop] at h1
 simpa using h1
theorem u8_wf {z : Int} (h : (Lit.int .u8 z).wf = true) : 0 ≤ z ∧ z ≤ 255 := by
 simp [Lit.wf, IntKind.min, IntKind.max, IntKind.bits, IntKind.signed] at h
 omega
/-- five bytes -/
theorem row5_of {fuel : Nat} {cs : List Value} {x : DataW H × List MemPlace} (h : DataW.trod enc Try.prog W base spare held fuel 22 cs = some x) : ∀ j, j < 5 → ∃ z : Int, cs[j]? = some (.int .u8 z) ∧ 0 ≤ z ∧ z ≤ 255 := by
 obtain ⟨xs, m, _, _, _, hn, hi⟩ := DataW.trod_array Try.underlying22 h
 intro j hj
 have h1 := hi j hj
 rw [show Try.prog.cellsOf 5 = 1 by kernel_rfl, Nat.mul_one, List.getElem?_eq_getElem (by omega : j < xs.length)] at h1
 obtain ⟨z, hz, _, hw⟩ := DataW.trod_int Try.underlying5 h1
 exact ⟨z, one_of hz, u8_wf hw⟩
theorem row25_of {fuel : Nat} {cs : List Value} {x : DataW H × List MemPlace} (h : DataW.trod enc Try.prog W base spare held fuel 25 cs = some x) : ∃ l : List Int, l.length = 25 ∧ cs = bv l ∧ ∀ z ∈ l, 0 ≤ z ∧ z ≤ 255 := by
 obtain ⟨xs, m, _, _, hl, hn, hi⟩ := DataW.trod_array Try.underlying25 h
 have hl25 : cs.length = 25 := by rw [hl]; kernel_rfl
 obtain ⟨l, hll, hp⟩ := list_of (P := fun (k : Nat) (z : Int) => cs[k]? = some (.int .u8 z) ∧ 0 ≤ z ∧ z ≤ 255) 25 (fun k hk => by
  have h1 := hi (k / 5) (by omega)
  rw [show Try.prog.cellsOf 22 = 5 by kernel_rfl, List.getElem?_eq_getElem (by omega : k / 5 < xs.length)] at h1
  obtain ⟨z, hz, hw⟩ := row5_of h1 (k % 5) (by omega)
  rw [List.getElem?_take, if_pos (by omega), List.getElem?_drop, show k / 5 * 5 + k % 5 = k by omega] at hz
  exact ⟨z, hz, hw⟩)
 refine ⟨l, hll, ?_, fun z hz => ?_⟩
 ·refine List.ext_getElem? fun k => ?_
  rcases Nat.lt_or_ge k 25 with hk | hk
  ·have hg : l[k]? = some l[k] := List.getElem?_eq_getElem (by omega)
   rw [(hp k _ hg).1]
   simp [bv, hg]
  ·rw [List.getElem?_eq_none (by omega), List.getElem?_eq_none (by simp [bv]; omega)]
 ·obtain ⟨k, hk⟩ := List.getElem?_of_mem hz
  exact (hp k z hk).2
theorem cells_one {fuel : Nat} {cs : List Value} {o : Nat} {t : TypeId} {x : DataW H × List MemPlace} (ht : Try.prog.underlying t = some (.int .u8)) (hc : Try.prog.cellsOf t = 1) (h : DataW.trod enc Try.prog W base spare held fuel t ((cs.drop o).take (Try.prog.cellsOf t)) = some x) : ∃ z : Int, cs[o]? = some (.int .u8 z) ∧ 0 ≤ z ∧ z ≤ 255 := by
 rw [hc] at h
 obtain ⟨z, hz, _, hw⟩ := DataW.trod_int ht h
 exact ⟨z, one_of hz, u8_wf hw⟩
theorem cons_of {cs : List Value} {v : Value} (h : cs[0]? = some v) : cs = v :: cs.drop 1 := by
 cases cs with
 | nil => simp at h
 | cons a r => simp at h; subst h; rfl
/-- a graph that came in -/
theorem graph_of {fuel : Nat} {cs : List Value} {x : DataW H × List MemPlace} (h : DataW.trod enc Try.prog W base spare held fuel 27 cs = some x) : ∃ g : Gr, g.ok ∧ cs = gcells g := by
 obtain ⟨y0, y1, y2, n, _, hl, h0, h1, h2⟩ := trod_struct3 Try.underlying27 h
 have hl27 : cs.length = 27 := by rw [hl]; kernel_rfl
 obtain ⟨st, hs, hsr⟩ := cells_one Try.underlying5 (by kernel_rfl) h0
 obtain ⟨mb, hm, hmr⟩ := cells_one Try.underlying5 (by kernel_rfl) h1
 simp only at hs hm
 rw [show Try.prog.cellsOf 25 = 25 by kernel_rfl] at h2
 obtain ⟨to, ht, hto, htr⟩ := row25_of h2
 refine ⟨⟨st, mb, to⟩, ⟨hsr, hmr, ht, htr⟩, ?_⟩
 have e1 := cons_of hs
 have e2 : cs.drop 1 = .int .u8 mb :: (cs.drop 1).drop 1 := cons_of (by rw [List.getElem?_drop]; exact hm)
 rw [e1, e2, List.drop_drop]
 show _ = Value.int .u8 st :: Value.int .u8 mb :: bv to
 rw [← hto, List.take_of_length_le (by rw [List.length_drop]; simp only; omega)]
end
end Go.Proofs.Ytddhaidimadliaa
