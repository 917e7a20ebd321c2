/- The opening of a sketch of law 41. -/
import Derived.Test.YtddhaidimadliaaJx
import Derived.Test.YtddhaidimadliaaRow
import Derived.WalkKit
import Derived.ProofKit
import Derived.OpenShut
namespace Go.Proofs.Ytddhaidimadliaa
open Go.ChangeShapes Go.WideShapes Go.ChangeAt Go.RowKit Go
variable {H : Type} {enc : TypeId × Value → H} {W : World} {spare : Nat → Bool} {held : Bool}

theorem flags_of {fuel : Nat} {cs : List Value} {x : DataW H × List MemPlace} (h : DataW.trod enc Try.prog W 0 spare held fuel 23 cs = some x) : ∃ l : List Int, l.length = 5 ∧ cs = bv l ∧ ∀ z ∈ l, 0 ≤ z ∧ z ≤ 255 := by
 obtain ⟨xs, m, _, _, hl, hn, hi⟩ := DataW.trod_array Try.underlying23 h
 have hl5 : cs.length = 5 := by rw [hl]; kernel_rfl
 obtain ⟨l, hll, hp⟩ := list_of (P := fun (k : Nat) (z : Int) => cs[k]? = some (.int .u8 z) ∧ 0 ≤ z ∧ z ≤ 255) 5 (fun k hk => by
  have h1 := hi k (by omega)
  rw [show Try.prog.cellsOf 5 = 1 by kernel_rfl, Nat.mul_one, List.getElem?_eq_getElem (by omega : k < xs.length)] at h1
  obtain ⟨z, hz, _, hw⟩ := DataW.trod_int Try.underlying5 h1
  exact ⟨z, one_of hz, u8_wf hw⟩)
 refine ⟨l, hll, ?_, fun z hz => ?_⟩
 ·refine List.ext_getElem? fun k => ?_
  rcases Nat.lt_or_ge k 5 with hk | hk
  ·have hg : l[k]? = some l[k] := List.getElem?_eq_getElem (by omega)
   rw [(hp k _ hg).1]
   simp [bv, hg]
  ·rw [List.getElem?_eq_none (by omega), List.getElem?_eq_none (by simp [bv]; omega)]
 ·obtain ⟨k, hk⟩ := List.getElem?_of_mem hz
  exact (hp k z hk).2
set_option maxRecDepth 100000 in
theorem s4Arg_of {b0 : Nat} {v : Value} {d : DataW H} {p : List MemPlace} (hv : Value.okWide Try.prog W .any b0 29 v) (h : DataW.Trod enc Try.prog W 0 spare held 29 v d p) : ∃ q : S4, q.ok ∧ v = .agg (s4c q).toArray := by
 obtain ⟨cs, rfl, hsz⟩ := okWide_struct Try.underlying29 hv
 obtain ⟨fuel, hf⟩ := h
 have hf : DataW.trod enc Try.prog W 0 spare held fuel 29 cs.toList = some (d, p) := hf
 obtain ⟨xs, n, _, _, hl, hn, hi⟩ := DataW.trod_struct Try.underlying29 hf
 have hn3 : xs.length = 3 := hn
 have hl33 : cs.toList.length = 33 := by rw [hl]; kernel_rfl
 have h0 := (hi 0 _ rfl).trans (List.getElem?_eq_getElem (by omega : 0 < xs.length))
 have h1 := (hi 1 _ rfl).trans (List.getElem?_eq_getElem (by omega : 1 < xs.length))
 have h2 := (hi 2 _ rfl).trans (List.getElem?_eq_getElem (by omega : 2 < xs.length))
 simp only [List.getElem_toArray, List.getElem_cons_zero, List.getElem_cons_succ] at h0 h1 h2
 rw [show Try.prog.cellsOf 23 = 5 by kernel_rfl] at h0
 rw [show Try.prog.cellsOf 27 = 27 by kernel_rfl] at h2
 obtain ⟨fl, hfl, hc0, hfr⟩ := flags_of h0
 obtain ⟨e1, he1, her1⟩ := cells_one Try.underlying24 (by kernel_rfl) h1
 obtain ⟨g, hg, hc2⟩ := graph_of h2
 refine ⟨⟨fl, e1, g⟩, ⟨hfl, hfr, her1, hg⟩, ?_⟩
 have e : cs.toList = s4c ⟨fl, e1, g⟩ := by
  show cs.toList = bv fl ++ (.int .u8 e1 :: gcells g)
  rw [← hc0, ← hc2]
  have k5 : cs.toList.drop 5 = .int .u8 e1 :: (cs.toList.drop 5).drop 1 := cons_of (by rw [List.getElem?_drop]; exact he1)
  rw [List.drop_drop] at k5
  have k6 : (cs.toList.drop 6).take 27 = cs.toList.drop 6 := List.take_of_length_le (by rw [List.length_drop]; omega)
  rw [k6]
  rw [show 5 + 1 = 6 from rfl] at k5
  rw [← k5, List.drop_zero, List.take_append_drop]
 rw [← e, Array.toArray_toList]
end Go.Proofs.Ytddhaidimadliaa
