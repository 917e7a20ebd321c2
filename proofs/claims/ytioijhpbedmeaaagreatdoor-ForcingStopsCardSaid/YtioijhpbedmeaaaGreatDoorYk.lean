/- From a row's readings to the walks' words: sketches, witnesses, systems (chapter 45). -/
import Derived.Test.YtioijhpbedmeaaaGreatDoorPc
import Derived.Test.YtioijhpbedmeaaaGreatDoorYs
import Derived.Test.YtioijhpbedmeaaaGreatDoorUl
namespace Go.Proofs.YtioijhpbedmeaaaGreatDoor
open Go.ChangeShapes Go.WideShapes Go.ChangeAt Go.RowKit Go.Deep Go

section
variable {H : Type} {enc : TypeId × Value → H} {W : World} {spare : Nat → Bool} {held : Bool}
set_option maxRecDepth 100000 in
/-- a sketch that came in -/
theorem skArg_of {b0 : Nat} {v : Value} {d : DataW H} {p : List MemPlace} (hv : Value.okWide Tryz.prog W .any b0 28 v) (h : DataW.Trod enc Tryz.prog W 0 spare held 28 v d p) : ∃ q : Sk, q.ok ∧ v = .agg (skcells q).toArray := by
 obtain ⟨cs, rfl, hsz⟩ := okWide_struct Tryz.underlying28 hv
 obtain ⟨fuel, hf⟩ := h
 have hf : DataW.trod enc Tryz.prog W 0 spare held fuel 28 cs.toList = some (d, p) := hf
 obtain ⟨xs, n, _, _, hl, hn, hi⟩ := DataW.trod_struct Tryz.underlying28 hf
 have hn6 : xs.length = 6 := hn
 have hl58 : cs.toList.length = 58 := by rw [hl]; kernel_rfl
 have h0 := (hi 0 _ rfl).trans (List.getElem?_eq_getElem (by omega : 0 < xs.length))
 have h1 := (hi 1 _ rfl).trans (List.getElem?_eq_getElem (by omega : 1 < xs.length))
 have h2 := (hi 2 _ rfl).trans (List.getElem?_eq_getElem (by omega : 2 < xs.length))
 have h3 := (hi 3 _ rfl).trans (List.getElem?_eq_getElem (by omega : 3 < xs.length))
 have h4 := (hi 4 _ rfl).trans (List.getElem?_eq_getElem (by omega : 4 < xs.length))
 have h5 := (hi 5 _ rfl).trans (List.getElem?_eq_getElem (by omega : 5 < xs.length))
 simp only [List.getElem_toArray, List.getElem_cons_zero, List.getElem_cons_succ] at h0 h1 h2 h3 h4 h5
 rw [show Tryz.prog.cellsOf 26 = 27 by kernel_rfl] at h1 h2
 obtain ⟨e0, he0, her0⟩ := cells_one Tryz.underlying22 (by kernel_rfl) h0
 obtain ⟨g1, hg1, hc1⟩ := graph_of h1
 obtain ⟨g2, hg2, hc2⟩ := graph_of h2
 obtain ⟨e3, he3, her3⟩ := cells_one Tryz.underlying22 (by kernel_rfl) h3
 obtain ⟨e4, he4, her4⟩ := cells_one Tryz.underlying22 (by kernel_rfl) h4
 obtain ⟨e5, he5, her5⟩ := cells_one Tryz.underlying5 (by kernel_rfl) h5
 refine ⟨⟨e0, g1, g2, e3, e4, e5⟩, ⟨her0, hg1, hg2, her3, her4, her5⟩, ?_⟩
 have hd : cs.toList.drop 55 = [.int .u8 e3, .int .u8 e4, .int .u8 e5] := by
  have q3 : (cs.toList.drop 55).length = 3 := by rw [List.length_drop]; omega
  have q4 : (cs.toList.drop 55)[0]? = some (.int .u8 e3) := by rw [List.getElem?_drop]; exact he3
  have q5 : (cs.toList.drop 55)[1]? = some (.int .u8 e4) := by rw [List.getElem?_drop]; exact he4
  have q6 : (cs.toList.drop 55)[2]? = some (.int .u8 e5) := by rw [List.getElem?_drop]; exact he5
  match hq : cs.toList.drop 55, q3 with
  | [a, b, c], _ => rw [hq] at q4 q5 q6; simp at q4 q5 q6; rw [q4, q5, q6]
 have e : cs.toList = skcells ⟨e0, g1, g2, e3, e4, e5⟩ := by
  show cs.toList = .int .u8 e0 :: (gcells g1 ++ (gcells g2 ++ [.int .u8 e3, .int .u8 e4, .int .u8 e5]))
  rw [← hc1, ← hc2, ← hd]
  have k0 : cs.toList = .int .u8 e0 :: cs.toList.drop 1 := cons_of he0
  have k1 : cs.toList.drop 1 = (cs.toList.drop 1).take 27 ++ (cs.toList.drop 1).drop 27 := (List.take_append_drop 27 _).symm
  have k2 : cs.toList.drop 28 = (cs.toList.drop 28).take 27 ++ (cs.toList.drop 28).drop 27 := (List.take_append_drop 27 _).symm
  rw [List.drop_drop] at k1 k2
  rw [← k2, ← k1, ← k0]
 rw [← e, Array.toArray_toList]
end
end Go.Proofs.YtioijhpbedmeaaaGreatDoor
