/- From a row's readings to the walks' words: sketches, witnesses, systems (chapter 45). -/
import Derived.Test.YtioijhpbedmeaaaDoorPc
import Derived.Test.YtioijhpbedmeaaaDoorYs
import Derived.Test.YtioijhpbedmeaaaDoorUl
namespace Go.Proofs.YtioijhpbedmeaaaDoor
open Go.ChangeShapes Go.WideShapes Go.ChangeAt Go.RowKit Go.Deep Go

section
variable {H : Type} {enc : TypeId × Value → H} {W : World} {spare : Nat → Bool} {held : Bool}
set_option maxRecDepth 100000 in
/-- a sketch that came in -/
theorem skArg_of {b0 : Nat} {v : Value} {d : DataW H} {p : List MemPlace} (hv : Value.okWide Tryd.prog W .any b0 28 v) (h : DataW.Trod enc Tryd.prog W 0 spare held 28 v d p) : ∃ q : Sk, q.ok ∧ v = .agg (skcells q).toArray := by
  obtain ⟨cs, rfl, hsz⟩ := okWide_struct Tryd.underlying28 hv
  obtain ⟨fuel, hf⟩ := h
  have hf : DataW.trod enc Tryd.prog W 0 spare held fuel 28 cs.toList = some (d, p) := hf
  obtain ⟨xs, n, _, _, hl, hn, hi⟩ := DataW.trod_struct Tryd.underlying28 hf
  have hn6 : xs.length = 6 := hn
  have hl58 : cs.toList.length = 58 := by rw [hl]; kernel_rfl
  have h0 := (hi 0 _ rfl).trans (List.getElem?_eq_getElem (by omega : 0 < xs.length))
  have h1 := (hi 1 _ rfl).trans (List.getElem?_eq_getElem (by omega : 1 < xs.length))
  have h2 := (hi 2 _ rfl).trans (List.getElem?_eq_getElem (by omega : 2 < xs.length))
  have h3 := (hi 3 _ rfl).trans (List.getElem?_eq_getElem (by omega : 3 < xs.length))
  have h4 := (hi 4 _ rfl).trans (List.getElem?_eq_getElem (by omega : 4 < xs.length))
  have h5 := (hi 5 _ rfl).trans (List.getElem?_eq_getElem (by omega : 5 < xs.length))
  simp only [List.getElem_toArray, List.getElem_cons_zero, List.getElem_cons_succ] at h0 h1 h2 h3 h4 h5
  rw [show Tryd.prog.cellsOf 26 = 27 by kernel_rfl] at h1 h2
  obtain ⟨e0, he0, her0⟩ := cells_one Tryd.underlying22 (by kernel_rfl) h0
  obtain ⟨g1, hg1, hc1⟩ := graph_of h1
  obtain ⟨g2, hg2, hc2⟩ := graph_of h2
  obtain ⟨e3, he3, her3⟩ := cells_one Tryd.underlying22 (by kernel_rfl) h3
  obtain ⟨e4, he4, her4⟩ := cells_one Tryd.underlying22 (by kernel_rfl) h4
  obtain ⟨e5, he5, her5⟩ := cells_one Tryd.underlying5 (by kernel_rfl) h5
  refine ⟨⟨e0, g1, g2, e3, e4, e5⟩, ⟨her0, hg1, hg2, her3, her4, her5⟩, ?_⟩
  have hd : cs.toList.drop 55 = [.int .u8 e3, .int .u8 e4, .int .u8 e5] := by
    have q3 : (cs.toList.drop 55).length = 3 := by rw [List.length_drop]; omega
    have q4 : (cs.toList.drop 55)[0]? = some (.int .u8 e3) := by rw [List.getElem?_drop]; exact he3
    have q5 : (cs.toList.drop 55)[1]? = some (.int .u8 e4) := by rw [List.getElem?_drop]; exact he4
    have q6 : (cs.toList.drop 55)[2]? = some (.int .u8 e5) := by rw [List.getElem?_drop]; exact he5
    match hq : cs.toList.drop 55, q3 with
    | [a, b, c], _ => rw [hq] at q4 q5 q6; simp at q4 q5 q6; rw [q4, q5, q6]
  have e : cs.toList = skcells ⟨e0, g1, g2, e3, e4, e5⟩ := by
    show cs.toList = .int .u8 e0 :: (gcells g1 ++ (gcells g2 ++ [.int .u8 e3, .int .u8 e4, .int .u8 e5]))
    rw [← hc1, ← hc2, ← hd]
    have k0 : cs.toList = .int .u8 e0 :: cs.toList.drop 1 := cons_of he0
    have k1 : cs.toList.drop 1 = (cs.toList.drop 1).take 27 ++ (cs.toList.drop 1).drop 27 := (List.take_append_drop 27 _).symm
    have k2 : cs.toList.drop 28 = (cs.toList.drop 28).take 27 ++ (cs.toList.drop 28).drop 27 := (List.take_append_drop 27 _).symm
    rw [List.drop_drop] at k1 k2
    rw [← k2, ← k1, ← k0]
  rw [← e, Array.toArray_toList]
set_option maxRecDepth 100000 in
/-- a witness that came in -/
theorem witArg_of {b0 : Nat} {v : Value} {d : DataW H} {p : List MemPlace} (hv : Value.okWide Tryd.prog W .any b0 32 v) (h : DataW.Trod enc Tryd.prog W 0 spare held 32 v d p) (hsp : ∀ b, spare b = true) :
    ∃ (V : Option Addr) (nw cw : Nat) (ws : List Int) (ev : Int), SlArg .i64 W V nw cw ws ∧ v = .agg #[.slice V nw cw, .int .i64 ev] := by
  obtain ⟨cs, rfl, hsz⟩ := okWide_struct Tryd.underlying32 hv
  obtain ⟨fuel, hf⟩ := h
  have hf : DataW.trod enc Tryd.prog W 0 spare held fuel 32 cs.toList = some (d, p) := hf
  obtain ⟨xs, n, _, _, hl, hn, hi⟩ := DataW.trod_struct Tryd.underlying32 hf
  have hn2 : xs.length = 2 := hn
  have hl2 : cs.toList.length = 2 := by rw [hl]; kernel_rfl
  have h0 := (hi 0 _ rfl).trans (List.getElem?_eq_getElem (by omega : 0 < xs.length))
  have h1 := (hi 1 _ rfl).trans (List.getElem?_eq_getElem (by omega : 1 < xs.length))
  simp only [List.getElem_toArray, List.getElem_cons_zero, List.getElem_cons_succ] at h0 h1
  rw [show Tryd.prog.cellsOf 30 = 1 by kernel_rfl] at h0
  rw [show Tryd.prog.cellsOf 3 = 1 by kernel_rfl] at h1
  obtain ⟨v0, c0, t0⟩ := one_at (by omega) h0
  obtain ⟨v1, c1, t1⟩ := one_at (by omega) h1
  obtain ⟨a0, n0, p0, rfl⟩ := sl_of Tryd.underlying30 t0
  obtain ⟨ev, e1, _⟩ := DataW.trod_int Tryd.underlying3 t1
  simp only [List.cons.injEq, and_true] at e1
  subst e1
  obtain ⟨l0, hs⟩ := slArg_of (enc := enc) (W := W) (spare := spare) (held := held) (k := .i64) (d := _) (p := _) Tryd.underlying30 Tryd.underlying3 (by kernel_rfl) ⟨_, t0⟩ hsp
  refine ⟨a0, n0, p0, l0, ev, hs, ?_⟩
  congr 1
  apply Array.ext'
  match hq : cs.toList, hl2 with
  | [x0, x1], _ =>
    rw [hq] at c0 c1
    simp at c0 c1
    rw [c0, c1]
end
end Go.Proofs.YtioijhpbedmeaaaDoor
