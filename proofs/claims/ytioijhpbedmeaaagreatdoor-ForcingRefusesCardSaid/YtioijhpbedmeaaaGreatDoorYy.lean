/- From a row's readings to the walks' words: systems (chapter 45). -/
import Derived.Test.YtioijhpbedmeaaaGreatDoorYk
namespace Go.Proofs.YtioijhpbedmeaaaGreatDoor
open Go.ChangeShapes Go.WideShapes Go.ChangeAt Go.RowKit Go.Deep Go

section
variable {H : Type} {enc : TypeId × Value → H} {W : World} {spare : Nat → Bool} {held : Bool}
set_option maxRecDepth 100000 in
theorem aut_cells {fuel : Nat} {cs : List Value} {y : DataW H × List MemPlace} (hf : DataW.trod enc Tryz.prog W 0 spare held fuel 33 cs = some y) (hsp : ∀ b, spare b = true) : ∃ x : AV, x.ok W W.heap.size ∧ cs = avc x := by
  obtain ⟨xs, n, _, _, hl, hn, hi⟩ := DataW.trod_struct Tryz.underlying33 hf
  have hn4 : xs.length = 4 := hn
  have hl4 : cs.length = 4 := by rw [hl]; kernel_rfl
  have h0 := (hi 0 _ rfl).trans (List.getElem?_eq_getElem (by omega : 0 < xs.length))
  have h1 := (hi 1 _ rfl).trans (List.getElem?_eq_getElem (by omega : 1 < xs.length))
  have h2 := (hi 2 _ rfl).trans (List.getElem?_eq_getElem (by omega : 2 < xs.length))
  have h3 := (hi 3 _ rfl).trans (List.getElem?_eq_getElem (by omega : 3 < xs.length))
  simp only [List.getElem_toArray, List.getElem_cons_zero, List.getElem_cons_succ] at h0 h1 h2 h3
  rw [show Tryz.prog.cellsOf 30 = 1 by kernel_rfl] at h0 h2
  rw [show Tryz.prog.cellsOf 3 = 1 by kernel_rfl] at h1
  rw [show Tryz.prog.cellsOf 31 = 1 by kernel_rfl] at h3
  obtain ⟨v0, c0, t0⟩ := one_at (by omega) h0
  obtain ⟨v1, c1, t1⟩ := one_at (by omega) h1
  obtain ⟨v2, c2, t2⟩ := one_at (by omega) h2
  obtain ⟨v3, c3, t3⟩ := one_at (by omega) h3
  obtain ⟨a0, n0, p0, rfl⟩ := sl_of Tryz.underlying30 t0
  obtain ⟨st, e1, _⟩ := DataW.trod_int Tryz.underlying3 t1
  simp only [List.cons.injEq, and_true] at e1
  subst e1
  obtain ⟨a2, n2, p2, rfl⟩ := sl_of Tryz.underlying30 t2
  obtain ⟨a3, n3, p3, rfl⟩ := sl_of Tryz.underlying31 t3
  obtain ⟨l0, q1, q2, q3, q4, _⟩ := slArg_of (enc := enc) (W := W) (spare := spare) (held := held) (k := .i64) (d := _) (p := _) Tryz.underlying30 Tryz.underlying3 (by kernel_rfl) ⟨_, t0⟩ hsp
  obtain ⟨l2, r1, r2, r3, r4, _⟩ := slArg_of (enc := enc) (W := W) (spare := spare) (held := held) (k := .i64) (d := _) (p := _) Tryz.underlying30 Tryz.underlying3 (by kernel_rfl) ⟨_, t2⟩ hsp
  obtain ⟨l3, s1, s2, s3, s4⟩ := edArg_of (enc := enc) (W := W) (spare := spare) (held := held) (d := _) (p := _) Tryz.underlying31 Tryz.underlying49 (by kernel_rfl) (by kernel_rfl) Tryz.underlying3 Tryz.underlying3 Tryz.underlying3 ⟨_, t3⟩ hsp
  refine ⟨⟨a0, n0, p0, a2, n2, p2, a3, n3, p3, ⟨l0, st, l2, l3⟩⟩, ⟨q1, q2, q3, q4, r1, r2, r3, r4, s1, s2, s3, s4⟩, ?_⟩
  clear hf hl hi h0 h1 h2 h3
  match cs, hl4, c0, c1, c2, c3 with
  | [x0, x1, x2, x3], _, c0, c1, c2, c3 =>
    simp at c0 c1 c2 c3
    rw [c0, c1, c2, c3]
    rfl
set_option maxRecDepth 100000 in
/-- a system that came in -/
theorem sysArg_of {b0 : Nat} {v : Value} {d : DataW H} {p : List MemPlace} (hv : Value.okWide Tryz.prog W .any b0 35 v) (h : DataW.Trod enc Tryz.prog W 0 spare held 35 v d p) (hsp : ∀ b, spare b = true) : ∃ z : SV, z.ok W W.heap.size ∧ v = .agg (svc z).toArray := by
  obtain ⟨cs, rfl, hsz⟩ := okWide_struct Tryz.underlying35 hv
  obtain ⟨fuel, hf⟩ := h
  have hf : DataW.trod enc Tryz.prog W 0 spare held fuel 35 cs.toList = some (d, p) := hf
  obtain ⟨xs, n, _, _, hl, hn, hi⟩ := DataW.trod_struct Tryz.underlying35 hf
  have hn5 : xs.length = 5 := hn
  have hl11 : cs.toList.length = 11 := by rw [hl]; kernel_rfl
  have h0 := (hi 0 _ rfl).trans (List.getElem?_eq_getElem (by omega : 0 < xs.length))
  have h1 := (hi 1 _ rfl).trans (List.getElem?_eq_getElem (by omega : 1 < xs.length))
  have h2 := (hi 2 _ rfl).trans (List.getElem?_eq_getElem (by omega : 2 < xs.length))
  have h3 := (hi 3 _ rfl).trans (List.getElem?_eq_getElem (by omega : 3 < xs.length))
  have h4 := (hi 4 _ rfl).trans (List.getElem?_eq_getElem (by omega : 4 < xs.length))
  simp only [List.getElem_toArray, List.getElem_cons_zero, List.getElem_cons_succ] at h0 h1 h2 h3 h4
  rw [show Tryz.prog.cellsOf 33 = 4 by kernel_rfl] at h0 h1
  rw [show Tryz.prog.cellsOf 30 = 1 by kernel_rfl] at h2 h3
  rw [show Tryz.prog.cellsOf 3 = 1 by kernel_rfl] at h4
  obtain ⟨x0, o0, e0⟩ := aut_cells h0 hsp
  obtain ⟨x1, o1, e1⟩ := aut_cells h1 hsp
  obtain ⟨v2, c2, t2⟩ := one_at (by omega) h2
  obtain ⟨v3, c3, t3⟩ := one_at (by omega) h3
  obtain ⟨v4, c4, t4⟩ := one_at (by omega) h4
  obtain ⟨a2, n2, p2, rfl⟩ := sl_of Tryz.underlying30 t2
  obtain ⟨a3, n3, p3, rfl⟩ := sl_of Tryz.underlying30 t3
  obtain ⟨tk, e4, _⟩ := DataW.trod_int Tryz.underlying3 t4
  simp only [List.cons.injEq, and_true] at e4
  subst e4
  obtain ⟨l2, q1, q2, q3, q4, _⟩ := slArg_of (enc := enc) (W := W) (spare := spare) (held := held) (k := .i64) (d := _) (p := _) Tryz.underlying30 Tryz.underlying3 (by kernel_rfl) ⟨_, t2⟩ hsp
  obtain ⟨l3, r1, r2, r3, r4, _⟩ := slArg_of (enc := enc) (W := W) (spare := spare) (held := held) (k := .i64) (d := _) (p := _) Tryz.underlying30 Tryz.underlying3 (by kernel_rfl) ⟨_, t3⟩ hsp
  refine ⟨⟨x0, x1, a2, n2, p2, l2, a3, n3, p3, l3, tk⟩, ⟨o0, o1, q1, q4, q2, q3, r1, r4, r2, r3⟩, ?_⟩
  have hd : cs.toList.drop 8 = [.slice a2 n2 p2, .slice a3 n3 p3, .int .i64 tk] := by
    have k3 : (cs.toList.drop 8).length = 3 := by rw [List.length_drop]; omega
    have k4 : (cs.toList.drop 8)[0]? = some (.slice a2 n2 p2) := by rw [List.getElem?_drop]; exact c2
    have k5 : (cs.toList.drop 8)[1]? = some (.slice a3 n3 p3) := by rw [List.getElem?_drop]; exact c3
    have k6 : (cs.toList.drop 8)[2]? = some (.int .i64 tk) := by rw [List.getElem?_drop]; exact c4
    match hq : cs.toList.drop 8, k3 with
    | [a, b, c], _ => rw [hq] at k4 k5 k6; simp at k4 k5 k6; rw [k4, k5, k6]
  have e : cs.toList = svc ⟨x0, x1, a2, n2, p2, l2, a3, n3, p3, l3, tk⟩ := by
    show cs.toList = avc x0 ++ (avc x1 ++ [.slice a2 n2 p2, .slice a3 n3 p3, .int .i64 tk])
    rw [← e0, ← e1, ← hd]
    have k1 : cs.toList.drop 4 = (cs.toList.drop 4).take 4 ++ (cs.toList.drop 4).drop 4 := (List.take_append_drop 4 _).symm
    rw [List.drop_drop] at k1
    rw [← k1, List.drop_zero, List.take_append_drop]
  rw [← e, Array.toArray_toList]
end
end Go.Proofs.YtioijhpbedmeaaaGreatDoor
