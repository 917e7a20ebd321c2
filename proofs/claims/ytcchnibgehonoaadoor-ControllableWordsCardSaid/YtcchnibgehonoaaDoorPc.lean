/- From a row's readings to the walks' words: graphs, parts, problems (chapter 26). -/
import Derived.Test.YtcchnibgehonoaaDoorRow
import Derived.Test.YtcchnibgehonoaaDoorGe
import Derived.Deep.Strs
namespace Go.Proofs.YtcchnibgehonoaaDoor
open Go.ChangeShapes Go.WideShapes Go.ChangeAt Go.RowKit Go.Deep Go

def pcells (p : Pt) : List Value := .int .u8 p.ev :: gcells p.g
section
variable {H : Type} {enc : TypeId × Value → H} {W : World} {base : Nat} {spare : Nat → Bool} {held : Bool}
theorem one_of {cs : List Value} {i : Nat} {v : Value} (h : (cs.drop i).take 1 = [v]) : cs[i]? = some v := by
 have h1 : ((cs.drop i).take 1)[0]? = some v := by rw [h]; rfl
 rw [List.getElem?_take, if_pos (by omega), List.getElem?_drop] at h1
 simpa using h1
theorem u8_wf {z : Int} (h : (Lit.int .u8 z).wf = true) : 0 ≤ z ∧ z ≤ 255 := by
 simp [Lit.wf, IntKind.min, IntKind.max, IntKind.bits, IntKind.signed] at h
 omega
/-- five bytes -/
theorem row5_of {fuel : Nat} {cs : List Value} {x : DataW H × List MemPlace} (h : DataW.trod enc Tryd.prog W base spare held fuel 38 cs = some x) : ∀ j, j < 5 → ∃ z : Int, cs[j]? = some (.int .u8 z) ∧ 0 ≤ z ∧ z ≤ 255 := by
 obtain ⟨xs, m, _, _, _, hn, hi⟩ := DataW.trod_array Tryd.underlying38 h
 intro j hj
 have h1 := hi j hj
 rw [show Tryd.prog.cellsOf 5 = 1 by kernel_rfl, Nat.mul_one, List.getElem?_eq_getElem (by omega : j < xs.length)] at h1
 obtain ⟨z, hz, _, hw⟩ := DataW.trod_int Tryd.underlying5 h1
 exact ⟨z, one_of hz, u8_wf hw⟩
theorem row25_of {fuel : Nat} {cs : List Value} {x : DataW H × List MemPlace} (h : DataW.trod enc Tryd.prog W base spare held fuel 39 cs = some x) : ∃ l : List Int, l.length = 25 ∧ cs = bv l ∧ ∀ z ∈ l, 0 ≤ z ∧ z ≤ 255 := by
 obtain ⟨xs, m, _, _, hl, hn, hi⟩ := DataW.trod_array Tryd.underlying39 h
 have hl25 : cs.length = 25 := by rw [hl]; kernel_rfl
 obtain ⟨l, hll, hp⟩ := list_of (P := fun (k : Nat) (z : Int) => cs[k]? = some (.int .u8 z) ∧ 0 ≤ z ∧ z ≤ 255) 25 (fun k hk => by
  have h1 := hi (k / 5) (by omega)
  rw [show Tryd.prog.cellsOf 38 = 5 by kernel_rfl, List.getElem?_eq_getElem (by omega : k / 5 < xs.length)] at h1
  obtain ⟨z, hz, hw⟩ := row5_of h1 (k % 5) (by omega)
  rw [List.getElem?_take, if_pos (by omega), List.getElem?_drop, show k / 5 * 5 + k % 5 = k by omega] at hz
  exact ⟨z, hz, hw⟩)
 refine ⟨l, hll, ?_, fun z hz => ?_⟩
 ·refine List.ext_getElem? fun k => ?_
  rcases Nat.lt_or_ge k 25 with hk | hk
  ·have hg : l[k]? = some l[k] := List.getElem?_eq_getElem (by omega)
   rw [(hp k _ hg).1]
   simp [bv, hg]
  ·rw [List.getElem?_eq_none (by omega), List.getElem?_eq_none (by simp [bv]; omega)]
 ·obtain ⟨k, hk⟩ := List.getElem?_of_mem hz
  exact (hp k z hk).2
theorem cells_one {fuel : Nat} {cs : List Value} {o : Nat} {t : TypeId} {x : DataW H × List MemPlace} (ht : Tryd.prog.underlying t = some (.int .u8)) (hc : Tryd.prog.cellsOf t = 1) (h : DataW.trod enc Tryd.prog W base spare held fuel t ((cs.drop o).take (Tryd.prog.cellsOf t)) = some x) : ∃ z : Int, cs[o]? = some (.int .u8 z) ∧ 0 ≤ z ∧ z ≤ 255 := by
 rw [hc] at h
 obtain ⟨z, hz, _, hw⟩ := DataW.trod_int ht h
 exact ⟨z, one_of hz, u8_wf hw⟩
theorem cons_of {cs : List Value} {v : Value} (h : cs[0]? = some v) : cs = v :: cs.drop 1 := by
 cases cs with
 | nil => simp at h
 | cons a r => simp at h; subst h; rfl
/-- a graph that came in -/
theorem graph_of {fuel : Nat} {cs : List Value} {x : DataW H × List MemPlace} (h : DataW.trod enc Tryd.prog W base spare held fuel 41 cs = some x) : ∃ g : Gr, g.ok ∧ cs = gcells g := by
 obtain ⟨y0, y1, y2, n, _, hl, h0, h1, h2⟩ := trod_struct3 Tryd.underlying41 h
 have hl27 : cs.length = 27 := by rw [hl]; kernel_rfl
 obtain ⟨st, hs, hsr⟩ := cells_one Tryd.underlying5 (by kernel_rfl) h0
 obtain ⟨mb, hm, hmr⟩ := cells_one Tryd.underlying5 (by kernel_rfl) h1
 simp only at hs hm
 rw [show Tryd.prog.cellsOf 39 = 25 by kernel_rfl] at h2
 obtain ⟨to, ht, hto, htr⟩ := row25_of h2
 refine ⟨⟨st, mb, to⟩, ⟨hsr, hmr, ht, htr⟩, ?_⟩
 have e1 := cons_of hs
 have e2 : cs.drop 1 = .int .u8 mb :: (cs.drop 1).drop 1 := cons_of (by rw [List.getElem?_drop]; exact hm)
 rw [e1, e2, List.drop_drop]
 show _ = Value.int .u8 st :: Value.int .u8 mb :: bv to
 rw [← hto, List.take_of_length_le (by rw [List.length_drop]; simp only; omega)]
/-- a part that came in -/
theorem part_of {fuel : Nat} {cs : List Value} {x : DataW H × List MemPlace} (h : DataW.trod enc Tryd.prog W base spare held fuel 43 cs = some x) : ∃ p : Pt, p.ok ∧ cs = pcells p := by
 obtain ⟨y0, y1, n, _, hl, h0, h1⟩ := trod_struct2 Tryd.underlying43 h
 have hl28 : cs.length = 28 := by rw [hl]; kernel_rfl
 obtain ⟨ev, he, her⟩ := cells_one Tryd.underlying37 (by kernel_rfl) h0
 simp only at he
 rw [show Tryd.prog.cellsOf 41 = 27 by kernel_rfl] at h1
 obtain ⟨g, hg, hgc⟩ := graph_of h1
 refine ⟨⟨ev, g⟩, ⟨her, hg⟩, ?_⟩
 rw [cons_of he]
 show _ = Value.int .u8 ev :: gcells g
 rw [← hgc, List.take_of_length_le (by rw [List.length_drop]; simp only; omega)]
end
/-- a problem as the statements give it -/
structure Prm where
 pl : Pt
 rq : Pt
 un : Int
def Prm.ok (p : Prm) : Prop := p.pl.ok ∧ p.rq.ok ∧ 0 ≤ p.un ∧ p.un ≤ 255
def mcells (p : Prm) : List Value := pcells p.pl ++ (pcells p.rq ++ [.int .u8 p.un])
section
variable {H : Type} {enc : TypeId × Value → H} {W : World} {spare : Nat → Bool} {held : Bool}
theorem pcells_len {p : Pt} (h : p.ok) : (pcells p).length = 28 := by simp [pcells, gcells, bv, h.2.len]
set_option maxRecDepth 100000 in
theorem prmArg_of {b0 : Nat} {v : Value} {d : DataW H} {p : List MemPlace} (hv : Value.okWide Tryd.prog W .any b0 54 v) (h : DataW.Trod enc Tryd.prog W 0 spare held 54 v d p) : ∃ q : Prm, q.ok ∧ v = .agg (mcells q).toArray := by
 obtain ⟨cs, rfl, hsz⟩ := okWide_struct Tryd.underlying54 hv
 obtain ⟨fuel, hf⟩ := h
 have hf : DataW.trod enc Tryd.prog W 0 spare held fuel 54 cs.toList = some (d, p) := hf
 obtain ⟨y0, y1, y2, n, _, hl, h0, h1, h2⟩ := trod_struct3 Tryd.underlying54 hf
 have hl57 : cs.toList.length = 57 := by rw [hl]; kernel_rfl
 simp only at h0 h1 h2
 rw [show Tryd.prog.cellsOf 43 = 28 by kernel_rfl] at h0 h1
 obtain ⟨q0, g0, e0⟩ := part_of h0
 obtain ⟨q1, g1, e1⟩ := part_of h1
 obtain ⟨u, hu, hur⟩ := cells_one Tryd.underlying37 (by kernel_rfl) h2
 refine ⟨⟨q0, q1, u⟩, ⟨g0, g1, hur⟩, ?_⟩
 have hd : cs.toList.drop 56 = [.int .u8 u] := by
  have h3 : (cs.toList.drop 56).length = 1 := by rw [List.length_drop]; omega
  have h4 : (cs.toList.drop 56)[0]? = some (.int .u8 u) := by rw [List.getElem?_drop]; exact hu
  match hq : cs.toList.drop 56, h3 with
  | [v], _ => rw [hq] at h4; simp at h4; rw [h4]
 have e : cs.toList = mcells ⟨q0, q1, u⟩ := by
  show cs.toList = pcells q0 ++ (pcells q1 ++ [.int .u8 u])
  rw [← e0, ← e1, ← hd]
  have k1 : cs.toList = cs.toList.take 28 ++ cs.toList.drop 28 := (List.take_append_drop 28 _).symm
  have k2 : cs.toList.drop 28 = (cs.toList.drop 28).take 28 ++ (cs.toList.drop 28).drop 28 := (List.take_append_drop 28 _).symm
  rw [List.drop_drop] at k2
  rw [show (cs.toList.drop 0).take 28 = cs.toList.take 28 from rfl, ← k2, ← k1]
 rw [← e, Array.toArray_toList]
end
end Go.Proofs.YtcchnibgehonoaaDoor
