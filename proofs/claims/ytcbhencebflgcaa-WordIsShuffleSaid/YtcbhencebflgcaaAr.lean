/- From a row's readings to the walks' words: arrays of slices of integers, arrays of bytes. -/
import Derived.Test.YtcbhencebflgcaaRow
import Derived.Lib.SmallJoins
namespace Go.Proofs.Ytcbhencebflgcaa
open Go.ChangeShapes Go.WideShapes Go.ChangeAt Go.RowKit Go.Joins Go

section
variable {H : Type} {enc : TypeId × Value → H} {W : World} {spare : Nat → Bool} {held : Bool} {P : Program}

theorem slArgP_of {t e : TypeId} {k : IntKind} {a : Option Addr} {len cap : Nat} {d : DataW H} {p : List MemPlace}
    (ht : P.underlying t = some (.slice e)) (he : P.underlying e = some (.int k)) (hc : P.cellsOf e = 1) (h : DataW.Trod enc P W 0 spare held t (.slice a len cap) d p) (hsp : ∀ b, spare b = true) :
    ∃ l, SlArg k W a len cap l := by
  obtain ⟨fuel, hf⟩ := h
  rcases open_ints ht he hc hf with ⟨hcs, _⟩ | ⟨x, n, c, zs, hcs, _, hl, hm, hz, _, hcell, hwz⟩
  · simp [Value.cells] at hcs
    obtain ⟨rfl, rfl, rfl⟩ := hcs
    exact ⟨[], rfl, Nat.le_refl _, by omega, RdV.nil, fun x hx => by simp at hx⟩
  · simp [Value.cells] at hcs
    obtain ⟨rfl, rfl, rfl⟩ := hcs
    have hz' : zs.length = cap := by simpa [hsp] using hz
    refine ⟨zs.take len, by rw [List.length_take]; omega, hl, by simpa [maxLen] using hm, fun j u hu => ?_, fun y hy => hwz y (List.mem_of_mem_take hy)⟩
    rw [List.getElem?_map] at hu
    obtain ⟨y, hy, rfl⟩ := Option.map_eq_some_iff.1 hu
    have hj : j < (zs.take len).length := (List.getElem?_eq_some_iff.1 hy).1
    rw [List.length_take] at hj
    have hcj := hcell j (by omega)
    have hgy : zs.getD j 0 = y := by
      rw [List.getElem?_take, if_pos (by omega)] at hy
      simp [List.getD, hy]
    rw [hgy] at hcj
    refine ⟨x, rfl, ?_, hcj⟩
    have := World.block_lt_of_cell? W _ hcj
    rwa [block_of_add] at this

theorem okWide_array {r : Reach} {b0 n : Nat} {t e : TypeId} {v : Value} (ht : P.underlying t = some (.array n e)) (h : Value.okWide P W r b0 t v) : ∃ cs, v = .agg cs ∧ cs.size = P.cellsOf t := by
  simp only [Value.okWide, ht] at h
  obtain ⟨cs, h1, h2, _⟩ := h
  exact ⟨cs, h1, h2⟩
theorem slCell_of {t e : TypeId} {k : IntKind} {m : Nat} {c : Value} {y : DataW H × List MemPlace}
    (ht : P.underlying t = some (.slice e)) (he : P.underlying e = some (.int k)) (hc : P.cellsOf e = 1) (h : DataW.trod enc P W 0 spare held m t [c] = some y) (hsp : ∀ b, spare b = true) :
    ∃ a n r l, c = .slice a n r ∧ SlArg k W a n r l := by
  rcases open_ints ht he hc h with ⟨hcs, _⟩ | ⟨x, n, r, zs, hcs, _, _⟩
  · obtain rfl : c = .slice none 0 0 := by simpa using hcs
    obtain ⟨l, hl⟩ := slArgP_of (d := y.1) (p := y.2) ht he hc ⟨m, by simpa [Value.cells] using h⟩ hsp
    exact ⟨_, _, _, l, rfl, hl⟩
  · obtain rfl : c = .slice (some x) n r := by simpa using hcs
    obtain ⟨l, hl⟩ := slArgP_of (d := y.1) (p := y.2) ht he hc ⟨m, by simpa [Value.cells] using h⟩ hsp
    exact ⟨_, _, _, l, rfl, hl⟩
theorem two_of {n : Nat} {α : Type} {xs : List α} (h : xs.length = n) (i : Nat) (hi : i < n) : ∃ y, xs[i]? = some y := ⟨xs[i], List.getElem?_eq_getElem (by omega)⟩

theorem slArr2_of {b0 : Nat} {t s e : TypeId} {k : IntKind} {v : Value} {d : DataW H} {p : List MemPlace} (ht : P.underlying t = some (.array 2 s)) (hs : P.underlying s = some (.slice e)) (he : P.underlying e = some (.int k))
    (hct : P.cellsOf t = 2) (hcs : P.cellsOf s = 1) (hce : P.cellsOf e = 1) (hv : Value.okWide P W .any b0 t v) (h : DataW.Trod enc P W 0 spare held t v d p) (hsp : ∀ b, spare b = true) :
    ∃ a0 n0 c0 l0 a1 n1 c1 l1, v = .agg #[.slice a0 n0 c0, .slice a1 n1 c1] ∧ SlArg k W a0 n0 c0 l0 ∧ SlArg k W a1 n1 c1 l1 := by
  obtain ⟨cs, rfl, hsz⟩ := okWide_array ht hv
  obtain ⟨x0, x1, rfl⟩ := array2 (hsz.trans hct)
  obtain ⟨fuel, hf⟩ := h
  obtain ⟨xs, m, rfl, _, _, hn, hi⟩ := DataW.trod_array ht hf
  rw [hcs] at hi
  obtain ⟨y0, e0⟩ := two_of hn 0 (by omega)
  obtain ⟨y1, e1⟩ := two_of hn 1 (by omega)
  have h0 := hi 0 (by omega)
  have h1 := hi 1 (by omega)
  rw [e0] at h0
  rw [e1] at h1
  obtain ⟨a0, n0, c0, l0, rfl, w0⟩ := slCell_of hs he hce (by simpa [Value.cells] using h0) hsp
  obtain ⟨a1, n1, c1, l1, rfl, w1⟩ := slCell_of hs he hce (by simpa [Value.cells] using h1) hsp
  exact ⟨_, _, _, l0, _, _, _, l1, rfl, w0, w1⟩
theorem slArr3_of {b0 : Nat} {t s e : TypeId} {k : IntKind} {v : Value} {d : DataW H} {p : List MemPlace} (ht : P.underlying t = some (.array 3 s)) (hs : P.underlying s = some (.slice e)) (he : P.underlying e = some (.int k))
    (hct : P.cellsOf t = 3) (hcs : P.cellsOf s = 1) (hce : P.cellsOf e = 1) (hv : Value.okWide P W .any b0 t v) (h : DataW.Trod enc P W 0 spare held t v d p) (hsp : ∀ b, spare b = true) :
    ∃ a0 n0 c0 l0 a1 n1 c1 l1 a2 n2 c2 l2, v = .agg #[.slice a0 n0 c0, .slice a1 n1 c1, .slice a2 n2 c2] ∧ SlArg k W a0 n0 c0 l0 ∧ SlArg k W a1 n1 c1 l1 ∧ SlArg k W a2 n2 c2 l2 := by
  obtain ⟨cs, rfl, hsz⟩ := okWide_array ht hv
  obtain ⟨x0, x1, x2, rfl⟩ := array3 (hsz.trans hct)
  obtain ⟨fuel, hf⟩ := h
  obtain ⟨xs, m, rfl, _, _, hn, hi⟩ := DataW.trod_array ht hf
  rw [hcs] at hi
  obtain ⟨y0, e0⟩ := two_of hn 0 (by omega)
  obtain ⟨y1, e1⟩ := two_of hn 1 (by omega)
  obtain ⟨y2, e2⟩ := two_of hn 2 (by omega)
  have h0 := hi 0 (by omega)
  have h1 := hi 1 (by omega)
  have h2 := hi 2 (by omega)
  rw [e0] at h0
  rw [e1] at h1
  rw [e2] at h2
  obtain ⟨a0, n0, c0, l0, rfl, w0⟩ := slCell_of hs he hce (by simpa [Value.cells] using h0) hsp
  obtain ⟨a1, n1, c1, l1, rfl, w1⟩ := slCell_of hs he hce (by simpa [Value.cells] using h1) hsp
  obtain ⟨a2, n2, c2, l2, rfl, w2⟩ := slCell_of hs he hce (by simpa [Value.cells] using h2) hsp
  exact ⟨_, _, _, l0, _, _, _, l1, _, _, _, l2, rfl, w0, w1, w2⟩
theorem u8Arr2_of {b0 : Nat} {t e : TypeId} {k : IntKind} {v : Value} {d : DataW H} {p : List MemPlace} (ht : P.underlying t = some (.array 2 e)) (he : P.underlying e = some (.int k))
    (hct : P.cellsOf t = 2) (hce : P.cellsOf e = 1) (hv : Value.okWide P W .any b0 t v) (h : DataW.Trod enc P W 0 spare held t v d p) :
    ∃ n0 n1, v = .agg #[.int k n0, .int k n1] ∧ (Lit.int k n0).wf = true ∧ (Lit.int k n1).wf = true := by
  obtain ⟨cs, rfl, hsz⟩ := okWide_array ht hv
  obtain ⟨x0, x1, rfl⟩ := array2 (hsz.trans hct)
  obtain ⟨fuel, hf⟩ := h
  obtain ⟨xs, m, rfl, _, _, hn, hi⟩ := DataW.trod_array ht hf
  rw [hce] at hi
  obtain ⟨y0, e0⟩ := two_of hn 0 (by omega)
  obtain ⟨y1, e1⟩ := two_of hn 1 (by omega)
  have h0 := hi 0 (by omega)
  have h1 := hi 1 (by omega)
  rw [e0] at h0
  rw [e1] at h1
  obtain ⟨n0, k0, _, w0⟩ := DataW.trod_int he h0
  obtain ⟨n1, k1, _, w1⟩ := DataW.trod_int he h1
  simp [Value.cells] at k0 k1
  subst k0 k1
  exact ⟨_, _, rfl, w0, w1⟩
theorem u8Arr3_of {b0 : Nat} {t e : TypeId} {k : IntKind} {v : Value} {d : DataW H} {p : List MemPlace} (ht : P.underlying t = some (.array 3 e)) (he : P.underlying e = some (.int k))
    (hct : P.cellsOf t = 3) (hce : P.cellsOf e = 1) (hv : Value.okWide P W .any b0 t v) (h : DataW.Trod enc P W 0 spare held t v d p) :
    ∃ n0 n1 n2, v = .agg #[.int k n0, .int k n1, .int k n2] ∧ (Lit.int k n0).wf = true ∧ (Lit.int k n1).wf = true ∧ (Lit.int k n2).wf = true := by
  obtain ⟨cs, rfl, hsz⟩ := okWide_array ht hv
  obtain ⟨x0, x1, x2, rfl⟩ := array3 (hsz.trans hct)
  obtain ⟨fuel, hf⟩ := h
  obtain ⟨xs, m, rfl, _, _, hn, hi⟩ := DataW.trod_array ht hf
  rw [hce] at hi
  obtain ⟨y0, e0⟩ := two_of hn 0 (by omega)
  obtain ⟨y1, e1⟩ := two_of hn 1 (by omega)
  obtain ⟨y2, e2⟩ := two_of hn 2 (by omega)
  have h0 := hi 0 (by omega)
  have h1 := hi 1 (by omega)
  have h2 := hi 2 (by omega)
  rw [e0] at h0
  rw [e1] at h1
  rw [e2] at h2
  obtain ⟨n0, k0, _, w0⟩ := DataW.trod_int he h0
  obtain ⟨n1, k1, _, w1⟩ := DataW.trod_int he h1
  obtain ⟨n2, k2, _, w2⟩ := DataW.trod_int he h2
  simp [Value.cells] at k0 k1 k2
  subst k0 k1 k2
  exact ⟨_, _, _, rfl, w0, w1, w2⟩
end
end Go.Proofs.Ytcbhencebflgcaa
