/- The law ProductOrders: its walk. -/
import Derived.Test.YtbdliebjalghmaaDoorOk
import Derived.Test.YtbdliebjalghmaaDoorGf
import Derived.Test.YtbdliebjalghmaaDoorMn
import Derived.Test.YtbdliebjalghmaaDoorRy
import Derived.Deep.Cut
namespace Go.Proofs.YtbdliebjalghmaaDoor
section
open Go.ChangeShapes Go.WideShapes Go.ChangeAt Go.RowKit Go.Deep Go
section
variable {H : Type} {enc : TypeId × Value → H} {W : World} {spare : Nat → Bool} {held : Bool} {P : Program}
theorem okWide_arrayP {r : Reach} {b0 n : Nat} {t e : TypeId} {v : Value} (ht : P.underlying t = some (.array n e)) (h : Value.okWide P W r b0 t v) : ∃ cs, v = .agg cs ∧ cs.size = P.cellsOf t := by
  simp only [Value.okWide, ht] at h
  obtain ⟨cs, h1, h2, _⟩ := h
  exact ⟨cs, h1, h2⟩
theorem three_list (L : List Value) (h : L.length = 84) : L = (L.drop (0 * 28)).take 28 ++ ((L.drop (1 * 28)).take 28 ++ ((L.drop (2 * 28)).take 28 ++ [])) := by
  have e1 : L = L.take 28 ++ L.drop 28 := (List.take_append_drop 28 L).symm
  have e2 : L.drop 28 = (L.drop 28).take 28 ++ (L.drop 28).drop 28 := (List.take_append_drop 28 _).symm
  have e3 : (L.drop 28).drop 28 = L.drop 56 := by rw [List.drop_drop]
  have e4 : (L.drop 56).take 28 = L.drop 56 := List.take_of_length_le (by rw [List.length_drop]; omega)
  show L = L.take 28 ++ ((L.drop 28).take 28 ++ ((L.drop 56).take 28 ++ []))
  rw [List.append_nil, e4, ← e3, ← e2, ← e1]
set_option maxRecDepth 100000 in
theorem parts3Arg_of {b0 : Nat} {v : Value} {d : DataW H} {p : List MemPlace} (hv : Value.okWide Tryd.prog W .any b0 78 v) (h : DataW.Trod enc Tryd.prog W 0 spare held 78 v d p) : ∃ l : List Pt, (l.length = 3 ∧ ∀ q ∈ l, q.ok) ∧ v = .agg (l.flatMap pcells).toArray := by
  obtain ⟨cs, rfl, hsz⟩ := okWide_arrayP Tryd.underlying78 hv
  obtain ⟨fuel, hf⟩ := h
  obtain ⟨xs, m, _, _, hl, hn, hi⟩ := DataW.trod_array Tryd.underlying78 hf
  have hl84 : cs.toList.length = 84 := by
    have : cs.size = 84 := by rw [hsz]; kernel_rfl
    simpa using this
  have hc28 : Tryd.prog.cellsOf 53 = 28 := by kernel_rfl
  have h0 := hi 0 (by omega)
  have h1 := hi 1 (by omega)
  have h2 := hi 2 (by omega)
  rw [hc28, List.getElem?_eq_getElem (by omega)] at h0 h1 h2
  obtain ⟨q0, g0, e0⟩ := part_of h0
  obtain ⟨q1, g1, e1⟩ := part_of h1
  obtain ⟨q2, g2, e2⟩ := part_of h2
  refine ⟨[q0, q1, q2], ⟨rfl, fun q hq => ?_⟩, ?_⟩
  · simp at hq; rcases hq with rfl | rfl | rfl <;> assumption
  · have e : cs.toList = [q0, q1, q2].flatMap pcells := by
      show cs.toList = pcells q0 ++ (pcells q1 ++ (pcells q2 ++ []))
      rw [← e0, ← e1, ← e2]
      exact three_list _ hl84
    rw [← e, Array.toArray_toList]
end
end
open Go.RowKit Go Go.Maps
section
variable {a b c r r' : Aut} {T T' : List (List Int)}
theorem three_sm (ha : Sm a) (hb : Sm b) (hc : Sm c) : ∀ z ∈ [a, b, c], Sm z := fun z hz => by simp at hz; rcases hz with rfl | rfl | rfl <;> assumption
theorem perm_acb (ha : Sm a) (hb : Sm b) (hc : Sm c) (hr : synR [a, b, c] = some (r, T)) (hr' : synR [a, c, b] = some (r', T')) : r' = r :=
  swap_all (l0 := [a]) (l3 := []) (fun z hz => (three_sm ha hb hc z hz).wf) hr hr'
theorem perm_bac (ha : Sm a) (hb : Sm b) (hc : Sm c) (hr : synR [a, b, c] = some (r, T)) (hr' : synR [b, a, c] = some (r', T')) : r' = r :=
  swap_all (l0 := []) (l3 := [c]) (fun z hz => (three_sm ha hb hc z hz).wf) hr hr'
theorem perm_bca (ha : Sm a) (hb : Sm b) (hc : Sm c) (hr : synR [a, b, c] = some (r, T)) (hr' : synR [b, c, a] = some (r', T')) : r' = r := by
  obtain ⟨q, S, hq⟩ := (syn_few (l := [b, a, c]) (three_sm hb ha hc) (by simp)).1
  rw [perm_acb hb ha hc hq hr', perm_bac ha hb hc hr hq]
theorem perm_cab (ha : Sm a) (hb : Sm b) (hc : Sm c) (hr : synR [a, b, c] = some (r, T)) (hr' : synR [c, a, b] = some (r', T')) : r' = r := by
  obtain ⟨q, S, hq⟩ := (syn_few (l := [a, c, b]) (three_sm ha hc hb) (by simp)).1
  rw [perm_bac ha hc hb hq hr', perm_acb ha hb hc hr hq]
theorem perm_cba (ha : Sm a) (hb : Sm b) (hc : Sm c) (hr : synR [a, b, c] = some (r, T)) (hr' : synR [c, b, a] = some (r', T')) : r' = r := by
  obtain ⟨q, S, hq⟩ := (syn_few (l := [b, c, a]) (three_sm hb hc ha) (by simp)).1
  rw [perm_bac hb hc ha hq hr', perm_bca ha hb hc hr hq]
end
/-- what three automata in any order give -/
theorem pick3 {l : List Aut} {p q s : Nat} {x y z r r' : Aut} {T T' : List (List Int)} (hl : l.length = 3) (hs : ∀ a ∈ l, Sm a) (hpq : p ≠ q) (hsum : p + q + s = 3) (hx : l[p]? = some x) (hy : l[q]? = some y) (hz : l[s]? = some z)
    (hr : synR l = some (r, T)) (hr' : synR [x, y, z] = some (r', T')) : r' = r := by
  match l, hl with
  | [a, b, c], _ =>
    have ha := hs a (by simp)
    have hb := hs b (by simp)
    have hc := hs c (by simp)
    have hp3 := (List.getElem?_eq_some_iff.1 hx).1
    have hq3 := (List.getElem?_eq_some_iff.1 hy).1
    have hs3 := (List.getElem?_eq_some_iff.1 hz).1
    simp only [List.length_cons, List.length_nil] at hp3 hq3 hs3
    have hc1 : (p = 0 ∧ q = 1 ∧ s = 2) ∨ (p = 0 ∧ q = 2 ∧ s = 1) ∨ (p = 1 ∧ q = 0 ∧ s = 2) ∨ (p = 1 ∧ q = 2 ∧ s = 0) ∨ (p = 2 ∧ q = 0 ∧ s = 1) ∨ (p = 2 ∧ q = 1 ∧ s = 0) := by omega
    rcases hc1 with ⟨rfl, rfl, rfl⟩ | ⟨rfl, rfl, rfl⟩ | ⟨rfl, rfl, rfl⟩ | ⟨rfl, rfl, rfl⟩ | ⟨rfl, rfl, rfl⟩ | ⟨rfl, rfl, rfl⟩ <;> simp at hx hy hz <;> subst hx hy hz
    · rw [hr] at hr'; injection hr' with hr'; injection hr' with h1 _; exact h1.symm
    · exact perm_acb ha hb hc hr hr'
    · exact perm_bac ha hb hc hr hr'
    · exact perm_bca ha hb hc hr hr'
    · exact perm_cab ha hb hc hr hr'
    · exact perm_cba ha hb hc hr hr'

/-- a variable that holds an automaton -/
structure VarA (w : World) (b : Nat) (x : AV) : Prop where
  blk : Blk w b 29 (avc x)
  ok : x.ok w w.heap.size
theorem VarA.new {w : World} {x : AV} (h : x.ok w w.heap.size) : VarA (w.alloc (.cells #[.slice x.A x.na x.ca, .int .i64 x.a.st, .slice x.M x.nm x.cm, .slice x.E x.ne x.ce] 29)) w.heap.size x :=
  ⟨Blk.new _ _ (avc x), AutR.more (AutR.below h (box_below _ _)) (box_below _ _).size⟩
theorem VarA.below {w w' : World} {b : Nat} {x : AV} (h : VarA w b x) (hb : Below w.heap.size w w') : VarA w' b x :=
  ⟨h.blk.below hb h.blk.lt, AutR.more (AutR.below h.ok hb) hb.size⟩
theorem VarA.put {w : World} {b q : Nat} {v0 v1 v2 v3 : Value} {x : AV} (hk : Blk w b 29 [v0, v1, v2, v3]) (hx : x.ok w w.heap.size) (hf : Fr3 q x.A x.M x.E) (hq : b ≤ q) :
    VarA ((((w.setCell ⟨b, 0, none⟩ (.slice x.A x.na x.ca)).setCell ⟨b, 1, none⟩ (.int .i64 x.a.st)).setCell ⟨b, 2, none⟩ (.slice x.M x.nm x.cm)).setCell ⟨b, 3, none⟩ (.slice x.E x.ne x.ce)) b x := by
  have hg : w.grownBy ((((w.setCell ⟨b, 0, none⟩ (.slice x.A x.na x.ca)).setCell ⟨b, 1, none⟩ (.int .i64 x.a.st)).setCell ⟨b, 2, none⟩ (.slice x.M x.nm x.cm)).setCell ⟨b, 3, none⟩ (.slice x.E x.ne x.ce)) (some b) := (((grown_setCell _ _ _ _).trans (grown_setCell _ _ _ _)).trans (grown_setCell _ _ _ _)).trans (grown_setCell _ _ _ _)
  exact ⟨(((hk.set (j := 0) (by simp) _).set (j := 1) (by simp) _).set (j := 2) (by simp) _).set (j := 3) (by simp) _, (AutR.keepF (r := b) hx (Fr3.mono hf hq) fun p h1 h2 => World.cell?_of_block (hg.block _ h1 (by intro e; injection e with e; omega))).more hg.size⟩
theorem put_below {w0 w : World} {b B : Nat} {v0 v1 v2 v3 : Value} (h : Below B w0 w) (hb : B ≤ b) : Below B w0 ((((w.setCell ⟨b, 0, none⟩ v0).setCell ⟨b, 1, none⟩ v1).setCell ⟨b, 2, none⟩ v2).setCell ⟨b, 3, none⟩ v3) :=
  (((h.setCell (p := ⟨b, 0, none⟩) hb _).setCell (p := ⟨b, 1, none⟩) hb _).setCell (p := ⟨b, 2, none⟩) hb _).setCell (p := ⟨b, 3, none⟩) hb _
theorem compose_lit (xs : List AV) (n sb : Nat) (r : Aut) (T : List (List Int)) (W : World) (hn : xs.length = n) (hn2 : n ≤ 3) (hk : Blk W sb 29 (xs.flatMap avc)) (hx : ∀ x ∈ xs, x.ok W W.heap.size) (hf : FewL (xs.map AV.a)) (hr : synR (xs.map AV.a) = some (r, T)) :
    Calls Tryd.prog 16 #[.slice (some ⟨sb, 0, none⟩) n n] W fun e w' => ∃ z : AV, e = .returned (.tuple #[.agg #[.slice z.A z.na z.ca, .int .i64 z.a.st, .slice z.M z.nm z.cm, .slice z.E z.ne z.ce], .int .i64 0]) ∧ z.a = r ∧ z.ok w' w'.heap.size ∧ Fr3 W.heap.size z.A z.M z.E ∧ Below W.heap.size W w' := by
  refine (compose_few _ n n xs r T W hn ⟨Blk.rdl hk, hx⟩ (Nat.le_refl _) (by omega) hf hr).mono ?_
  rintro e w' ⟨hb2, A, na, ca, M, nm, cm, E, ne, ce, rfl, ha, hfr⟩
  exact ⟨⟨A, na, ca, M, nm, cm, E, ne, ce, r⟩, rfl, rfl, ha, hfr, hb2⟩

section
variable {md : Region.Mode} {Q : Exit → Act → World → Prop} {A B : World → Prop} {q : Nat} {P : Program} {l : List Oper}
/-- Two that may come up. -/
theorem uTwo {i j : Nat} {oi oj : Oper} {r r' : List Oper} {f : Nat} {listed : Array Bool} {a : Act} {w : World} (hi : l.drop i = oi :: r) (hj : l.drop j = oj :: r') (hr : Region.ready md l.toArray listed = [i, j])
    (h1 : ∀ K : Act → World → Prop, (∀ a' w', heldU A B q (listed.setIfInBounds i true) w' → anyU P md l.toArray Q A B q f (listed.setIfInBounds i true) a' w' → K a' w') → if Region.wanted oi (yielded l.toArray a.tmps) then oi.wp P a w K Q else K (a.put oi.dst undef) w)
    (h2 : ∀ K : Act → World → Prop, (∀ a' w', heldU A B q (listed.setIfInBounds j true) w' → anyU P md l.toArray Q A B q f (listed.setIfInBounds j true) a' w' → K a' w') → if Region.wanted oj (yielded l.toArray a.tmps) then oj.wp P a w K Q else K (a.put oj.dst undef) w) :
    anyU P md l.toArray Q A B q (f + 1) listed a w := by
  refine ⟨fun h0 => (by rw [hr] at h0; cases h0), fun k hk => ?_⟩
  rw [hr] at hk
  have hk' : k = i ∨ k = j := by simpa using hk
  rcases hk' with rfl | rfl
  · have := h1 (fun a' w' => heldU A B q (listed.setIfInBounds k true) w' ∧ anyU P md l.toArray Q A B q f (listed.setIfInBounds k true) a' w') (fun a' w' h1 h2 => ⟨h1, h2⟩)
    unfold wpOp
    simp only [at_drop hi]
    split
    · rename_i hw; rw [if_pos hw] at this; exact .inl this
    · rename_i hw; rw [if_neg hw] at this; exact this
  · have := h2 (fun a' w' => heldU A B q (listed.setIfInBounds k true) w' ∧ anyU P md l.toArray Q A B q f (listed.setIfInBounds k true) a' w') (fun a' w' h1 h2 => ⟨h1, h2⟩)
    unfold wpOp
    simp only [at_drop hj]
    split
    · rename_i hw; rw [if_pos hw] at this; exact .inl this
    · rename_i hw; rw [if_neg hw] at this; exact this
end
/-- the four cells of an automaton -/
def CA (W : World) (p0 p1 p2 p3 : Addr) (x : AV) : Prop := W.cell? p0 = some (.slice x.A x.na x.ca) ∧ W.cell? p1 = some (.int .i64 x.a.st) ∧ W.cell? p2 = some (.slice x.M x.nm x.cm) ∧ W.cell? p3 = some (.slice x.E x.ne x.ce)
theorem CA.to {W W' : World} {p0 p1 p2 p3 : Addr} {x : AV} {B : Nat} (h : CA W p0 p1 p2 p3 x) (hb : Below B W W') (h0 : p0.block < B) (h1 : p1.block < B) (h2 : p2.block < B) (h3 : p3.block < B) : CA W' p0 p1 p2 p3 x :=
  ⟨(hb.cell h0).trans h.1, (hb.cell h1).trans h.2.1, (hb.cell h2).trans h.2.2.1, (hb.cell h3).trans h.2.2.2⟩
theorem CA.of_list {W : World} {B : Nat} {ad : Addr} {xs : List AV} {k : Nat} {x : AV} (h : RdL W B (some ad) xs) (hk : xs[k]? = some x) : CA W (ad.add (k * 4)) ⟨(ad.add (k * 4)).block, (ad.add (k * 4)).off + 1, none⟩ ⟨(ad.add (k * 4)).block, (ad.add (k * 4)).off + 2, none⟩ ⟨(ad.add (k * 4)).block, (ad.add (k * 4)).off + 3, none⟩ x ∧ ad.block < B := by
  obtain ⟨ad', e, hb, hc⟩ := h.1 k x hk
  injection e with e; subst e
  exact ⟨⟨hc 0 _ rfl, st_cells (j := 0) (hc 1 _ rfl), st_cells (j := 1) (hc 2 _ rfl), st_cells (j := 2) (hc 3 _ rfl)⟩, hb⟩
theorem CA.three {W : World} {B : Nat} {ad : Addr} {x0 x1 x2 : AV} (h : RdL W B (some ad) [x0, x1, x2]) :
    (CA W ad ⟨ad.block, ad.off + 1, none⟩ ⟨ad.block, ad.off + 2, none⟩ ⟨ad.block, ad.off + 3, none⟩ x0 ∧ CA W ⟨ad.block, ad.off + 4, none⟩ ⟨ad.block, ad.off + 5, none⟩ ⟨ad.block, ad.off + 6, none⟩ ⟨ad.block, ad.off + 7, none⟩ x1 ∧ CA W ⟨ad.block, ad.off + 8, none⟩ ⟨ad.block, ad.off + 9, none⟩ ⟨ad.block, ad.off + 10, none⟩ ⟨ad.block, ad.off + 11, none⟩ x2) ∧ ad.block < B := by
  obtain ⟨a0, e0, hb, h0⟩ := h.1 0 x0 rfl
  injection e0 with e0; subst e0
  obtain ⟨a1, e1, _, h1⟩ := h.1 1 x1 rfl
  injection e1 with e1; subst e1
  obtain ⟨a2, e2, _, h2⟩ := h.1 2 x2 rfl
  injection e2 with e2; subst e2
  exact ⟨⟨⟨h0 0 _ rfl, h0 1 _ rfl, h0 2 _ rfl, h0 3 _ rfl⟩, ⟨h1 0 _ rfl, h1 1 _ rfl, h1 2 _ rfl, h1 3 _ rfl⟩, ⟨h2 0 _ rfl, h2 1 _ rfl, h2 2 _ rfl, h2 3 _ rfl⟩⟩, hb⟩
theorem CA.var {w : World} {b : Nat} {x : AV} (h : VarA w b x) : CA w ⟨b, 0, none⟩ ⟨b, 1, none⟩ ⟨b, 2, none⟩ ⟨b, 3, none⟩ x := ⟨h.blk.cell (j := 0) rfl, h.blk.cell (j := 1) rfl, h.blk.cell (j := 2) rfl, h.blk.cell (j := 3) rfl⟩
theorem few_two {a b : Aut} (ha : Sm a) (hb : Sm b) : FewL [a, b] := few_of (fun z hz => by simp at hz; rcases hz with rfl | rfl <;> assumption) (by simp)
theorem two_st {a b r : Aut} {T : List (List Int)} (ha : Sm a) (hb : Sm b) (hr : synR [a, b] = some (r, T)) : WF r ∧ r.st.toNat ≤ 25 := by
  have hw := (few_two ha hb).wf
  have h1 : prodN [a, b] ≤ 25 := by
    have := prodN_sm (l := [a, b]) (fun z hz => by simp at hz; rcases hz with rfl | rfl <;> assumption)
    simpa using this
  exact ⟨syn_wf hw (by omega) hr, Nat.le_trans (syn_st hw (by omega) hr) h1⟩
theorem few_left {a b c rl : Aut} {Tl : List (List Int)} (ha : Sm a) (hb : Sm b) (hc : Sm c) (h : synR [a, b] = some (rl, Tl)) :
    FewL [rl, c] ∧ ∀ rc Tc r T, synR [rl, c] = some (rc, Tc) → synR [a, b, c] = some (r, T) → rc = r := by
  obtain ⟨h1, h2⟩ := two_st ha hb h
  have h3 := hc.st
  refine ⟨FewL.of_prod (two_wf h1 hc.wf) (fun z hz => ?_) (by simp) ?_, fun rc Tc r T e1 e2 => ?_⟩
  · simp at hz
    rcases hz with rfl | rfl
    · have := h1.st0; omega
    · omega
  · show rl.st.toNat * (c.st.toNat * 1) ≤ 4096
    have := Nat.mul_le_mul h2 (show c.st.toNat * 1 ≤ 5 by omega)
    omega
  · have hp : prodN [a, b] ≤ 4096 := by
      have := prodN_sm (l := [a, b]) (fun z hz => by simp at hz; rcases hz with rfl | rfl <;> assumption)
      simp at this; omega
    exact (front_all (l1 := [a, b]) (l2 := [c]) (two_wf ha.wf hb.wf) (fun z hz => by obtain rfl := List.mem_singleton.1 hz; exact hc.wf) hp h e1 e2).symm
theorem few_right {a b c rr : Aut} {Tr : List (List Int)} (ha : Sm a) (hb : Sm b) (hc : Sm c) (h : synR [b, c] = some (rr, Tr)) :
    FewL [a, rr] ∧ ∀ rd Td r T, synR [a, rr] = some (rd, Td) → synR [a, b, c] = some (r, T) → rd = r := by
  obtain ⟨h1, h2⟩ := two_st hb hc h
  have h3 := ha.st
  refine ⟨FewL.of_prod (two_wf ha.wf h1) (fun z hz => ?_) (by simp) ?_, fun rd Td r T e1 e2 => ?_⟩
  · simp at hz
    rcases hz with rfl | rfl
    · omega
    · have := h1.st0; omega
  · show a.st.toNat * (rr.st.toNat * 1) ≤ 4096
    have := Nat.mul_le_mul (show a.st.toNat ≤ 5 by omega) (show rr.st.toNat * 1 ≤ 25 by omega)
    omega
  · have hp : prodN [b, c] ≤ 4096 := by
      have := prodN_sm (l := [b, c]) (fun z hz => by simp at hz; rcases hz with rfl | rfl <;> assumption)
      simp at this; omega
    exact (back_all (l1 := [a]) (l2 := [b, c]) (fun z hz => by obtain rfl := List.mem_singleton.1 hz; exact ha.wf) (two_wf hb.wf hc.wf) hp h e1 e2).symm
theorem ok_below {xs : List AV} {W W' : World} (h : ∀ x ∈ xs, x.ok W W.heap.size) (hb : Below W.heap.size W W') : ∀ x ∈ xs, x.ok W' W'.heap.size := fun x hx => AutR.more (AutR.below (h x hx) hb) hb.size


set_option maxRecDepth 100000 in
set_option maxHeartbeats 6400000 in
theorem orders_walk (ps : List Pt) (o : Int) (w : World) (hps : ps.length = 3 ∧ ∀ q ∈ ps, q.ok) (o0 : 0 ≤ o) (o1 : o ≤ 255) :
    Calls Tryd.prog 10 #[.agg (ps.flatMap pcells).toArray, .int .u8 o] w fun e w' => e = .returned (.bool true) ∧ Below w.heap.size w w' := by
  have k3 : Blk (w.alloc (.cells (ps.flatMap pcells).toArray 78)) w.heap.size 78 (ps.flatMap pcells) := Blk.new w _ _
  have hB2 := box_below w (.cells (ps.flatMap pcells).toArray 78)
  have HK := Lib.hid (law_known (w.alloc (.cells (ps.flatMap pcells).toArray 78)))
  have HPS := Lib.hid hps; clear hps
  have K3 := Lib.hid k3; clear k3
  have HB2 := Lib.hid hB2; clear hB2
  go_enter Tryd.func10, Tryd.ntmps10
  go_wp2_with fail
  refine HK.out.mono ?_
  rintro e w1 ⟨rfl, hb1⟩
  have k1 := K3.out.below hb1 K3.out.lt
  have HB1 := Lib.hid (HB2.out.trans (hb1.mono HB2.out.size))
  have HRP := Lib.hid (show RdP w1 w1.heap.size (some ⟨w.heap.size, 0, none⟩) ps from ⟨Blk.rdr (fun z hz => by have := (HPS.out.2 z hz).2.len; simp [pcells, gcells, bv, this]) k1, HPS.out.2⟩)
  have HLI := Lib.hid (law_List (some ⟨w.heap.size, 0, none⟩) 3 3 ps w1 HPS.out.1 HRP.out)
  clear HK hb1 K3 HB2 k1
  go_wp2_with fail
  refine HLI.out.mono ?_
  rintro e w2 ⟨A2, n2, c2, xs, rfl, hm2, hl2, hc1, hc2, hr2, hb2⟩
  have hsl := lstA_sm HPS.out.2
  have hll : (lstA ps).length = 3 := by rw [lstA_len, HPS.out.1]; rfl
  obtain rfl : n2 = 3 := by rw [← hl2, ← hll, ← hm2, List.length_map]
  have HF := Lib.hid (few_of hsl (by omega))
  obtain ⟨r, T, hrT⟩ := HF.out.syn
  have HCM := Lib.hid (compose_few A2 c2 3 xs r T w2 hl2 hr2 hc1 hc2 (by rw [hm2]; exact HF.out) (by rw [hm2]; exact hrT))
  have hB2 := HB1.out.trans (hb2.mono HB1.out.size)
  have HRT := Lib.hid hrT; clear hrT
  have HSL := Lib.hid hsl; clear hsl
  have HLL := Lib.hid hll; clear hll
  have HM2 := Lib.hid hm2; clear hm2
  have HL2 := Lib.hid hl2; clear hl2
  have HR2 := Lib.hid hr2; clear hr2
  have HB2 := Lib.hid hB2; clear hB2
  clear hb2 HLI HB1 HRP
  go_wp2_with fail
  refine HCM.out.mono ?_
  intro e w3 hret
  obtain ⟨hb3, A3, na3, ca3, M3, nm3, cm3, E3, ne3, ce3, rfl, hr3, _⟩ := hret
  obtain ⟨za, hza⟩ : ∃ za : AV, za = ⟨A3, na3, ca3, M3, nm3, cm3, E3, ne3, ce3, r⟩ := ⟨_, rfl⟩
  have V6 := Lib.hid (show VarA (w3.alloc (.cells #[.slice A3 na3 ca3, .int .i64 r.st, .slice M3 nm3 cm3, .slice E3 ne3 ce3] 29)) w3.heap.size za by rw [hza]; exact VarA.new (x := ⟨A3, na3, ca3, M3, nm3, cm3, E3, ne3, ce3, r⟩) hr3)
  have hb3a := box_below w3 (.cells #[.slice A3 na3 ca3, .int .i64 r.st, .slice M3 nm3 cm3, .slice E3 ne3 ce3] 29)
  have hb3c := hb3.trans (hb3a.mono hb3.size)
  have HB3 := Lib.hid (HB2.out.trans (hb3c.mono HB2.out.size))
  have HR3 := Lib.hid ((HR2.out.below hb3c).more hb3c.size)
  have HZA := Lib.hid (show za.a = r by rw [hza])
  obtain ⟨p, hp⟩ : ∃ p : Nat, o % 3 = (p : Int) := ⟨(o % 3).toNat, by omega⟩
  obtain ⟨q, hq⟩ : ∃ q : Nat, ((p : Int) + 1 + o / 3 % 2) % 3 = (q : Int) := ⟨(((p : Int) + 1 + o / 3 % 2) % 3).toNat, by omega⟩
  have hp3 : p < 3 := by omega
  have hq3 : q < 3 := by omega
  have hpq : p ≠ q := by omega
  obtain ⟨s, hs⟩ : ∃ s : Nat, 3 - (p : Int) - (q : Int) = (s : Int) := ⟨(3 - (p : Int) - (q : Int)).toNat, by omega⟩
  have hs3 : s < 3 := by omega
  have hsum : p + q + s = 3 := by omega
  clear hb3 hb3a hb3c hr3 HCM HR2 HB2 hza
  obtain ⟨x, hx⟩ : ∃ x, xs[p]? = some x := ⟨_, List.getElem?_eq_getElem (by rw [HL2.out]; exact hp3)⟩
  obtain ⟨y, hy⟩ : ∃ y, xs[q]? = some y := ⟨_, List.getElem?_eq_getElem (by rw [HL2.out]; exact hq3)⟩
  obtain ⟨u, hu⟩ : ∃ u, xs[s]? = some u := ⟨_, List.getElem?_eq_getElem (by rw [HL2.out]; exact hs3)⟩
  obtain ⟨ad, ex, _, _⟩ := HR3.out.1 p x hx
  subst ex
  go_upto_region 7 with fail
  obtain ⟨w4, hw4⟩ : ∃ w4, w4 = w3.alloc (.cells #[.slice A3 na3 ca3, .int .i64 r.st, .slice M3 nm3 cm3, .slice E3 ne3 ce3] 29) := ⟨_, rfl⟩
  rw [← hw4] at V6 HB3 HR3 ⊢
  have HW4 := Lib.hid hw4; clear hw4
  go_cut [9, 10, 11] from 24 (fun _ s10 s11 wx => ∃ (b : Nat) (z : AV), s10 = .pointer (some ⟨b, 0, none⟩) ∧ s11 = .int .i64 0 ∧ Hid (z.a = r) ∧ Hid (VarA wx b z) ∧ Hid (Below w4.heap.size w4 wx))
  case first =>
    have hmap : ∀ {k : Nat} {v : AV}, xs[k]? = some v → (lstA ps)[k]? = some v.a := fun {k v} hk => by rw [← HM2.out, List.getElem?_map, hk]; rfl
    have hmem : ∀ v ∈ [x, y, u], v ∈ xs := fun v hv => by
      simp at hv
      rcases hv with rfl | rfl | rfl
      · exact List.mem_of_getElem? hx
      · exact List.mem_of_getElem? hy
      · exact List.mem_of_getElem? hu
    have HFX := Lib.hid (show FewL ([x, y, u].map AV.a) from few_of (fun z hz => by
      obtain ⟨v, hv, rfl⟩ := List.mem_map.1 hz
      exact HSL.out _ (by rw [← HM2.out]; exact List.mem_map.2 ⟨v, hmem v hv, rfl⟩)) (by simp))
    obtain ⟨r2, T2, hsx⟩ := HFX.out.syn
    have hr2 : r2 = r := pick3 HLL.out HSL.out hpq hsum (hmap hx) (hmap hy) (hmap hu) HRT.out hsx
    rw [hr2] at hsx
    clear hr2
    have HSX := Lib.hid hsx
    have HXL := Lib.hid (fun (W' : World) (h : Below w4.heap.size w4 W') => ok_below (xs := [x, y, u]) (fun v hv => HR3.out.2 v (hmem v hv)) h)
    have HAL := Lib.hid (show ∀ W', Below w4.heap.size w4 W' → (CA W' (ad.add (p * 4)) ⟨(ad.add (p * 4)).block, (ad.add (p * 4)).off + 1, none⟩ ⟨(ad.add (p * 4)).block, (ad.add (p * 4)).off + 2, none⟩ ⟨(ad.add (p * 4)).block, (ad.add (p * 4)).off + 3, none⟩ x ∧ CA W' (ad.add (q * 4)) ⟨(ad.add (q * 4)).block, (ad.add (q * 4)).off + 1, none⟩ ⟨(ad.add (q * 4)).block, (ad.add (q * 4)).off + 2, none⟩ ⟨(ad.add (q * 4)).block, (ad.add (q * 4)).off + 3, none⟩ y ∧ CA W' (ad.add (s * 4)) ⟨(ad.add (s * 4)).block, (ad.add (s * 4)).off + 1, none⟩ ⟨(ad.add (s * 4)).block, (ad.add (s * 4)).off + 2, none⟩ ⟨(ad.add (s * 4)).block, (ad.add (s * 4)).off + 3, none⟩ u) from fun W' hb => by
      obtain ⟨g1, gb⟩ := CA.of_list HR3.out hx
      obtain ⟨g2, _⟩ := CA.of_list HR3.out hy
      obtain ⟨g3, _⟩ := CA.of_list HR3.out hu
      have gp : ∀ k, (ad.add k).block < w4.heap.size := fun k => by rw [block_of_add]; exact gb
      exact ⟨g1.to hb (gp _) (gp _) (gp _) (gp _), g2.to hb (gp _) (gp _) (gp _) (gp _), g3.to hb (gp _) (gp _) (gp _) (gp _)⟩)
    have wr1 : IntKind.i64.wrap (3 - (p : Int)) = 3 - (p : Int) := IntWalk.i64_in _ (by omega)
    have wr2 : IntKind.i64.wrap (s : Int) = (s : Int) := IntWalk.i64_in _ (by omega)
    have i1 : (p : Int) < 3 := by omega
    have i2 : (q : Int) < 3 := by omega
    have i3 : (s : Int) < 3 := by omega
    clear hmap hmem hsx hx hy hu
    go_wp2
    refine wp_region_U (fun W => CA W (ad.add (p * 4)) ⟨(ad.add (p * 4)).block, (ad.add (p * 4)).off + 1, none⟩ ⟨(ad.add (p * 4)).block, (ad.add (p * 4)).off + 2, none⟩ ⟨(ad.add (p * 4)).block, (ad.add (p * 4)).off + 3, none⟩ x ∧ CA W (ad.add (q * 4)) ⟨(ad.add (q * 4)).block, (ad.add (q * 4)).off + 1, none⟩ ⟨(ad.add (q * 4)).block, (ad.add (q * 4)).off + 2, none⟩ ⟨(ad.add (q * 4)).block, (ad.add (q * 4)).off + 3, none⟩ y ∧ CA W (ad.add (s * 4)) ⟨(ad.add (s * 4)).block, (ad.add (s * 4)).off + 1, none⟩ ⟨(ad.add (s * 4)).block, (ad.add (s * 4)).off + 2, none⟩ ⟨(ad.add (s * 4)).block, (ad.add (s * 4)).off + 3, none⟩ u) (fun _ => True) 22 (by kernel_rfl) ?_
    change anyU _ _ _ _ _ _ _ 23 _ _ _
    have hB0 : True := trivial
    have hdr := below_dr w4
    have hA0 := HAL.out _ hdr
    generalize hwd : (w4).drew = wd at hdr hA0 ⊢
    have HWD := Lib.hid hwd; clear hwd
    have HDR := Lib.hid hdr
    have HAT := Lib.hid (fun (W' : World) (h : Below wd.heap.size wd W') => HAL.out W' (HDR.out.trans (h.mono HDR.out.size)))
    have HXS := Lib.hid (fun (W' : World) (h : Below wd.heap.size wd W') => HXL.out W' (HDR.out.trans (h.mono HDR.out.size)))
    clear hdr
    ((refine uTake (i := 0) (v := ?_) rfl (by kernel_rfl) (fun _ _ _ h => h) (by rfl) (fun W hA hB => ?_) ⟨hA0, fun _ => hB0⟩ ?_; rotate_left; (· (clear hB; (try dsimp only at hA); go_simp; try with_reducible rfl)); (try simp only [Act.put, List.setIfInBounds_toArray, List.set_cons_zero, List.set_cons_succ])); (refine uTake (i := 1) (v := ?_) rfl (by kernel_rfl) (fun _ _ _ h => h) (by rfl) (fun W hA hB => ?_) ⟨hA0, fun _ => hB0⟩ ?_; rotate_left; (· (clear hB; (try dsimp only at hA); go_simp; try with_reducible rfl)); (try simp only [Act.put, List.setIfInBounds_toArray, List.set_cons_zero, List.set_cons_succ])); (refine uTake (i := 2) (v := ?_) rfl (by kernel_rfl) (fun _ _ _ h => h) (by rfl) (fun W hA hB => ?_) ⟨hA0, fun _ => hB0⟩ ?_; rotate_left; (· (clear hB; (try dsimp only at hA); go_simp; try with_reducible rfl)); (try simp only [Act.put, List.setIfInBounds_toArray, List.set_cons_zero, List.set_cons_succ])))
    ((refine uTake (i := 3) (v := ?_) rfl (by kernel_rfl) (fun _ _ _ h => h) (by rfl) (fun W hA hB => ?_) ⟨hA0, fun _ => hB0⟩ ?_; rotate_left; (· (clear hB; (try dsimp only at hA); obtain ⟨⟨a0, a1, a2, a3⟩, _, _⟩ := hA; go_simp; try with_reducible rfl)); (try simp only [Act.put, List.setIfInBounds_toArray, List.set_cons_zero, List.set_cons_succ])))
    ((refine uTake (i := 4) (v := ?_) rfl (by kernel_rfl) (fun _ _ _ h => h) (by rfl) (fun W hA hB => ?_) ⟨hA0, fun _ => hB0⟩ ?_; rotate_left; (· (clear hB; (try dsimp only at hA); go_simp; try with_reducible rfl)); (try simp only [Act.put, List.setIfInBounds_toArray, List.set_cons_zero, List.set_cons_succ])); (refine uTake (i := 5) (v := ?_) rfl (by kernel_rfl) (fun _ _ _ h => h) (by rfl) (fun W hA hB => ?_) ⟨hA0, fun _ => hB0⟩ ?_; rotate_left; (· (clear hB; (try dsimp only at hA); go_simp; try with_reducible rfl)); (try simp only [Act.put, List.setIfInBounds_toArray, List.set_cons_zero, List.set_cons_succ])); (refine uTake (i := 6) (v := ?_) rfl (by kernel_rfl) (fun _ _ _ h => h) (by rfl) (fun W hA hB => ?_) ⟨hA0, fun _ => hB0⟩ ?_; rotate_left; (· (clear hB; (try dsimp only at hA); go_simp; try with_reducible rfl)); (try simp only [Act.put, List.setIfInBounds_toArray, List.set_cons_zero, List.set_cons_succ])))
    ((refine uTake (i := 7) (v := ?_) rfl (by kernel_rfl) (fun _ _ _ h => h) (by rfl) (fun W hA hB => ?_) ⟨hA0, fun _ => hB0⟩ ?_; rotate_left; (· (clear hB; (try dsimp only at hA); obtain ⟨_, ⟨a0, a1, a2, a3⟩, _⟩ := hA; go_simp; try with_reducible rfl)); (try simp only [Act.put, List.setIfInBounds_toArray, List.set_cons_zero, List.set_cons_succ])))
    ((refine uTake (i := 8) (v := ?_) rfl (by kernel_rfl) (fun _ _ _ h => h) (by rfl) (fun W hA hB => ?_) ⟨hA0, fun _ => hB0⟩ ?_; rotate_left; (· (clear hB; (try dsimp only at hA); go_simp; try with_reducible rfl)); (try simp only [Act.put, List.setIfInBounds_toArray, List.set_cons_zero, List.set_cons_succ])); (refine uTake (i := 9) (v := ?_) rfl (by kernel_rfl) (fun _ _ _ h => h) (by rfl) (fun W hA hB => ?_) ⟨hA0, fun _ => hB0⟩ ?_; rotate_left; (· (clear hB; (try dsimp only at hA); go_simp; try with_reducible rfl)); (try simp only [Act.put, List.setIfInBounds_toArray, List.set_cons_zero, List.set_cons_succ])); (refine uTake (i := 10) (v := ?_) rfl (by kernel_rfl) (fun _ _ _ h => h) (by rfl) (fun W hA hB => ?_) ⟨hA0, fun _ => hB0⟩ ?_; rotate_left; (· (clear hB; (try dsimp only at hA); go_simp; try with_reducible rfl)); (try simp only [Act.put, List.setIfInBounds_toArray, List.set_cons_zero, List.set_cons_succ])); (refine uTake (i := 11) (v := ?_) rfl (by kernel_rfl) (fun _ _ _ h => h) (by rfl) (fun W hA hB => ?_) ⟨hA0, fun _ => hB0⟩ ?_; rotate_left; (· (clear hB; (try dsimp only at hA); go_simp; try with_reducible rfl)); (try simp only [Act.put, List.setIfInBounds_toArray, List.set_cons_zero, List.set_cons_succ])); (refine uTake (i := 12) (v := ?_) rfl (by kernel_rfl) (fun _ _ _ h => h) (by rfl) (fun W hA hB => ?_) ⟨hA0, fun _ => hB0⟩ ?_; rotate_left; (· (clear hB; (try dsimp only at hA); go_simp; try with_reducible rfl)); (try simp only [Act.put, List.setIfInBounds_toArray, List.set_cons_zero, List.set_cons_succ])); (refine uTake (i := 13) (v := ?_) rfl (by kernel_rfl) (fun _ _ _ h => h) (by rfl) (fun W hA hB => ?_) ⟨hA0, fun _ => hB0⟩ ?_; rotate_left; (· (clear hB; (try dsimp only at hA); go_simp; try with_reducible rfl)); (try simp only [Act.put, List.setIfInBounds_toArray, List.set_cons_zero, List.set_cons_succ])))
    ((refine uTake (i := 14) (v := ?_) rfl (by kernel_rfl) (fun _ _ _ h => h) (by rfl) (fun W hA hB => ?_) ⟨hA0, fun _ => hB0⟩ ?_; rotate_left; (· (clear hB; (try dsimp only at hA); obtain ⟨_, _, ⟨a0, a1, a2, a3⟩⟩ := hA; go_simp; try with_reducible rfl)); (try simp only [Act.put, List.setIfInBounds_toArray, List.set_cons_zero, List.set_cons_succ])))
    refine uTwo (i := 15) (j := 20) rfl rfl (by kernel_rfl) (fun K hK => ?_) (fun K hK => ?_)
    · go_simp
      have HB1 := Lib.hid (box_below wd (.cells #[.slice x.A x.na x.ca, .int .i64 x.a.st, .slice x.M x.nm x.cm, .slice x.E x.ne x.ce, .slice y.A y.na y.ca, .int .i64 y.a.st, .slice y.M y.nm y.cm, .slice y.E y.ne y.ce, .slice u.A u.na u.ca, .int .i64 u.a.st, .slice u.M u.nm u.cm, .slice u.E u.ne u.ce] 29))
      have hA1 := HAT.out _ HB1.out
      (refine hK _ _ ⟨hA1, fun _ => hB0⟩ ?_; clear hK K; (try simp only [Act.put, List.setIfInBounds_toArray, List.set_cons_zero, List.set_cons_succ]))
      have HK1 := Lib.hid (show Blk (wd.alloc (.cells #[.slice x.A x.na x.ca, .int .i64 x.a.st, .slice x.M x.nm x.cm, .slice x.E x.ne x.ce, .slice y.A y.na y.ca, .int .i64 y.a.st, .slice y.M y.nm y.cm, .slice y.E y.ne y.ce, .slice u.A u.na u.ca, .int .i64 u.a.st, .slice u.M u.nm u.cm, .slice u.E u.ne u.ce] 29)) wd.heap.size 29 ([x, y, u].flatMap avc) from Blk.new wd 29 ([x, y, u].flatMap avc))
      have HC1 := Lib.hid (compose_lit [x, y, u] 3 wd.heap.size r T2 (wd.alloc (.cells #[.slice x.A x.na x.ca, .int .i64 x.a.st, .slice x.M x.nm x.cm, .slice x.E x.ne x.ce, .slice y.A y.na y.ca, .int .i64 y.a.st, .slice y.M y.nm y.cm, .slice y.E y.ne y.ce, .slice u.A u.na u.ca, .int .i64 u.a.st, .slice u.M u.nm u.cm, .slice u.E u.ne u.ce] 29)) rfl (by omega) HK1.out (HXS.out _ HB1.out) HFX.out HSX.out)
      refine uTwo (i := 16) (j := 20) rfl rfl (by kernel_rfl) (fun K hK => ?_) (fun K hK => ?_)
      · go_simp
        go_at_call 16
        refine HC1.out.mono ?_
        rintro e w9 ⟨z, rfl, hz, hzo, hfr, hb9⟩
        have HZ := Lib.hid hz; clear hz
        have HB9 := Lib.hid (HB1.out.trans (hb9.mono HB1.out.size))
        have HV := Lib.hid (VarA.new hzo)
        have hbz := HB9.out.trans ((box_below w9 (.cells #[.slice none 0 0, .int .i64 0, .slice none 0 0, .slice none 0 0] 29)).mono HB9.out.size)
        have hbf := HB9.out.trans ((box_below w9 (.cells #[.slice z.A z.na z.ca, .int .i64 z.a.st, .slice z.M z.nm z.cm, .slice z.E z.ne z.ce] 29)).mono HB9.out.size)
        have hA9 := HAT.out _ HB9.out
        have hAz := HAT.out _ hbz
        have hAf := HAT.out _ hbf
        have HBF := Lib.hid (HDR.out.trans (hbf.mono HDR.out.size))
        clear hA0 hA1 HC1 HK1 hzo hfr hb9 hbz hbf
        (refine hK _ _ ⟨hA9, fun _ => hB0⟩ ?_; clear hK K; (try simp only [Act.put, List.setIfInBounds_toArray, List.set_cons_zero, List.set_cons_succ]))
        have hA0 := hA9
        ((refine uTake (i := 17) (v := ?_) rfl (by kernel_rfl) (fun _ _ _ h => h) (by rfl) (fun W hA hB => ?_) ⟨hA0, fun _ => hB0⟩ ?_; rotate_left; (· (clear hB; (try dsimp only at hA); go_simp; try with_reducible rfl)); (try simp only [Act.put, List.setIfInBounds_toArray, List.set_cons_zero, List.set_cons_succ])); (refine uTake (i := 18) (v := ?_) rfl (by kernel_rfl) (fun _ _ _ h => h) (by rfl) (fun W hA hB => ?_) ⟨hA0, fun _ => hB0⟩ ?_; rotate_left; (· (clear hB; (try dsimp only at hA); go_simp; try with_reducible rfl)); (try simp only [Act.put, List.setIfInBounds_toArray, List.set_cons_zero, List.set_cons_succ])); (refine uTake (i := 19) (v := ?_) rfl (by kernel_rfl) (fun _ _ _ h => h) (by rfl) (fun W hA hB => ?_) ⟨hA0, fun _ => hB0⟩ ?_; rotate_left; (· (clear hB; (try dsimp only at hA); go_simp; try with_reducible rfl)); (try simp only [Act.put, List.setIfInBounds_toArray, List.set_cons_zero, List.set_cons_succ])))
        refine uOne (i := 20) rfl (by kernel_rfl) (fun K hK => ?_)
        go_simp
        (refine hK _ _ ⟨hAz, fun _ => hB0⟩ ?_; clear hK K; (try simp only [Act.put, List.setIfInBounds_toArray, List.set_cons_zero, List.set_cons_succ]))
        refine uOne (i := 21) rfl (by kernel_rfl) (fun K hK => ?_)
        go_simp
        (refine hK _ _ ⟨hAf, fun _ => hB0⟩ ?_; clear hK K; (try simp only [Act.put, List.setIfInBounds_toArray, List.set_cons_zero, List.set_cons_succ]))
        refine uOne (i := 22) rfl (by kernel_rfl) (fun K hK => ?_)
        go_simp
        (refine hK _ _ ⟨hAf, fun _ => hB0⟩ ?_; clear hK K; (try simp only [Act.put, List.setIfInBounds_toArray, List.set_cons_zero, List.set_cons_succ]))
        refine anyU_done (by kernel_rfl) ?_ _
        clear hA0 hA9 hAz hAf
        go_wp2_with fail
        go_meet
        case rel => exact ⟨_, z, rfl, rfl, HZ, HV, HBF⟩
      · go_simp
        have HB2 := Lib.hid (HB1.out.alloc HB1.out.size (.cells #[.slice none 0 0, .int .i64 0, .slice none 0 0, .slice none 0 0] 29))
        have hA2 := HAT.out _ HB2.out
        have HK2 := Lib.hid (HK1.out.alc (.cells #[.slice none 0 0, .int .i64 0, .slice none 0 0, .slice none 0 0] 29))
        have HKZ := Lib.hid (show Blk ((wd.alloc (.cells #[.slice x.A x.na x.ca, .int .i64 x.a.st, .slice x.M x.nm x.cm, .slice x.E x.ne x.ce, .slice y.A y.na y.ca, .int .i64 y.a.st, .slice y.M y.nm y.cm, .slice y.E y.ne y.ce, .slice u.A u.na u.ca, .int .i64 u.a.st, .slice u.M u.nm u.cm, .slice u.E u.ne u.ce] 29)).alloc (.cells #[.slice none 0 0, .int .i64 0, .slice none 0 0, .slice none 0 0] 29)) (wd.heap.size + 1) 29 [.slice none 0 0, .int .i64 0, .slice none 0 0, .slice none 0 0] by
          have := Blk.new (wd.alloc (.cells #[.slice x.A x.na x.ca, .int .i64 x.a.st, .slice x.M x.nm x.cm, .slice x.E x.ne x.ce, .slice y.A y.na y.ca, .int .i64 y.a.st, .slice y.M y.nm y.cm, .slice y.E y.ne y.ce, .slice u.A u.na u.ca, .int .i64 u.a.st, .slice u.M u.nm u.cm, .slice u.E u.ne u.ce] 29)) 29 [.slice none 0 0, .int .i64 0, .slice none 0 0, .slice none 0 0]
          rwa [World.size_alloc] at this)
        have HC2 := Lib.hid (compose_lit [x, y, u] 3 wd.heap.size r T2 ((wd.alloc (.cells #[.slice x.A x.na x.ca, .int .i64 x.a.st, .slice x.M x.nm x.cm, .slice x.E x.ne x.ce, .slice y.A y.na y.ca, .int .i64 y.a.st, .slice y.M y.nm y.cm, .slice y.E y.ne y.ce, .slice u.A u.na u.ca, .int .i64 u.a.st, .slice u.M u.nm u.cm, .slice u.E u.ne u.ce] 29)).alloc (.cells #[.slice none 0 0, .int .i64 0, .slice none 0 0, .slice none 0 0] 29)) rfl (by omega) HK2.out (HXS.out _ HB2.out) HFX.out HSX.out)
        clear HC1 HK1 hA1
        (refine hK _ _ ⟨hA2, fun _ => hB0⟩ ?_; clear hK K; (try simp only [Act.put, List.setIfInBounds_toArray, List.set_cons_zero, List.set_cons_succ]))
        refine uOne (i := 16) rfl (by kernel_rfl) (fun K hK => ?_)
        go_simp
        go_at_call 16
        refine HC2.out.mono ?_
        rintro e w9 ⟨z, rfl, hz, hzo, hfr, hb9⟩
        have HZ := Lib.hid hz; clear hz
        have hkz := HKZ.out.below hb9 HKZ.out.lt
        have f0 := hkz.free 0
        have f1 := hkz.free 1
        have f2 := hkz.free 2
        have f3 := hkz.free 3
        have e0 := hkz.cell (j := 0) rfl
        have e1 := hkz.cell (j := 1) rfl
        have e2 := hkz.cell (j := 2) rfl
        have e3 := hkz.cell (j := 3) rfl
        have l9 : (wd.heap.size + 1) < w9.heap.size := hkz.lt
        have HV := Lib.hid (VarA.put hkz hzo hfr (Nat.le_of_lt HKZ.out.lt))
        have hb29 := HB2.out.trans (hb9.mono HB2.out.size)
        have hbf := put_below (b := (wd.heap.size + 1)) (v0 := .slice z.A z.na z.ca) (v1 := .int .i64 z.a.st) (v2 := .slice z.M z.nm z.cm) (v3 := .slice z.E z.ne z.ce) hb29 (by omega)
        have hA9 := HAT.out _ hb29
        have hAf := HAT.out _ hbf
        have HBF := Lib.hid (HDR.out.trans (hbf.mono HDR.out.size))
        clear hA0 hA2 HC2 HK2 HKZ hzo hfr hb9 hb29 hbf hkz
        (refine hK _ _ ⟨hA9, fun _ => hB0⟩ ?_; clear hK K; (try simp only [Act.put, List.setIfInBounds_toArray, List.set_cons_zero, List.set_cons_succ]))
        have hA0 := hA9
        ((refine uTake (i := 17) (v := ?_) rfl (by kernel_rfl) (fun _ _ _ h => h) (by rfl) (fun W hA hB => ?_) ⟨hA0, fun _ => hB0⟩ ?_; rotate_left; (· (clear hB; (try dsimp only at hA); go_simp; try with_reducible rfl)); (try simp only [Act.put, List.setIfInBounds_toArray, List.set_cons_zero, List.set_cons_succ])); (refine uTake (i := 18) (v := ?_) rfl (by kernel_rfl) (fun _ _ _ h => h) (by rfl) (fun W hA hB => ?_) ⟨hA0, fun _ => hB0⟩ ?_; rotate_left; (· (clear hB; (try dsimp only at hA); go_simp; try with_reducible rfl)); (try simp only [Act.put, List.setIfInBounds_toArray, List.set_cons_zero, List.set_cons_succ])); (refine uTake (i := 19) (v := ?_) rfl (by kernel_rfl) (fun _ _ _ h => h) (by rfl) (fun W hA hB => ?_) ⟨hA0, fun _ => hB0⟩ ?_; rotate_left; (· (clear hB; (try dsimp only at hA); go_simp; try with_reducible rfl)); (try simp only [Act.put, List.setIfInBounds_toArray, List.set_cons_zero, List.set_cons_succ])))
        refine uOne (i := 21) rfl (by kernel_rfl) (fun K hK => ?_)
        go_simp
        (refine hK _ _ ⟨hAf, fun _ => hB0⟩ ?_; clear hK K; (try simp only [Act.put, List.setIfInBounds_toArray, List.set_cons_zero, List.set_cons_succ]))
        refine uOne (i := 22) rfl (by kernel_rfl) (fun K hK => ?_)
        go_simp
        (refine hK _ _ ⟨hAf, fun _ => hB0⟩ ?_; clear hK K; (try simp only [Act.put, List.setIfInBounds_toArray, List.set_cons_zero, List.set_cons_succ]))
        refine anyU_done (by kernel_rfl) ?_ _
        clear hA0 hA9 hAf f0 f1 f2 f3 e0 e1 e2 e3 l9
        go_wp2_with fail
        go_meet
        case rel => exact ⟨_, z, rfl, rfl, HZ, HV, HBF⟩
    · go_simp
      have HB0 := Lib.hid (box_below wd (.cells #[.slice none 0 0, .int .i64 0, .slice none 0 0, .slice none 0 0] 29))
      have hA1 := HAT.out _ HB0.out
      (refine hK _ _ ⟨hA1, fun _ => hB0⟩ ?_; clear hK K; (try simp only [Act.put, List.setIfInBounds_toArray, List.set_cons_zero, List.set_cons_succ]))
      have HB2 := Lib.hid (HB0.out.alloc HB0.out.size (.cells #[.slice x.A x.na x.ca, .int .i64 x.a.st, .slice x.M x.nm x.cm, .slice x.E x.ne x.ce, .slice y.A y.na y.ca, .int .i64 y.a.st, .slice y.M y.nm y.cm, .slice y.E y.ne y.ce, .slice u.A u.na u.ca, .int .i64 u.a.st, .slice u.M u.nm u.cm, .slice u.E u.ne u.ce] 29))
      have hA2 := HAT.out _ HB2.out
      have HKZ := Lib.hid ((Blk.new wd 29 [.slice none 0 0, .int .i64 0, .slice none 0 0, .slice none 0 0]).alc (.cells #[.slice x.A x.na x.ca, .int .i64 x.a.st, .slice x.M x.nm x.cm, .slice x.E x.ne x.ce, .slice y.A y.na y.ca, .int .i64 y.a.st, .slice y.M y.nm y.cm, .slice y.E y.ne y.ce, .slice u.A u.na u.ca, .int .i64 u.a.st, .slice u.M u.nm u.cm, .slice u.E u.ne u.ce] 29))
      have HK2 := Lib.hid (show Blk ((wd.alloc (.cells #[.slice none 0 0, .int .i64 0, .slice none 0 0, .slice none 0 0] 29)).alloc (.cells #[.slice x.A x.na x.ca, .int .i64 x.a.st, .slice x.M x.nm x.cm, .slice x.E x.ne x.ce, .slice y.A y.na y.ca, .int .i64 y.a.st, .slice y.M y.nm y.cm, .slice y.E y.ne y.ce, .slice u.A u.na u.ca, .int .i64 u.a.st, .slice u.M u.nm u.cm, .slice u.E u.ne u.ce] 29)) (wd.heap.size + 1) 29 ([x, y, u].flatMap avc) by
        have := Blk.new (wd.alloc (.cells #[.slice none 0 0, .int .i64 0, .slice none 0 0, .slice none 0 0] 29)) 29 ([x, y, u].flatMap avc)
        rwa [World.size_alloc] at this)
      have HC2 := Lib.hid (compose_lit [x, y, u] 3 (wd.heap.size + 1) r T2 ((wd.alloc (.cells #[.slice none 0 0, .int .i64 0, .slice none 0 0, .slice none 0 0] 29)).alloc (.cells #[.slice x.A x.na x.ca, .int .i64 x.a.st, .slice x.M x.nm x.cm, .slice x.E x.ne x.ce, .slice y.A y.na y.ca, .int .i64 y.a.st, .slice y.M y.nm y.cm, .slice y.E y.ne y.ce, .slice u.A u.na u.ca, .int .i64 u.a.st, .slice u.M u.nm u.cm, .slice u.E u.ne u.ce] 29)) rfl (by omega) HK2.out (HXS.out _ HB2.out) HFX.out HSX.out)
      clear hA0
      have hA0 := hA1
      refine uOne (i := 15) rfl (by kernel_rfl) (fun K hK => ?_)
      go_simp
      (refine hK _ _ ⟨hA2, fun _ => hB0⟩ ?_; clear hK K; (try simp only [Act.put, List.setIfInBounds_toArray, List.set_cons_zero, List.set_cons_succ]))
      refine uOne (i := 16) rfl (by kernel_rfl) (fun K hK => ?_)
      go_simp
      go_at_call 16
      refine HC2.out.mono ?_
      rintro e w9 ⟨z, rfl, hz, hzo, hfr, hb9⟩
      have HZ := Lib.hid hz; clear hz
      have hkz := HKZ.out.below hb9 HKZ.out.lt
      have f0 := hkz.free 0
      have f1 := hkz.free 1
      have f2 := hkz.free 2
      have f3 := hkz.free 3
      have e0 := hkz.cell (j := 0) rfl
      have e1 := hkz.cell (j := 1) rfl
      have e2 := hkz.cell (j := 2) rfl
      have e3 := hkz.cell (j := 3) rfl
      have l9 : wd.heap.size < w9.heap.size := hkz.lt
      have HV := Lib.hid (VarA.put hkz hzo hfr (Nat.le_of_lt HKZ.out.lt))
      have hb29 := HB2.out.trans (hb9.mono HB2.out.size)
      have hbf := put_below (b := wd.heap.size) (v0 := .slice z.A z.na z.ca) (v1 := .int .i64 z.a.st) (v2 := .slice z.M z.nm z.cm) (v3 := .slice z.E z.ne z.ce) hb29 (by omega)
      have hA9 := HAT.out _ hb29
      have hAf := HAT.out _ hbf
      have HBF := Lib.hid (HDR.out.trans (hbf.mono HDR.out.size))
      clear hA0 hA2 HC2 HK2 HKZ hzo hfr hb9 hb29 hbf hkz
      (refine hK _ _ ⟨hA9, fun _ => hB0⟩ ?_; clear hK K; (try simp only [Act.put, List.setIfInBounds_toArray, List.set_cons_zero, List.set_cons_succ]))
      have hA0 := hA9
      ((refine uTake (i := 17) (v := ?_) rfl (by kernel_rfl) (fun _ _ _ h => h) (by rfl) (fun W hA hB => ?_) ⟨hA0, fun _ => hB0⟩ ?_; rotate_left; (· (clear hB; (try dsimp only at hA); go_simp; try with_reducible rfl)); (try simp only [Act.put, List.setIfInBounds_toArray, List.set_cons_zero, List.set_cons_succ])); (refine uTake (i := 18) (v := ?_) rfl (by kernel_rfl) (fun _ _ _ h => h) (by rfl) (fun W hA hB => ?_) ⟨hA0, fun _ => hB0⟩ ?_; rotate_left; (· (clear hB; (try dsimp only at hA); go_simp; try with_reducible rfl)); (try simp only [Act.put, List.setIfInBounds_toArray, List.set_cons_zero, List.set_cons_succ])); (refine uTake (i := 19) (v := ?_) rfl (by kernel_rfl) (fun _ _ _ h => h) (by rfl) (fun W hA hB => ?_) ⟨hA0, fun _ => hB0⟩ ?_; rotate_left; (· (clear hB; (try dsimp only at hA); go_simp; try with_reducible rfl)); (try simp only [Act.put, List.setIfInBounds_toArray, List.set_cons_zero, List.set_cons_succ])))
      refine uOne (i := 21) rfl (by kernel_rfl) (fun K hK => ?_)
      go_simp
      (refine hK _ _ ⟨hAf, fun _ => hB0⟩ ?_; clear hK K; (try simp only [Act.put, List.setIfInBounds_toArray, List.set_cons_zero, List.set_cons_succ]))
      refine uOne (i := 22) rfl (by kernel_rfl) (fun K hK => ?_)
      go_simp
      (refine hK _ _ ⟨hAf, fun _ => hB0⟩ ?_; clear hK K; (try simp only [Act.put, List.setIfInBounds_toArray, List.set_cons_zero, List.set_cons_succ]))
      refine anyU_done (by kernel_rfl) ?_ _
      clear hA0 hA9 hAf f0 f1 f2 f3 e0 e1 e2 e3 l9
      go_wp2_with fail
      go_meet
      case rel => exact ⟨_, z, rfl, rfl, HZ, HV, HBF⟩
  case rest =>
    obtain ⟨b10, z10, rfl, rfl, HZ10, V10, HBN⟩ := hcut
    obtain ⟨w5, rfl⟩ : ∃ w5 : World, w5 = wc := ⟨_, rfl⟩
    obtain ⟨x0, x1, x2, rfl⟩ : ∃ x0 x1 x2, xs = [x0, x1, x2] := by
      have h1 := HL2.out
      match xs, h1 with
      | [x0, x1, x2], _ => exact ⟨x0, x1, x2, rfl⟩
    have hm3 : lstA ps = [x0.a, x1.a, x2.a] := HM2.out.symm
    have HRT3 := Lib.hid (show synR [x0.a, x1.a, x2.a] = some (r, T) by rw [← hm3]; exact HRT.out)
    have S0 := Lib.hid (HSL.out x0.a (by rw [hm3]; simp))
    have S1 := Lib.hid (HSL.out x1.a (by rw [hm3]; simp))
    have S2 := Lib.hid (HSL.out x2.a (by rw [hm3]; simp))
    have HR5 := Lib.hid ((HR3.out.below HBN.out).more HBN.out.size)
    have V6 := Lib.hid (V6.out.below HBN.out)
    have HB5 := Lib.hid (HB3.out.trans (HBN.out.mono HB3.out.size))
    clear hm3 hx hy hu HR3 HB3 HBN
    obtain ⟨rl, Tl, hsl⟩ := (few_two S0.out S1.out).syn
    obtain ⟨rr, Tr, hsr⟩ := (few_two S1.out S2.out).syn
    obtain ⟨HFc, hrc⟩ := few_left S0.out S1.out S2.out hsl
    obtain ⟨HFd, hrd⟩ := few_right S0.out S1.out S2.out hsr
    obtain ⟨rc, Tc, hsc⟩ := HFc.syn
    obtain ⟨rd, Td, hsd⟩ := HFd.syn
    have e1 := hrc _ _ _ _ hsc HRT3.out
    have e2 := hrd _ _ _ _ hsd HRT3.out
    rw [e1] at hsc
    rw [e2] at hsd
    have HSLL := Lib.hid hsl; clear hsl
    have HSRR := Lib.hid hsr; clear hsr
    have HSCC := Lib.hid hsc; clear hsc
    have HSDD := Lib.hid hsd; clear hsd
    have HFC := Lib.hid HFc; clear HFc
    have HFD := Lib.hid HFd; clear HFd
    clear hrc hrd e1 e2
    go_upto_region 8 with fail
    go_cut [12, 13] from 24 (fun s12 s13 wx => ∃ (b : Nat) (z : AV), s12 = .pointer (some ⟨b, 0, none⟩) ∧ s13 = .int .i64 0 ∧ Hid (z.a = rl) ∧ Hid (VarA wx b z) ∧ Hid (Below w5.heap.size w5 wx))
    case first =>
      have HFX := Lib.hid (few_two S0.out S1.out)
      have HSX := HSLL
      have HXL := Lib.hid (fun (W' : World) (h : Below w5.heap.size w5 W') => ok_below (xs := [x0, x1]) (fun v hv => HR5.out.2 v (by simp at hv; rcases hv with rfl | rfl <;> simp)) h)
      have HAL := Lib.hid (show ∀ W', Below w5.heap.size w5 W' → (CA W' ad ⟨ad.block, ad.off + 1, none⟩ ⟨ad.block, ad.off + 2, none⟩ ⟨ad.block, ad.off + 3, none⟩ x0 ∧ CA W' ⟨ad.block, ad.off + 4, none⟩ ⟨ad.block, ad.off + 5, none⟩ ⟨ad.block, ad.off + 6, none⟩ ⟨ad.block, ad.off + 7, none⟩ x1) from fun W' hb => by
        obtain ⟨⟨g1, g2, _⟩, gb⟩ := CA.three HR5.out
        exact ⟨g1.to hb gb gb gb gb, g2.to hb gb gb gb gb⟩)
      go_wp2
      refine wp_region_U (fun W => CA W ad ⟨ad.block, ad.off + 1, none⟩ ⟨ad.block, ad.off + 2, none⟩ ⟨ad.block, ad.off + 3, none⟩ x0 ∧ CA W ⟨ad.block, ad.off + 4, none⟩ ⟨ad.block, ad.off + 5, none⟩ ⟨ad.block, ad.off + 6, none⟩ ⟨ad.block, ad.off + 7, none⟩ x1) (fun _ => True) 13 (by kernel_rfl) ?_
      change anyU _ _ _ _ _ _ _ 14 _ _ _
      have hB0 : True := trivial
      have hdr := below_dr w5
      have hA0 := HAL.out _ hdr
      generalize hwd : (w5).drew = wd at hdr hA0 ⊢
      have HWD := Lib.hid hwd; clear hwd
      have HDR := Lib.hid hdr
      have HAT := Lib.hid (fun (W' : World) (h : Below wd.heap.size wd W') => HAL.out W' (HDR.out.trans (h.mono HDR.out.size)))
      have HXS := Lib.hid (fun (W' : World) (h : Below wd.heap.size wd W') => HXL.out W' (HDR.out.trans (h.mono HDR.out.size)))
      clear hdr
      ((refine uTake (i := 0) (v := ?_) rfl (by kernel_rfl) (fun _ _ _ h => h) (by rfl) (fun W hA hB => ?_) ⟨hA0, fun _ => hB0⟩ ?_; rotate_left; (· (clear hB; (try dsimp only at hA); go_simp; try with_reducible rfl)); (try simp only [Act.put, List.setIfInBounds_toArray, List.set_cons_zero, List.set_cons_succ])); (refine uTake (i := 1) (v := ?_) rfl (by kernel_rfl) (fun _ _ _ h => h) (by rfl) (fun W hA hB => ?_) ⟨hA0, fun _ => hB0⟩ ?_; rotate_left; (· (clear hB; (try dsimp only at hA); go_simp; try with_reducible rfl)); (try simp only [Act.put, List.setIfInBounds_toArray, List.set_cons_zero, List.set_cons_succ])))
      ((refine uTake (i := 2) (v := ?_) rfl (by kernel_rfl) (fun _ _ _ h => h) (by rfl) (fun W hA hB => ?_) ⟨hA0, fun _ => hB0⟩ ?_; rotate_left; (· (clear hB; (try dsimp only at hA); obtain ⟨⟨a0, a1, a2, a3⟩, _⟩ := hA; go_simp; try with_reducible rfl)); (try simp only [Act.put, List.setIfInBounds_toArray, List.set_cons_zero, List.set_cons_succ])))
      ((refine uTake (i := 3) (v := ?_) rfl (by kernel_rfl) (fun _ _ _ h => h) (by rfl) (fun W hA hB => ?_) ⟨hA0, fun _ => hB0⟩ ?_; rotate_left; (· (clear hB; (try dsimp only at hA); go_simp; try with_reducible rfl)); (try simp only [Act.put, List.setIfInBounds_toArray, List.set_cons_zero, List.set_cons_succ])); (refine uTake (i := 4) (v := ?_) rfl (by kernel_rfl) (fun _ _ _ h => h) (by rfl) (fun W hA hB => ?_) ⟨hA0, fun _ => hB0⟩ ?_; rotate_left; (· (clear hB; (try dsimp only at hA); go_simp; try with_reducible rfl)); (try simp only [Act.put, List.setIfInBounds_toArray, List.set_cons_zero, List.set_cons_succ])))
      ((refine uTake (i := 5) (v := ?_) rfl (by kernel_rfl) (fun _ _ _ h => h) (by rfl) (fun W hA hB => ?_) ⟨hA0, fun _ => hB0⟩ ?_; rotate_left; (· (clear hB; (try dsimp only at hA); obtain ⟨_, ⟨a0, a1, a2, a3⟩⟩ := hA; go_simp; try with_reducible rfl)); (try simp only [Act.put, List.setIfInBounds_toArray, List.set_cons_zero, List.set_cons_succ])))
      refine uTwo (i := 6) (j := 11) rfl rfl (by kernel_rfl) (fun K hK => ?_) (fun K hK => ?_)
      · go_simp
        have HB1 := Lib.hid (box_below wd (.cells #[.slice x0.A x0.na x0.ca, .int .i64 x0.a.st, .slice x0.M x0.nm x0.cm, .slice x0.E x0.ne x0.ce, .slice x1.A x1.na x1.ca, .int .i64 x1.a.st, .slice x1.M x1.nm x1.cm, .slice x1.E x1.ne x1.ce] 29))
        have hA1 := HAT.out _ HB1.out
        (refine hK _ _ ⟨hA1, fun _ => hB0⟩ ?_; clear hK K; (try simp only [Act.put, List.setIfInBounds_toArray, List.set_cons_zero, List.set_cons_succ]))
        have HK1 := Lib.hid (show Blk (wd.alloc (.cells #[.slice x0.A x0.na x0.ca, .int .i64 x0.a.st, .slice x0.M x0.nm x0.cm, .slice x0.E x0.ne x0.ce, .slice x1.A x1.na x1.ca, .int .i64 x1.a.st, .slice x1.M x1.nm x1.cm, .slice x1.E x1.ne x1.ce] 29)) wd.heap.size 29 ([x0, x1].flatMap avc) from Blk.new wd 29 ([x0, x1].flatMap avc))
        have HC1 := Lib.hid (compose_lit [x0, x1] 2 wd.heap.size rl Tl (wd.alloc (.cells #[.slice x0.A x0.na x0.ca, .int .i64 x0.a.st, .slice x0.M x0.nm x0.cm, .slice x0.E x0.ne x0.ce, .slice x1.A x1.na x1.ca, .int .i64 x1.a.st, .slice x1.M x1.nm x1.cm, .slice x1.E x1.ne x1.ce] 29)) rfl (by omega) HK1.out (HXS.out _ HB1.out) HFX.out HSX.out)
        refine uTwo (i := 7) (j := 11) rfl rfl (by kernel_rfl) (fun K hK => ?_) (fun K hK => ?_)
        · go_simp
          go_at_call 16
          refine HC1.out.mono ?_
          rintro e w9 ⟨z, rfl, hz, hzo, hfr, hb9⟩
          have HZ := Lib.hid hz; clear hz
          have HB9 := Lib.hid (HB1.out.trans (hb9.mono HB1.out.size))
          have HV := Lib.hid (VarA.new hzo)
          have hbz := HB9.out.trans ((box_below w9 (.cells #[.slice none 0 0, .int .i64 0, .slice none 0 0, .slice none 0 0] 29)).mono HB9.out.size)
          have hbf := HB9.out.trans ((box_below w9 (.cells #[.slice z.A z.na z.ca, .int .i64 z.a.st, .slice z.M z.nm z.cm, .slice z.E z.ne z.ce] 29)).mono HB9.out.size)
          have hA9 := HAT.out _ HB9.out
          have hAz := HAT.out _ hbz
          have hAf := HAT.out _ hbf
          have HBF := Lib.hid (HDR.out.trans (hbf.mono HDR.out.size))
          clear hA0 hA1 HC1 HK1 hzo hfr hb9 hbz hbf
          (refine hK _ _ ⟨hA9, fun _ => hB0⟩ ?_; clear hK K; (try simp only [Act.put, List.setIfInBounds_toArray, List.set_cons_zero, List.set_cons_succ]))
          have hA0 := hA9
          ((refine uTake (i := 8) (v := ?_) rfl (by kernel_rfl) (fun _ _ _ h => h) (by rfl) (fun W hA hB => ?_) ⟨hA0, fun _ => hB0⟩ ?_; rotate_left; (· (clear hB; (try dsimp only at hA); go_simp; try with_reducible rfl)); (try simp only [Act.put, List.setIfInBounds_toArray, List.set_cons_zero, List.set_cons_succ])); (refine uTake (i := 9) (v := ?_) rfl (by kernel_rfl) (fun _ _ _ h => h) (by rfl) (fun W hA hB => ?_) ⟨hA0, fun _ => hB0⟩ ?_; rotate_left; (· (clear hB; (try dsimp only at hA); go_simp; try with_reducible rfl)); (try simp only [Act.put, List.setIfInBounds_toArray, List.set_cons_zero, List.set_cons_succ])); (refine uTake (i := 10) (v := ?_) rfl (by kernel_rfl) (fun _ _ _ h => h) (by rfl) (fun W hA hB => ?_) ⟨hA0, fun _ => hB0⟩ ?_; rotate_left; (· (clear hB; (try dsimp only at hA); go_simp; try with_reducible rfl)); (try simp only [Act.put, List.setIfInBounds_toArray, List.set_cons_zero, List.set_cons_succ])))
          refine uOne (i := 11) rfl (by kernel_rfl) (fun K hK => ?_)
          go_simp
          (refine hK _ _ ⟨hAz, fun _ => hB0⟩ ?_; clear hK K; (try simp only [Act.put, List.setIfInBounds_toArray, List.set_cons_zero, List.set_cons_succ]))
          refine uOne (i := 12) rfl (by kernel_rfl) (fun K hK => ?_)
          go_simp
          (refine hK _ _ ⟨hAf, fun _ => hB0⟩ ?_; clear hK K; (try simp only [Act.put, List.setIfInBounds_toArray, List.set_cons_zero, List.set_cons_succ]))
          refine uOne (i := 13) rfl (by kernel_rfl) (fun K hK => ?_)
          go_simp
          (refine hK _ _ ⟨hAf, fun _ => hB0⟩ ?_; clear hK K; (try simp only [Act.put, List.setIfInBounds_toArray, List.set_cons_zero, List.set_cons_succ]))
          refine anyU_done (by kernel_rfl) ?_ _
          clear hA0 hA9 hAz hAf
          go_wp2_with fail
          go_meet
          case rel => exact ⟨_, z, rfl, rfl, HZ, HV, HBF⟩
        · go_simp
          have HB2 := Lib.hid (HB1.out.alloc HB1.out.size (.cells #[.slice none 0 0, .int .i64 0, .slice none 0 0, .slice none 0 0] 29))
          have hA2 := HAT.out _ HB2.out
          have HK2 := Lib.hid (HK1.out.alc (.cells #[.slice none 0 0, .int .i64 0, .slice none 0 0, .slice none 0 0] 29))
          have HKZ := Lib.hid (show Blk ((wd.alloc (.cells #[.slice x0.A x0.na x0.ca, .int .i64 x0.a.st, .slice x0.M x0.nm x0.cm, .slice x0.E x0.ne x0.ce, .slice x1.A x1.na x1.ca, .int .i64 x1.a.st, .slice x1.M x1.nm x1.cm, .slice x1.E x1.ne x1.ce] 29)).alloc (.cells #[.slice none 0 0, .int .i64 0, .slice none 0 0, .slice none 0 0] 29)) (wd.heap.size + 1) 29 [.slice none 0 0, .int .i64 0, .slice none 0 0, .slice none 0 0] by
            have := Blk.new (wd.alloc (.cells #[.slice x0.A x0.na x0.ca, .int .i64 x0.a.st, .slice x0.M x0.nm x0.cm, .slice x0.E x0.ne x0.ce, .slice x1.A x1.na x1.ca, .int .i64 x1.a.st, .slice x1.M x1.nm x1.cm, .slice x1.E x1.ne x1.ce] 29)) 29 [.slice none 0 0, .int .i64 0, .slice none 0 0, .slice none 0 0]
            rwa [World.size_alloc] at this)
          have HC2 := Lib.hid (compose_lit [x0, x1] 2 wd.heap.size rl Tl ((wd.alloc (.cells #[.slice x0.A x0.na x0.ca, .int .i64 x0.a.st, .slice x0.M x0.nm x0.cm, .slice x0.E x0.ne x0.ce, .slice x1.A x1.na x1.ca, .int .i64 x1.a.st, .slice x1.M x1.nm x1.cm, .slice x1.E x1.ne x1.ce] 29)).alloc (.cells #[.slice none 0 0, .int .i64 0, .slice none 0 0, .slice none 0 0] 29)) rfl (by omega) HK2.out (HXS.out _ HB2.out) HFX.out HSX.out)
          clear HC1 HK1 hA1
          (refine hK _ _ ⟨hA2, fun _ => hB0⟩ ?_; clear hK K; (try simp only [Act.put, List.setIfInBounds_toArray, List.set_cons_zero, List.set_cons_succ]))
          refine uOne (i := 7) rfl (by kernel_rfl) (fun K hK => ?_)
          go_simp
          go_at_call 16
          refine HC2.out.mono ?_
          rintro e w9 ⟨z, rfl, hz, hzo, hfr, hb9⟩
          have HZ := Lib.hid hz; clear hz
          have hkz := HKZ.out.below hb9 HKZ.out.lt
          have f0 := hkz.free 0
          have f1 := hkz.free 1
          have f2 := hkz.free 2
          have f3 := hkz.free 3
          have e0 := hkz.cell (j := 0) rfl
          have e1 := hkz.cell (j := 1) rfl
          have e2 := hkz.cell (j := 2) rfl
          have e3 := hkz.cell (j := 3) rfl
          have l9 : (wd.heap.size + 1) < w9.heap.size := hkz.lt
          have HV := Lib.hid (VarA.put hkz hzo hfr (Nat.le_of_lt HKZ.out.lt))
          have hb29 := HB2.out.trans (hb9.mono HB2.out.size)
          have hbf := put_below (b := (wd.heap.size + 1)) (v0 := .slice z.A z.na z.ca) (v1 := .int .i64 z.a.st) (v2 := .slice z.M z.nm z.cm) (v3 := .slice z.E z.ne z.ce) hb29 (by omega)
          have hA9 := HAT.out _ hb29
          have hAf := HAT.out _ hbf
          have HBF := Lib.hid (HDR.out.trans (hbf.mono HDR.out.size))
          clear hA0 hA2 HC2 HK2 HKZ hzo hfr hb9 hb29 hbf hkz
          (refine hK _ _ ⟨hA9, fun _ => hB0⟩ ?_; clear hK K; (try simp only [Act.put, List.setIfInBounds_toArray, List.set_cons_zero, List.set_cons_succ]))
          have hA0 := hA9
          ((refine uTake (i := 8) (v := ?_) rfl (by kernel_rfl) (fun _ _ _ h => h) (by rfl) (fun W hA hB => ?_) ⟨hA0, fun _ => hB0⟩ ?_; rotate_left; (· (clear hB; (try dsimp only at hA); go_simp; try with_reducible rfl)); (try simp only [Act.put, List.setIfInBounds_toArray, List.set_cons_zero, List.set_cons_succ])); (refine uTake (i := 9) (v := ?_) rfl (by kernel_rfl) (fun _ _ _ h => h) (by rfl) (fun W hA hB => ?_) ⟨hA0, fun _ => hB0⟩ ?_; rotate_left; (· (clear hB; (try dsimp only at hA); go_simp; try with_reducible rfl)); (try simp only [Act.put, List.setIfInBounds_toArray, List.set_cons_zero, List.set_cons_succ])); (refine uTake (i := 10) (v := ?_) rfl (by kernel_rfl) (fun _ _ _ h => h) (by rfl) (fun W hA hB => ?_) ⟨hA0, fun _ => hB0⟩ ?_; rotate_left; (· (clear hB; (try dsimp only at hA); go_simp; try with_reducible rfl)); (try simp only [Act.put, List.setIfInBounds_toArray, List.set_cons_zero, List.set_cons_succ])))
          refine uOne (i := 12) rfl (by kernel_rfl) (fun K hK => ?_)
          go_simp
          (refine hK _ _ ⟨hAf, fun _ => hB0⟩ ?_; clear hK K; (try simp only [Act.put, List.setIfInBounds_toArray, List.set_cons_zero, List.set_cons_succ]))
          refine uOne (i := 13) rfl (by kernel_rfl) (fun K hK => ?_)
          go_simp
          (refine hK _ _ ⟨hAf, fun _ => hB0⟩ ?_; clear hK K; (try simp only [Act.put, List.setIfInBounds_toArray, List.set_cons_zero, List.set_cons_succ]))
          refine anyU_done (by kernel_rfl) ?_ _
          clear hA0 hA9 hAf f0 f1 f2 f3 e0 e1 e2 e3 l9
          go_wp2_with fail
          go_meet
          case rel => exact ⟨_, z, rfl, rfl, HZ, HV, HBF⟩
      · go_simp
        have HB0 := Lib.hid (box_below wd (.cells #[.slice none 0 0, .int .i64 0, .slice none 0 0, .slice none 0 0] 29))
        have hA1 := HAT.out _ HB0.out
        (refine hK _ _ ⟨hA1, fun _ => hB0⟩ ?_; clear hK K; (try simp only [Act.put, List.setIfInBounds_toArray, List.set_cons_zero, List.set_cons_succ]))
        have HB2 := Lib.hid (HB0.out.alloc HB0.out.size (.cells #[.slice x0.A x0.na x0.ca, .int .i64 x0.a.st, .slice x0.M x0.nm x0.cm, .slice x0.E x0.ne x0.ce, .slice x1.A x1.na x1.ca, .int .i64 x1.a.st, .slice x1.M x1.nm x1.cm, .slice x1.E x1.ne x1.ce] 29))
        have hA2 := HAT.out _ HB2.out
        have HKZ := Lib.hid ((Blk.new wd 29 [.slice none 0 0, .int .i64 0, .slice none 0 0, .slice none 0 0]).alc (.cells #[.slice x0.A x0.na x0.ca, .int .i64 x0.a.st, .slice x0.M x0.nm x0.cm, .slice x0.E x0.ne x0.ce, .slice x1.A x1.na x1.ca, .int .i64 x1.a.st, .slice x1.M x1.nm x1.cm, .slice x1.E x1.ne x1.ce] 29))
        have HK2 := Lib.hid (show Blk ((wd.alloc (.cells #[.slice none 0 0, .int .i64 0, .slice none 0 0, .slice none 0 0] 29)).alloc (.cells #[.slice x0.A x0.na x0.ca, .int .i64 x0.a.st, .slice x0.M x0.nm x0.cm, .slice x0.E x0.ne x0.ce, .slice x1.A x1.na x1.ca, .int .i64 x1.a.st, .slice x1.M x1.nm x1.cm, .slice x1.E x1.ne x1.ce] 29)) (wd.heap.size + 1) 29 ([x0, x1].flatMap avc) by
          have := Blk.new (wd.alloc (.cells #[.slice none 0 0, .int .i64 0, .slice none 0 0, .slice none 0 0] 29)) 29 ([x0, x1].flatMap avc)
          rwa [World.size_alloc] at this)
        have HC2 := Lib.hid (compose_lit [x0, x1] 2 (wd.heap.size + 1) rl Tl ((wd.alloc (.cells #[.slice none 0 0, .int .i64 0, .slice none 0 0, .slice none 0 0] 29)).alloc (.cells #[.slice x0.A x0.na x0.ca, .int .i64 x0.a.st, .slice x0.M x0.nm x0.cm, .slice x0.E x0.ne x0.ce, .slice x1.A x1.na x1.ca, .int .i64 x1.a.st, .slice x1.M x1.nm x1.cm, .slice x1.E x1.ne x1.ce] 29)) rfl (by omega) HK2.out (HXS.out _ HB2.out) HFX.out HSX.out)
        clear hA0
        have hA0 := hA1
        refine uOne (i := 6) rfl (by kernel_rfl) (fun K hK => ?_)
        go_simp
        (refine hK _ _ ⟨hA2, fun _ => hB0⟩ ?_; clear hK K; (try simp only [Act.put, List.setIfInBounds_toArray, List.set_cons_zero, List.set_cons_succ]))
        refine uOne (i := 7) rfl (by kernel_rfl) (fun K hK => ?_)
        go_simp
        go_at_call 16
        refine HC2.out.mono ?_
        rintro e w9 ⟨z, rfl, hz, hzo, hfr, hb9⟩
        have HZ := Lib.hid hz; clear hz
        have hkz := HKZ.out.below hb9 HKZ.out.lt
        have f0 := hkz.free 0
        have f1 := hkz.free 1
        have f2 := hkz.free 2
        have f3 := hkz.free 3
        have e0 := hkz.cell (j := 0) rfl
        have e1 := hkz.cell (j := 1) rfl
        have e2 := hkz.cell (j := 2) rfl
        have e3 := hkz.cell (j := 3) rfl
        have l9 : wd.heap.size < w9.heap.size := hkz.lt
        have HV := Lib.hid (VarA.put hkz hzo hfr (Nat.le_of_lt HKZ.out.lt))
        have hb29 := HB2.out.trans (hb9.mono HB2.out.size)
        have hbf := put_below (b := wd.heap.size) (v0 := .slice z.A z.na z.ca) (v1 := .int .i64 z.a.st) (v2 := .slice z.M z.nm z.cm) (v3 := .slice z.E z.ne z.ce) hb29 (by omega)
        have hA9 := HAT.out _ hb29
        have hAf := HAT.out _ hbf
        have HBF := Lib.hid (HDR.out.trans (hbf.mono HDR.out.size))
        clear hA0 hA2 HC2 HK2 HKZ hzo hfr hb9 hb29 hbf hkz
        (refine hK _ _ ⟨hA9, fun _ => hB0⟩ ?_; clear hK K; (try simp only [Act.put, List.setIfInBounds_toArray, List.set_cons_zero, List.set_cons_succ]))
        have hA0 := hA9
        ((refine uTake (i := 8) (v := ?_) rfl (by kernel_rfl) (fun _ _ _ h => h) (by rfl) (fun W hA hB => ?_) ⟨hA0, fun _ => hB0⟩ ?_; rotate_left; (· (clear hB; (try dsimp only at hA); go_simp; try with_reducible rfl)); (try simp only [Act.put, List.setIfInBounds_toArray, List.set_cons_zero, List.set_cons_succ])); (refine uTake (i := 9) (v := ?_) rfl (by kernel_rfl) (fun _ _ _ h => h) (by rfl) (fun W hA hB => ?_) ⟨hA0, fun _ => hB0⟩ ?_; rotate_left; (· (clear hB; (try dsimp only at hA); go_simp; try with_reducible rfl)); (try simp only [Act.put, List.setIfInBounds_toArray, List.set_cons_zero, List.set_cons_succ])); (refine uTake (i := 10) (v := ?_) rfl (by kernel_rfl) (fun _ _ _ h => h) (by rfl) (fun W hA hB => ?_) ⟨hA0, fun _ => hB0⟩ ?_; rotate_left; (· (clear hB; (try dsimp only at hA); go_simp; try with_reducible rfl)); (try simp only [Act.put, List.setIfInBounds_toArray, List.set_cons_zero, List.set_cons_succ])))
        refine uOne (i := 12) rfl (by kernel_rfl) (fun K hK => ?_)
        go_simp
        (refine hK _ _ ⟨hAf, fun _ => hB0⟩ ?_; clear hK K; (try simp only [Act.put, List.setIfInBounds_toArray, List.set_cons_zero, List.set_cons_succ]))
        refine uOne (i := 13) rfl (by kernel_rfl) (fun K hK => ?_)
        go_simp
        (refine hK _ _ ⟨hAf, fun _ => hB0⟩ ?_; clear hK K; (try simp only [Act.put, List.setIfInBounds_toArray, List.set_cons_zero, List.set_cons_succ]))
        refine anyU_done (by kernel_rfl) ?_ _
        clear hA0 hA9 hAf f0 f1 f2 f3 e0 e1 e2 e3 l9
        go_wp2_with fail
        go_meet
        case rel => exact ⟨_, z, rfl, rfl, HZ, HV, HBF⟩
    case rest =>
      obtain ⟨b12, z12, rfl, rfl, HZ12, V12, HBN⟩ := hcut
      obtain ⟨w6, rfl⟩ : ∃ w6 : World, w6 = wc := ⟨_, rfl⟩
      have HR6 := Lib.hid ((HR5.out.below HBN.out).more HBN.out.size)
      have V6 := Lib.hid (V6.out.below HBN.out)
      have V10 := Lib.hid (V10.out.below HBN.out)
      have HB6 := Lib.hid (HB5.out.trans (HBN.out.mono HB5.out.size))
      clear HR5 HB5 HBN
      go_upto_region 9 with fail
      go_cut [14, 15] from 24 (fun s14 s15 wx => ∃ (b : Nat) (z : AV), s14 = .pointer (some ⟨b, 0, none⟩) ∧ s15 = .int .i64 0 ∧ Hid (z.a = rr) ∧ Hid (VarA wx b z) ∧ Hid (Below w6.heap.size w6 wx))
      case first =>
        have HFX := Lib.hid (few_two S1.out S2.out)
        have HSX := HSRR
        have HXL := Lib.hid (fun (W' : World) (h : Below w6.heap.size w6 W') => ok_below (xs := [x1, x2]) (fun v hv => HR6.out.2 v (by simp at hv; rcases hv with rfl | rfl <;> simp)) h)
        have HAL := Lib.hid (show ∀ W', Below w6.heap.size w6 W' → (CA W' ⟨ad.block, ad.off + 4, none⟩ ⟨ad.block, ad.off + 5, none⟩ ⟨ad.block, ad.off + 6, none⟩ ⟨ad.block, ad.off + 7, none⟩ x1 ∧ CA W' ⟨ad.block, ad.off + 8, none⟩ ⟨ad.block, ad.off + 9, none⟩ ⟨ad.block, ad.off + 10, none⟩ ⟨ad.block, ad.off + 11, none⟩ x2) from fun W' hb => by
          obtain ⟨⟨_, g1, g2⟩, gb⟩ := CA.three HR6.out
          exact ⟨g1.to hb gb gb gb gb, g2.to hb gb gb gb gb⟩)
        go_wp2
        refine wp_region_U (fun W => CA W ⟨ad.block, ad.off + 4, none⟩ ⟨ad.block, ad.off + 5, none⟩ ⟨ad.block, ad.off + 6, none⟩ ⟨ad.block, ad.off + 7, none⟩ x1 ∧ CA W ⟨ad.block, ad.off + 8, none⟩ ⟨ad.block, ad.off + 9, none⟩ ⟨ad.block, ad.off + 10, none⟩ ⟨ad.block, ad.off + 11, none⟩ x2) (fun _ => True) 13 (by kernel_rfl) ?_
        change anyU _ _ _ _ _ _ _ 14 _ _ _
        have hB0 : True := trivial
        have hdr := below_dr w6
        have hA0 := HAL.out _ hdr
        generalize hwd : (w6).drew = wd at hdr hA0 ⊢
        have HWD := Lib.hid hwd; clear hwd
        have HDR := Lib.hid hdr
        have HAT := Lib.hid (fun (W' : World) (h : Below wd.heap.size wd W') => HAL.out W' (HDR.out.trans (h.mono HDR.out.size)))
        have HXS := Lib.hid (fun (W' : World) (h : Below wd.heap.size wd W') => HXL.out W' (HDR.out.trans (h.mono HDR.out.size)))
        clear hdr
        ((refine uTake (i := 0) (v := ?_) rfl (by kernel_rfl) (fun _ _ _ h => h) (by rfl) (fun W hA hB => ?_) ⟨hA0, fun _ => hB0⟩ ?_; rotate_left; (· (clear hB; (try dsimp only at hA); go_simp; try with_reducible rfl)); (try simp only [Act.put, List.setIfInBounds_toArray, List.set_cons_zero, List.set_cons_succ])); (refine uTake (i := 1) (v := ?_) rfl (by kernel_rfl) (fun _ _ _ h => h) (by rfl) (fun W hA hB => ?_) ⟨hA0, fun _ => hB0⟩ ?_; rotate_left; (· (clear hB; (try dsimp only at hA); go_simp; try with_reducible rfl)); (try simp only [Act.put, List.setIfInBounds_toArray, List.set_cons_zero, List.set_cons_succ])))
        ((refine uTake (i := 2) (v := ?_) rfl (by kernel_rfl) (fun _ _ _ h => h) (by rfl) (fun W hA hB => ?_) ⟨hA0, fun _ => hB0⟩ ?_; rotate_left; (· (clear hB; (try dsimp only at hA); obtain ⟨⟨a0, a1, a2, a3⟩, _⟩ := hA; go_simp; try with_reducible rfl)); (try simp only [Act.put, List.setIfInBounds_toArray, List.set_cons_zero, List.set_cons_succ])))
        ((refine uTake (i := 3) (v := ?_) rfl (by kernel_rfl) (fun _ _ _ h => h) (by rfl) (fun W hA hB => ?_) ⟨hA0, fun _ => hB0⟩ ?_; rotate_left; (· (clear hB; (try dsimp only at hA); go_simp; try with_reducible rfl)); (try simp only [Act.put, List.setIfInBounds_toArray, List.set_cons_zero, List.set_cons_succ])); (refine uTake (i := 4) (v := ?_) rfl (by kernel_rfl) (fun _ _ _ h => h) (by rfl) (fun W hA hB => ?_) ⟨hA0, fun _ => hB0⟩ ?_; rotate_left; (· (clear hB; (try dsimp only at hA); go_simp; try with_reducible rfl)); (try simp only [Act.put, List.setIfInBounds_toArray, List.set_cons_zero, List.set_cons_succ])))
        ((refine uTake (i := 5) (v := ?_) rfl (by kernel_rfl) (fun _ _ _ h => h) (by rfl) (fun W hA hB => ?_) ⟨hA0, fun _ => hB0⟩ ?_; rotate_left; (· (clear hB; (try dsimp only at hA); obtain ⟨_, ⟨a0, a1, a2, a3⟩⟩ := hA; go_simp; try with_reducible rfl)); (try simp only [Act.put, List.setIfInBounds_toArray, List.set_cons_zero, List.set_cons_succ])))
        refine uTwo (i := 6) (j := 11) rfl rfl (by kernel_rfl) (fun K hK => ?_) (fun K hK => ?_)
        · go_simp
          have HB1 := Lib.hid (box_below wd (.cells #[.slice x1.A x1.na x1.ca, .int .i64 x1.a.st, .slice x1.M x1.nm x1.cm, .slice x1.E x1.ne x1.ce, .slice x2.A x2.na x2.ca, .int .i64 x2.a.st, .slice x2.M x2.nm x2.cm, .slice x2.E x2.ne x2.ce] 29))
          have hA1 := HAT.out _ HB1.out
          (refine hK _ _ ⟨hA1, fun _ => hB0⟩ ?_; clear hK K; (try simp only [Act.put, List.setIfInBounds_toArray, List.set_cons_zero, List.set_cons_succ]))
          have HK1 := Lib.hid (show Blk (wd.alloc (.cells #[.slice x1.A x1.na x1.ca, .int .i64 x1.a.st, .slice x1.M x1.nm x1.cm, .slice x1.E x1.ne x1.ce, .slice x2.A x2.na x2.ca, .int .i64 x2.a.st, .slice x2.M x2.nm x2.cm, .slice x2.E x2.ne x2.ce] 29)) wd.heap.size 29 ([x1, x2].flatMap avc) from Blk.new wd 29 ([x1, x2].flatMap avc))
          have HC1 := Lib.hid (compose_lit [x1, x2] 2 wd.heap.size rr Tr (wd.alloc (.cells #[.slice x1.A x1.na x1.ca, .int .i64 x1.a.st, .slice x1.M x1.nm x1.cm, .slice x1.E x1.ne x1.ce, .slice x2.A x2.na x2.ca, .int .i64 x2.a.st, .slice x2.M x2.nm x2.cm, .slice x2.E x2.ne x2.ce] 29)) rfl (by omega) HK1.out (HXS.out _ HB1.out) HFX.out HSX.out)
          refine uTwo (i := 7) (j := 11) rfl rfl (by kernel_rfl) (fun K hK => ?_) (fun K hK => ?_)
          · go_simp
            go_at_call 16
            refine HC1.out.mono ?_
            rintro e w9 ⟨z, rfl, hz, hzo, hfr, hb9⟩
            have HZ := Lib.hid hz; clear hz
            have HB9 := Lib.hid (HB1.out.trans (hb9.mono HB1.out.size))
            have HV := Lib.hid (VarA.new hzo)
            have hbz := HB9.out.trans ((box_below w9 (.cells #[.slice none 0 0, .int .i64 0, .slice none 0 0, .slice none 0 0] 29)).mono HB9.out.size)
            have hbf := HB9.out.trans ((box_below w9 (.cells #[.slice z.A z.na z.ca, .int .i64 z.a.st, .slice z.M z.nm z.cm, .slice z.E z.ne z.ce] 29)).mono HB9.out.size)
            have hA9 := HAT.out _ HB9.out
            have hAz := HAT.out _ hbz
            have hAf := HAT.out _ hbf
            have HBF := Lib.hid (HDR.out.trans (hbf.mono HDR.out.size))
            clear hA0 hA1 HC1 HK1 hzo hfr hb9 hbz hbf
            (refine hK _ _ ⟨hA9, fun _ => hB0⟩ ?_; clear hK K; (try simp only [Act.put, List.setIfInBounds_toArray, List.set_cons_zero, List.set_cons_succ]))
            have hA0 := hA9
            ((refine uTake (i := 8) (v := ?_) rfl (by kernel_rfl) (fun _ _ _ h => h) (by rfl) (fun W hA hB => ?_) ⟨hA0, fun _ => hB0⟩ ?_; rotate_left; (· (clear hB; (try dsimp only at hA); go_simp; try with_reducible rfl)); (try simp only [Act.put, List.setIfInBounds_toArray, List.set_cons_zero, List.set_cons_succ])); (refine uTake (i := 9) (v := ?_) rfl (by kernel_rfl) (fun _ _ _ h => h) (by rfl) (fun W hA hB => ?_) ⟨hA0, fun _ => hB0⟩ ?_; rotate_left; (· (clear hB; (try dsimp only at hA); go_simp; try with_reducible rfl)); (try simp only [Act.put, List.setIfInBounds_toArray, List.set_cons_zero, List.set_cons_succ])); (refine uTake (i := 10) (v := ?_) rfl (by kernel_rfl) (fun _ _ _ h => h) (by rfl) (fun W hA hB => ?_) ⟨hA0, fun _ => hB0⟩ ?_; rotate_left; (· (clear hB; (try dsimp only at hA); go_simp; try with_reducible rfl)); (try simp only [Act.put, List.setIfInBounds_toArray, List.set_cons_zero, List.set_cons_succ])))
            refine uOne (i := 11) rfl (by kernel_rfl) (fun K hK => ?_)
            go_simp
            (refine hK _ _ ⟨hAz, fun _ => hB0⟩ ?_; clear hK K; (try simp only [Act.put, List.setIfInBounds_toArray, List.set_cons_zero, List.set_cons_succ]))
            refine uOne (i := 12) rfl (by kernel_rfl) (fun K hK => ?_)
            go_simp
            (refine hK _ _ ⟨hAf, fun _ => hB0⟩ ?_; clear hK K; (try simp only [Act.put, List.setIfInBounds_toArray, List.set_cons_zero, List.set_cons_succ]))
            refine uOne (i := 13) rfl (by kernel_rfl) (fun K hK => ?_)
            go_simp
            (refine hK _ _ ⟨hAf, fun _ => hB0⟩ ?_; clear hK K; (try simp only [Act.put, List.setIfInBounds_toArray, List.set_cons_zero, List.set_cons_succ]))
            refine anyU_done (by kernel_rfl) ?_ _
            clear hA0 hA9 hAz hAf
            go_wp2_with fail
            go_meet
            case rel => exact ⟨_, z, rfl, rfl, HZ, HV, HBF⟩
          · go_simp
            have HB2 := Lib.hid (HB1.out.alloc HB1.out.size (.cells #[.slice none 0 0, .int .i64 0, .slice none 0 0, .slice none 0 0] 29))
            have hA2 := HAT.out _ HB2.out
            have HK2 := Lib.hid (HK1.out.alc (.cells #[.slice none 0 0, .int .i64 0, .slice none 0 0, .slice none 0 0] 29))
            have HKZ := Lib.hid (show Blk ((wd.alloc (.cells #[.slice x1.A x1.na x1.ca, .int .i64 x1.a.st, .slice x1.M x1.nm x1.cm, .slice x1.E x1.ne x1.ce, .slice x2.A x2.na x2.ca, .int .i64 x2.a.st, .slice x2.M x2.nm x2.cm, .slice x2.E x2.ne x2.ce] 29)).alloc (.cells #[.slice none 0 0, .int .i64 0, .slice none 0 0, .slice none 0 0] 29)) (wd.heap.size + 1) 29 [.slice none 0 0, .int .i64 0, .slice none 0 0, .slice none 0 0] by
              have := Blk.new (wd.alloc (.cells #[.slice x1.A x1.na x1.ca, .int .i64 x1.a.st, .slice x1.M x1.nm x1.cm, .slice x1.E x1.ne x1.ce, .slice x2.A x2.na x2.ca, .int .i64 x2.a.st, .slice x2.M x2.nm x2.cm, .slice x2.E x2.ne x2.ce] 29)) 29 [.slice none 0 0, .int .i64 0, .slice none 0 0, .slice none 0 0]
              rwa [World.size_alloc] at this)
            have HC2 := Lib.hid (compose_lit [x1, x2] 2 wd.heap.size rr Tr ((wd.alloc (.cells #[.slice x1.A x1.na x1.ca, .int .i64 x1.a.st, .slice x1.M x1.nm x1.cm, .slice x1.E x1.ne x1.ce, .slice x2.A x2.na x2.ca, .int .i64 x2.a.st, .slice x2.M x2.nm x2.cm, .slice x2.E x2.ne x2.ce] 29)).alloc (.cells #[.slice none 0 0, .int .i64 0, .slice none 0 0, .slice none 0 0] 29)) rfl (by omega) HK2.out (HXS.out _ HB2.out) HFX.out HSX.out)
            clear HC1 HK1 hA1
            (refine hK _ _ ⟨hA2, fun _ => hB0⟩ ?_; clear hK K; (try simp only [Act.put, List.setIfInBounds_toArray, List.set_cons_zero, List.set_cons_succ]))
            refine uOne (i := 7) rfl (by kernel_rfl) (fun K hK => ?_)
            go_simp
            go_at_call 16
            refine HC2.out.mono ?_
            rintro e w9 ⟨z, rfl, hz, hzo, hfr, hb9⟩
            have HZ := Lib.hid hz; clear hz
            have hkz := HKZ.out.below hb9 HKZ.out.lt
            have f0 := hkz.free 0
            have f1 := hkz.free 1
            have f2 := hkz.free 2
            have f3 := hkz.free 3
            have e0 := hkz.cell (j := 0) rfl
            have e1 := hkz.cell (j := 1) rfl
            have e2 := hkz.cell (j := 2) rfl
            have e3 := hkz.cell (j := 3) rfl
            have l9 : (wd.heap.size + 1) < w9.heap.size := hkz.lt
            have HV := Lib.hid (VarA.put hkz hzo hfr (Nat.le_of_lt HKZ.out.lt))
            have hb29 := HB2.out.trans (hb9.mono HB2.out.size)
            have hbf := put_below (b := (wd.heap.size + 1)) (v0 := .slice z.A z.na z.ca) (v1 := .int .i64 z.a.st) (v2 := .slice z.M z.nm z.cm) (v3 := .slice z.E z.ne z.ce) hb29 (by omega)
            have hA9 := HAT.out _ hb29
            have hAf := HAT.out _ hbf
            have HBF := Lib.hid (HDR.out.trans (hbf.mono HDR.out.size))
            clear hA0 hA2 HC2 HK2 HKZ hzo hfr hb9 hb29 hbf hkz
            (refine hK _ _ ⟨hA9, fun _ => hB0⟩ ?_; clear hK K; (try simp only [Act.put, List.setIfInBounds_toArray, List.set_cons_zero, List.set_cons_succ]))
            have hA0 := hA9
            ((refine uTake (i := 8) (v := ?_) rfl (by kernel_rfl) (fun _ _ _ h => h) (by rfl) (fun W hA hB => ?_) ⟨hA0, fun _ => hB0⟩ ?_; rotate_left; (· (clear hB; (try dsimp only at hA); go_simp; try with_reducible rfl)); (try simp only [Act.put, List.setIfInBounds_toArray, List.set_cons_zero, List.set_cons_succ])); (refine uTake (i := 9) (v := ?_) rfl (by kernel_rfl) (fun _ _ _ h => h) (by rfl) (fun W hA hB => ?_) ⟨hA0, fun _ => hB0⟩ ?_; rotate_left; (· (clear hB; (try dsimp only at hA); go_simp; try with_reducible rfl)); (try simp only [Act.put, List.setIfInBounds_toArray, List.set_cons_zero, List.set_cons_succ])); (refine uTake (i := 10) (v := ?_) rfl (by kernel_rfl) (fun _ _ _ h => h) (by rfl) (fun W hA hB => ?_) ⟨hA0, fun _ => hB0⟩ ?_; rotate_left; (· (clear hB; (try dsimp only at hA); go_simp; try with_reducible rfl)); (try simp only [Act.put, List.setIfInBounds_toArray, List.set_cons_zero, List.set_cons_succ])))
            refine uOne (i := 12) rfl (by kernel_rfl) (fun K hK => ?_)
            go_simp
            (refine hK _ _ ⟨hAf, fun _ => hB0⟩ ?_; clear hK K; (try simp only [Act.put, List.setIfInBounds_toArray, List.set_cons_zero, List.set_cons_succ]))
            refine uOne (i := 13) rfl (by kernel_rfl) (fun K hK => ?_)
            go_simp
            (refine hK _ _ ⟨hAf, fun _ => hB0⟩ ?_; clear hK K; (try simp only [Act.put, List.setIfInBounds_toArray, List.set_cons_zero, List.set_cons_succ]))
            refine anyU_done (by kernel_rfl) ?_ _
            clear hA0 hA9 hAf f0 f1 f2 f3 e0 e1 e2 e3 l9
            go_wp2_with fail
            go_meet
            case rel => exact ⟨_, z, rfl, rfl, HZ, HV, HBF⟩
        · go_simp
          have HB0 := Lib.hid (box_below wd (.cells #[.slice none 0 0, .int .i64 0, .slice none 0 0, .slice none 0 0] 29))
          have hA1 := HAT.out _ HB0.out
          (refine hK _ _ ⟨hA1, fun _ => hB0⟩ ?_; clear hK K; (try simp only [Act.put, List.setIfInBounds_toArray, List.set_cons_zero, List.set_cons_succ]))
          have HB2 := Lib.hid (HB0.out.alloc HB0.out.size (.cells #[.slice x1.A x1.na x1.ca, .int .i64 x1.a.st, .slice x1.M x1.nm x1.cm, .slice x1.E x1.ne x1.ce, .slice x2.A x2.na x2.ca, .int .i64 x2.a.st, .slice x2.M x2.nm x2.cm, .slice x2.E x2.ne x2.ce] 29))
          have hA2 := HAT.out _ HB2.out
          have HKZ := Lib.hid ((Blk.new wd 29 [.slice none 0 0, .int .i64 0, .slice none 0 0, .slice none 0 0]).alc (.cells #[.slice x1.A x1.na x1.ca, .int .i64 x1.a.st, .slice x1.M x1.nm x1.cm, .slice x1.E x1.ne x1.ce, .slice x2.A x2.na x2.ca, .int .i64 x2.a.st, .slice x2.M x2.nm x2.cm, .slice x2.E x2.ne x2.ce] 29))
          have HK2 := Lib.hid (show Blk ((wd.alloc (.cells #[.slice none 0 0, .int .i64 0, .slice none 0 0, .slice none 0 0] 29)).alloc (.cells #[.slice x1.A x1.na x1.ca, .int .i64 x1.a.st, .slice x1.M x1.nm x1.cm, .slice x1.E x1.ne x1.ce, .slice x2.A x2.na x2.ca, .int .i64 x2.a.st, .slice x2.M x2.nm x2.cm, .slice x2.E x2.ne x2.ce] 29)) (wd.heap.size + 1) 29 ([x1, x2].flatMap avc) by
            have := Blk.new (wd.alloc (.cells #[.slice none 0 0, .int .i64 0, .slice none 0 0, .slice none 0 0] 29)) 29 ([x1, x2].flatMap avc)
            rwa [World.size_alloc] at this)
          have HC2 := Lib.hid (compose_lit [x1, x2] 2 (wd.heap.size + 1) rr Tr ((wd.alloc (.cells #[.slice none 0 0, .int .i64 0, .slice none 0 0, .slice none 0 0] 29)).alloc (.cells #[.slice x1.A x1.na x1.ca, .int .i64 x1.a.st, .slice x1.M x1.nm x1.cm, .slice x1.E x1.ne x1.ce, .slice x2.A x2.na x2.ca, .int .i64 x2.a.st, .slice x2.M x2.nm x2.cm, .slice x2.E x2.ne x2.ce] 29)) rfl (by omega) HK2.out (HXS.out _ HB2.out) HFX.out HSX.out)
          clear hA0
          have hA0 := hA1
          refine uOne (i := 6) rfl (by kernel_rfl) (fun K hK => ?_)
          go_simp
          (refine hK _ _ ⟨hA2, fun _ => hB0⟩ ?_; clear hK K; (try simp only [Act.put, List.setIfInBounds_toArray, List.set_cons_zero, List.set_cons_succ]))
          refine uOne (i := 7) rfl (by kernel_rfl) (fun K hK => ?_)
          go_simp
          go_at_call 16
          refine HC2.out.mono ?_
          rintro e w9 ⟨z, rfl, hz, hzo, hfr, hb9⟩
          have HZ := Lib.hid hz; clear hz
          have hkz := HKZ.out.below hb9 HKZ.out.lt
          have f0 := hkz.free 0
          have f1 := hkz.free 1
          have f2 := hkz.free 2
          have f3 := hkz.free 3
          have e0 := hkz.cell (j := 0) rfl
          have e1 := hkz.cell (j := 1) rfl
          have e2 := hkz.cell (j := 2) rfl
          have e3 := hkz.cell (j := 3) rfl
          have l9 : wd.heap.size < w9.heap.size := hkz.lt
          have HV := Lib.hid (VarA.put hkz hzo hfr (Nat.le_of_lt HKZ.out.lt))
          have hb29 := HB2.out.trans (hb9.mono HB2.out.size)
          have hbf := put_below (b := wd.heap.size) (v0 := .slice z.A z.na z.ca) (v1 := .int .i64 z.a.st) (v2 := .slice z.M z.nm z.cm) (v3 := .slice z.E z.ne z.ce) hb29 (by omega)
          have hA9 := HAT.out _ hb29
          have hAf := HAT.out _ hbf
          have HBF := Lib.hid (HDR.out.trans (hbf.mono HDR.out.size))
          clear hA0 hA2 HC2 HK2 HKZ hzo hfr hb9 hb29 hbf hkz
          (refine hK _ _ ⟨hA9, fun _ => hB0⟩ ?_; clear hK K; (try simp only [Act.put, List.setIfInBounds_toArray, List.set_cons_zero, List.set_cons_succ]))
          have hA0 := hA9
          ((refine uTake (i := 8) (v := ?_) rfl (by kernel_rfl) (fun _ _ _ h => h) (by rfl) (fun W hA hB => ?_) ⟨hA0, fun _ => hB0⟩ ?_; rotate_left; (· (clear hB; (try dsimp only at hA); go_simp; try with_reducible rfl)); (try simp only [Act.put, List.setIfInBounds_toArray, List.set_cons_zero, List.set_cons_succ])); (refine uTake (i := 9) (v := ?_) rfl (by kernel_rfl) (fun _ _ _ h => h) (by rfl) (fun W hA hB => ?_) ⟨hA0, fun _ => hB0⟩ ?_; rotate_left; (· (clear hB; (try dsimp only at hA); go_simp; try with_reducible rfl)); (try simp only [Act.put, List.setIfInBounds_toArray, List.set_cons_zero, List.set_cons_succ])); (refine uTake (i := 10) (v := ?_) rfl (by kernel_rfl) (fun _ _ _ h => h) (by rfl) (fun W hA hB => ?_) ⟨hA0, fun _ => hB0⟩ ?_; rotate_left; (· (clear hB; (try dsimp only at hA); go_simp; try with_reducible rfl)); (try simp only [Act.put, List.setIfInBounds_toArray, List.set_cons_zero, List.set_cons_succ])))
          refine uOne (i := 12) rfl (by kernel_rfl) (fun K hK => ?_)
          go_simp
          (refine hK _ _ ⟨hAf, fun _ => hB0⟩ ?_; clear hK K; (try simp only [Act.put, List.setIfInBounds_toArray, List.set_cons_zero, List.set_cons_succ]))
          refine uOne (i := 13) rfl (by kernel_rfl) (fun K hK => ?_)
          go_simp
          (refine hK _ _ ⟨hAf, fun _ => hB0⟩ ?_; clear hK K; (try simp only [Act.put, List.setIfInBounds_toArray, List.set_cons_zero, List.set_cons_succ]))
          refine anyU_done (by kernel_rfl) ?_ _
          clear hA0 hA9 hAf f0 f1 f2 f3 e0 e1 e2 e3 l9
          go_wp2_with fail
          go_meet
          case rel => exact ⟨_, z, rfl, rfl, HZ, HV, HBF⟩
      case rest =>
        obtain ⟨b14, z14, rfl, rfl, HZ14, V14, HBN⟩ := hcut
        obtain ⟨w7, rfl⟩ : ∃ w7 : World, w7 = wc := ⟨_, rfl⟩
        have HR7 := Lib.hid ((HR6.out.below HBN.out).more HBN.out.size)
        have V6 := Lib.hid (V6.out.below HBN.out)
        have V10 := Lib.hid (V10.out.below HBN.out)
        have V12 := Lib.hid (V12.out.below HBN.out)
        have HB7 := Lib.hid (HB6.out.trans (HBN.out.mono HB6.out.size))
        clear HR6 HB6 HBN
        go_upto_region 10 with fail
        go_cut [16, 17] from 24 (fun s16 s17 wx => ∃ (b : Nat) (z : AV), s16 = .pointer (some ⟨b, 0, none⟩) ∧ s17 = .int .i64 0 ∧ Hid (z.a = r) ∧ Hid (VarA wx b z) ∧ Hid (Below w7.heap.size w7 wx))
        case first =>
          have HFX := Lib.hid (show FewL ([z12, x2].map AV.a) by show FewL [z12.a, x2.a]; rw [HZ12.out]; exact HFC.out)
          have HSX := Lib.hid (show synR ([z12, x2].map AV.a) = some (r, Tc) by show synR [z12.a, x2.a] = _; rw [HZ12.out]; exact HSCC.out)
          have HXL := Lib.hid (fun (W' : World) (h : Below w7.heap.size w7 W') => ok_below (xs := [z12, x2]) (fun v hv => by
            rcases List.mem_cons.1 hv with rfl | hv
            · exact V12.out.ok
            · obtain rfl := List.mem_singleton.1 hv; exact HR7.out.2 v (by simp)) h)
          have HAL := Lib.hid (show ∀ W', Below w7.heap.size w7 W' → (CA W' ⟨b12, 0, none⟩ ⟨b12, 1, none⟩ ⟨b12, 2, none⟩ ⟨b12, 3, none⟩ z12 ∧ CA W' ⟨ad.block, ad.off + 8, none⟩ ⟨ad.block, ad.off + 9, none⟩ ⟨ad.block, ad.off + 10, none⟩ ⟨ad.block, ad.off + 11, none⟩ x2) from fun W' hb => by
            obtain ⟨⟨_, _, g2⟩, gb⟩ := CA.three HR7.out
            have hl := V12.out.blk.lt
            exact ⟨(CA.var V12.out).to hb hl hl hl hl, g2.to hb gb gb gb gb⟩)
          go_wp2
          refine wp_region_U (fun W => CA W ⟨b12, 0, none⟩ ⟨b12, 1, none⟩ ⟨b12, 2, none⟩ ⟨b12, 3, none⟩ z12 ∧ CA W ⟨ad.block, ad.off + 8, none⟩ ⟨ad.block, ad.off + 9, none⟩ ⟨ad.block, ad.off + 10, none⟩ ⟨ad.block, ad.off + 11, none⟩ x2) (fun _ => True) 11 (by kernel_rfl) ?_
          change anyU _ _ _ _ _ _ _ 12 _ _ _
          have hB0 : True := trivial
          have hdr := below_dr w7
          have hA0 := HAL.out _ hdr
          generalize hwd : (w7).drew = wd at hdr hA0 ⊢
          have HWD := Lib.hid hwd; clear hwd
          have HDR := Lib.hid hdr
          have HAT := Lib.hid (fun (W' : World) (h : Below wd.heap.size wd W') => HAL.out W' (HDR.out.trans (h.mono HDR.out.size)))
          have HXS := Lib.hid (fun (W' : World) (h : Below wd.heap.size wd W') => HXL.out W' (HDR.out.trans (h.mono HDR.out.size)))
          clear hdr
          ((refine uTake (i := 0) (v := ?_) rfl (by kernel_rfl) (fun _ _ _ h => h) (by rfl) (fun W hA hB => ?_) ⟨hA0, fun _ => hB0⟩ ?_; rotate_left; (· (clear hB; (try dsimp only at hA); obtain ⟨⟨a0, a1, a2, a3⟩, _⟩ := hA; go_simp; try with_reducible rfl)); (try simp only [Act.put, List.setIfInBounds_toArray, List.set_cons_zero, List.set_cons_succ])))
          ((refine uTake (i := 1) (v := ?_) rfl (by kernel_rfl) (fun _ _ _ h => h) (by rfl) (fun W hA hB => ?_) ⟨hA0, fun _ => hB0⟩ ?_; rotate_left; (· (clear hB; (try dsimp only at hA); go_simp; try with_reducible rfl)); (try simp only [Act.put, List.setIfInBounds_toArray, List.set_cons_zero, List.set_cons_succ])); (refine uTake (i := 2) (v := ?_) rfl (by kernel_rfl) (fun _ _ _ h => h) (by rfl) (fun W hA hB => ?_) ⟨hA0, fun _ => hB0⟩ ?_; rotate_left; (· (clear hB; (try dsimp only at hA); go_simp; try with_reducible rfl)); (try simp only [Act.put, List.setIfInBounds_toArray, List.set_cons_zero, List.set_cons_succ])))
          ((refine uTake (i := 3) (v := ?_) rfl (by kernel_rfl) (fun _ _ _ h => h) (by rfl) (fun W hA hB => ?_) ⟨hA0, fun _ => hB0⟩ ?_; rotate_left; (· (clear hB; (try dsimp only at hA); obtain ⟨_, ⟨a0, a1, a2, a3⟩⟩ := hA; go_simp; try with_reducible rfl)); (try simp only [Act.put, List.setIfInBounds_toArray, List.set_cons_zero, List.set_cons_succ])))
          refine uTwo (i := 4) (j := 9) rfl rfl (by kernel_rfl) (fun K hK => ?_) (fun K hK => ?_)
          · go_simp
            have HB1 := Lib.hid (box_below wd (.cells #[.slice z12.A z12.na z12.ca, .int .i64 z12.a.st, .slice z12.M z12.nm z12.cm, .slice z12.E z12.ne z12.ce, .slice x2.A x2.na x2.ca, .int .i64 x2.a.st, .slice x2.M x2.nm x2.cm, .slice x2.E x2.ne x2.ce] 29))
            have hA1 := HAT.out _ HB1.out
            (refine hK _ _ ⟨hA1, fun _ => hB0⟩ ?_; clear hK K; (try simp only [Act.put, List.setIfInBounds_toArray, List.set_cons_zero, List.set_cons_succ]))
            have HK1 := Lib.hid (show Blk (wd.alloc (.cells #[.slice z12.A z12.na z12.ca, .int .i64 z12.a.st, .slice z12.M z12.nm z12.cm, .slice z12.E z12.ne z12.ce, .slice x2.A x2.na x2.ca, .int .i64 x2.a.st, .slice x2.M x2.nm x2.cm, .slice x2.E x2.ne x2.ce] 29)) wd.heap.size 29 ([z12, x2].flatMap avc) from Blk.new wd 29 ([z12, x2].flatMap avc))
            have HC1 := Lib.hid (compose_lit [z12, x2] 2 wd.heap.size r Tc (wd.alloc (.cells #[.slice z12.A z12.na z12.ca, .int .i64 z12.a.st, .slice z12.M z12.nm z12.cm, .slice z12.E z12.ne z12.ce, .slice x2.A x2.na x2.ca, .int .i64 x2.a.st, .slice x2.M x2.nm x2.cm, .slice x2.E x2.ne x2.ce] 29)) rfl (by omega) HK1.out (HXS.out _ HB1.out) HFX.out HSX.out)
            refine uTwo (i := 5) (j := 9) rfl rfl (by kernel_rfl) (fun K hK => ?_) (fun K hK => ?_)
            · go_simp
              go_at_call 16
              refine HC1.out.mono ?_
              rintro e w9 ⟨z, rfl, hz, hzo, hfr, hb9⟩
              have HZ := Lib.hid hz; clear hz
              have HB9 := Lib.hid (HB1.out.trans (hb9.mono HB1.out.size))
              have HV := Lib.hid (VarA.new hzo)
              have hbz := HB9.out.trans ((box_below w9 (.cells #[.slice none 0 0, .int .i64 0, .slice none 0 0, .slice none 0 0] 29)).mono HB9.out.size)
              have hbf := HB9.out.trans ((box_below w9 (.cells #[.slice z.A z.na z.ca, .int .i64 z.a.st, .slice z.M z.nm z.cm, .slice z.E z.ne z.ce] 29)).mono HB9.out.size)
              have hA9 := HAT.out _ HB9.out
              have hAz := HAT.out _ hbz
              have hAf := HAT.out _ hbf
              have HBF := Lib.hid (HDR.out.trans (hbf.mono HDR.out.size))
              clear hA0 hA1 HC1 HK1 hzo hfr hb9 hbz hbf
              (refine hK _ _ ⟨hA9, fun _ => hB0⟩ ?_; clear hK K; (try simp only [Act.put, List.setIfInBounds_toArray, List.set_cons_zero, List.set_cons_succ]))
              have hA0 := hA9
              ((refine uTake (i := 6) (v := ?_) rfl (by kernel_rfl) (fun _ _ _ h => h) (by rfl) (fun W hA hB => ?_) ⟨hA0, fun _ => hB0⟩ ?_; rotate_left; (· (clear hB; (try dsimp only at hA); go_simp; try with_reducible rfl)); (try simp only [Act.put, List.setIfInBounds_toArray, List.set_cons_zero, List.set_cons_succ])); (refine uTake (i := 7) (v := ?_) rfl (by kernel_rfl) (fun _ _ _ h => h) (by rfl) (fun W hA hB => ?_) ⟨hA0, fun _ => hB0⟩ ?_; rotate_left; (· (clear hB; (try dsimp only at hA); go_simp; try with_reducible rfl)); (try simp only [Act.put, List.setIfInBounds_toArray, List.set_cons_zero, List.set_cons_succ])); (refine uTake (i := 8) (v := ?_) rfl (by kernel_rfl) (fun _ _ _ h => h) (by rfl) (fun W hA hB => ?_) ⟨hA0, fun _ => hB0⟩ ?_; rotate_left; (· (clear hB; (try dsimp only at hA); go_simp; try with_reducible rfl)); (try simp only [Act.put, List.setIfInBounds_toArray, List.set_cons_zero, List.set_cons_succ])))
              refine uOne (i := 9) rfl (by kernel_rfl) (fun K hK => ?_)
              go_simp
              (refine hK _ _ ⟨hAz, fun _ => hB0⟩ ?_; clear hK K; (try simp only [Act.put, List.setIfInBounds_toArray, List.set_cons_zero, List.set_cons_succ]))
              refine uOne (i := 10) rfl (by kernel_rfl) (fun K hK => ?_)
              go_simp
              (refine hK _ _ ⟨hAf, fun _ => hB0⟩ ?_; clear hK K; (try simp only [Act.put, List.setIfInBounds_toArray, List.set_cons_zero, List.set_cons_succ]))
              refine uOne (i := 11) rfl (by kernel_rfl) (fun K hK => ?_)
              go_simp
              (refine hK _ _ ⟨hAf, fun _ => hB0⟩ ?_; clear hK K; (try simp only [Act.put, List.setIfInBounds_toArray, List.set_cons_zero, List.set_cons_succ]))
              refine anyU_done (by kernel_rfl) ?_ _
              clear hA0 hA9 hAz hAf
              go_wp2_with fail
              go_meet
              case rel => exact ⟨_, z, rfl, rfl, HZ, HV, HBF⟩
            · go_simp
              have HB2 := Lib.hid (HB1.out.alloc HB1.out.size (.cells #[.slice none 0 0, .int .i64 0, .slice none 0 0, .slice none 0 0] 29))
              have hA2 := HAT.out _ HB2.out
              have HK2 := Lib.hid (HK1.out.alc (.cells #[.slice none 0 0, .int .i64 0, .slice none 0 0, .slice none 0 0] 29))
              have HKZ := Lib.hid (show Blk ((wd.alloc (.cells #[.slice z12.A z12.na z12.ca, .int .i64 z12.a.st, .slice z12.M z12.nm z12.cm, .slice z12.E z12.ne z12.ce, .slice x2.A x2.na x2.ca, .int .i64 x2.a.st, .slice x2.M x2.nm x2.cm, .slice x2.E x2.ne x2.ce] 29)).alloc (.cells #[.slice none 0 0, .int .i64 0, .slice none 0 0, .slice none 0 0] 29)) (wd.heap.size + 1) 29 [.slice none 0 0, .int .i64 0, .slice none 0 0, .slice none 0 0] by
                have := Blk.new (wd.alloc (.cells #[.slice z12.A z12.na z12.ca, .int .i64 z12.a.st, .slice z12.M z12.nm z12.cm, .slice z12.E z12.ne z12.ce, .slice x2.A x2.na x2.ca, .int .i64 x2.a.st, .slice x2.M x2.nm x2.cm, .slice x2.E x2.ne x2.ce] 29)) 29 [.slice none 0 0, .int .i64 0, .slice none 0 0, .slice none 0 0]
                rwa [World.size_alloc] at this)
              have HC2 := Lib.hid (compose_lit [z12, x2] 2 wd.heap.size r Tc ((wd.alloc (.cells #[.slice z12.A z12.na z12.ca, .int .i64 z12.a.st, .slice z12.M z12.nm z12.cm, .slice z12.E z12.ne z12.ce, .slice x2.A x2.na x2.ca, .int .i64 x2.a.st, .slice x2.M x2.nm x2.cm, .slice x2.E x2.ne x2.ce] 29)).alloc (.cells #[.slice none 0 0, .int .i64 0, .slice none 0 0, .slice none 0 0] 29)) rfl (by omega) HK2.out (HXS.out _ HB2.out) HFX.out HSX.out)
              clear HC1 HK1 hA1
              (refine hK _ _ ⟨hA2, fun _ => hB0⟩ ?_; clear hK K; (try simp only [Act.put, List.setIfInBounds_toArray, List.set_cons_zero, List.set_cons_succ]))
              refine uOne (i := 5) rfl (by kernel_rfl) (fun K hK => ?_)
              go_simp
              go_at_call 16
              refine HC2.out.mono ?_
              rintro e w9 ⟨z, rfl, hz, hzo, hfr, hb9⟩
              have HZ := Lib.hid hz; clear hz
              have hkz := HKZ.out.below hb9 HKZ.out.lt
              have f0 := hkz.free 0
              have f1 := hkz.free 1
              have f2 := hkz.free 2
              have f3 := hkz.free 3
              have e0 := hkz.cell (j := 0) rfl
              have e1 := hkz.cell (j := 1) rfl
              have e2 := hkz.cell (j := 2) rfl
              have e3 := hkz.cell (j := 3) rfl
              have l9 : (wd.heap.size + 1) < w9.heap.size := hkz.lt
              have HV := Lib.hid (VarA.put hkz hzo hfr (Nat.le_of_lt HKZ.out.lt))
              have hb29 := HB2.out.trans (hb9.mono HB2.out.size)
              have hbf := put_below (b := (wd.heap.size + 1)) (v0 := .slice z.A z.na z.ca) (v1 := .int .i64 z.a.st) (v2 := .slice z.M z.nm z.cm) (v3 := .slice z.E z.ne z.ce) hb29 (by omega)
              have hA9 := HAT.out _ hb29
              have hAf := HAT.out _ hbf
              have HBF := Lib.hid (HDR.out.trans (hbf.mono HDR.out.size))
              clear hA0 hA2 HC2 HK2 HKZ hzo hfr hb9 hb29 hbf hkz
              (refine hK _ _ ⟨hA9, fun _ => hB0⟩ ?_; clear hK K; (try simp only [Act.put, List.setIfInBounds_toArray, List.set_cons_zero, List.set_cons_succ]))
              have hA0 := hA9
              ((refine uTake (i := 6) (v := ?_) rfl (by kernel_rfl) (fun _ _ _ h => h) (by rfl) (fun W hA hB => ?_) ⟨hA0, fun _ => hB0⟩ ?_; rotate_left; (· (clear hB; (try dsimp only at hA); go_simp; try with_reducible rfl)); (try simp only [Act.put, List.setIfInBounds_toArray, List.set_cons_zero, List.set_cons_succ])); (refine uTake (i := 7) (v := ?_) rfl (by kernel_rfl) (fun _ _ _ h => h) (by rfl) (fun W hA hB => ?_) ⟨hA0, fun _ => hB0⟩ ?_; rotate_left; (· (clear hB; (try dsimp only at hA); go_simp; try with_reducible rfl)); (try simp only [Act.put, List.setIfInBounds_toArray, List.set_cons_zero, List.set_cons_succ])); (refine uTake (i := 8) (v := ?_) rfl (by kernel_rfl) (fun _ _ _ h => h) (by rfl) (fun W hA hB => ?_) ⟨hA0, fun _ => hB0⟩ ?_; rotate_left; (· (clear hB; (try dsimp only at hA); go_simp; try with_reducible rfl)); (try simp only [Act.put, List.setIfInBounds_toArray, List.set_cons_zero, List.set_cons_succ])))
              refine uOne (i := 10) rfl (by kernel_rfl) (fun K hK => ?_)
              go_simp
              (refine hK _ _ ⟨hAf, fun _ => hB0⟩ ?_; clear hK K; (try simp only [Act.put, List.setIfInBounds_toArray, List.set_cons_zero, List.set_cons_succ]))
              refine uOne (i := 11) rfl (by kernel_rfl) (fun K hK => ?_)
              go_simp
              (refine hK _ _ ⟨hAf, fun _ => hB0⟩ ?_; clear hK K; (try simp only [Act.put, List.setIfInBounds_toArray, List.set_cons_zero, List.set_cons_succ]))
              refine anyU_done (by kernel_rfl) ?_ _
              clear hA0 hA9 hAf f0 f1 f2 f3 e0 e1 e2 e3 l9
              go_wp2_with fail
              go_meet
              case rel => exact ⟨_, z, rfl, rfl, HZ, HV, HBF⟩
          · go_simp
            have HB0 := Lib.hid (box_below wd (.cells #[.slice none 0 0, .int .i64 0, .slice none 0 0, .slice none 0 0] 29))
            have hA1 := HAT.out _ HB0.out
            (refine hK _ _ ⟨hA1, fun _ => hB0⟩ ?_; clear hK K; (try simp only [Act.put, List.setIfInBounds_toArray, List.set_cons_zero, List.set_cons_succ]))
            have HB2 := Lib.hid (HB0.out.alloc HB0.out.size (.cells #[.slice z12.A z12.na z12.ca, .int .i64 z12.a.st, .slice z12.M z12.nm z12.cm, .slice z12.E z12.ne z12.ce, .slice x2.A x2.na x2.ca, .int .i64 x2.a.st, .slice x2.M x2.nm x2.cm, .slice x2.E x2.ne x2.ce] 29))
            have hA2 := HAT.out _ HB2.out
            have HKZ := Lib.hid ((Blk.new wd 29 [.slice none 0 0, .int .i64 0, .slice none 0 0, .slice none 0 0]).alc (.cells #[.slice z12.A z12.na z12.ca, .int .i64 z12.a.st, .slice z12.M z12.nm z12.cm, .slice z12.E z12.ne z12.ce, .slice x2.A x2.na x2.ca, .int .i64 x2.a.st, .slice x2.M x2.nm x2.cm, .slice x2.E x2.ne x2.ce] 29))
            have HK2 := Lib.hid (show Blk ((wd.alloc (.cells #[.slice none 0 0, .int .i64 0, .slice none 0 0, .slice none 0 0] 29)).alloc (.cells #[.slice z12.A z12.na z12.ca, .int .i64 z12.a.st, .slice z12.M z12.nm z12.cm, .slice z12.E z12.ne z12.ce, .slice x2.A x2.na x2.ca, .int .i64 x2.a.st, .slice x2.M x2.nm x2.cm, .slice x2.E x2.ne x2.ce] 29)) (wd.heap.size + 1) 29 ([z12, x2].flatMap avc) by
              have := Blk.new (wd.alloc (.cells #[.slice none 0 0, .int .i64 0, .slice none 0 0, .slice none 0 0] 29)) 29 ([z12, x2].flatMap avc)
              rwa [World.size_alloc] at this)
            have HC2 := Lib.hid (compose_lit [z12, x2] 2 (wd.heap.size + 1) r Tc ((wd.alloc (.cells #[.slice none 0 0, .int .i64 0, .slice none 0 0, .slice none 0 0] 29)).alloc (.cells #[.slice z12.A z12.na z12.ca, .int .i64 z12.a.st, .slice z12.M z12.nm z12.cm, .slice z12.E z12.ne z12.ce, .slice x2.A x2.na x2.ca, .int .i64 x2.a.st, .slice x2.M x2.nm x2.cm, .slice x2.E x2.ne x2.ce] 29)) rfl (by omega) HK2.out (HXS.out _ HB2.out) HFX.out HSX.out)
            clear hA0
            have hA0 := hA1
            refine uOne (i := 4) rfl (by kernel_rfl) (fun K hK => ?_)
            go_simp
            (refine hK _ _ ⟨hA2, fun _ => hB0⟩ ?_; clear hK K; (try simp only [Act.put, List.setIfInBounds_toArray, List.set_cons_zero, List.set_cons_succ]))
            refine uOne (i := 5) rfl (by kernel_rfl) (fun K hK => ?_)
            go_simp
            go_at_call 16
            refine HC2.out.mono ?_
            rintro e w9 ⟨z, rfl, hz, hzo, hfr, hb9⟩
            have HZ := Lib.hid hz; clear hz
            have hkz := HKZ.out.below hb9 HKZ.out.lt
            have f0 := hkz.free 0
            have f1 := hkz.free 1
            have f2 := hkz.free 2
            have f3 := hkz.free 3
            have e0 := hkz.cell (j := 0) rfl
            have e1 := hkz.cell (j := 1) rfl
            have e2 := hkz.cell (j := 2) rfl
            have e3 := hkz.cell (j := 3) rfl
            have l9 : wd.heap.size < w9.heap.size := hkz.lt
            have HV := Lib.hid (VarA.put hkz hzo hfr (Nat.le_of_lt HKZ.out.lt))
            have hb29 := HB2.out.trans (hb9.mono HB2.out.size)
            have hbf := put_below (b := wd.heap.size) (v0 := .slice z.A z.na z.ca) (v1 := .int .i64 z.a.st) (v2 := .slice z.M z.nm z.cm) (v3 := .slice z.E z.ne z.ce) hb29 (by omega)
            have hA9 := HAT.out _ hb29
            have hAf := HAT.out _ hbf
            have HBF := Lib.hid (HDR.out.trans (hbf.mono HDR.out.size))
            clear hA0 hA2 HC2 HK2 HKZ hzo hfr hb9 hb29 hbf hkz
            (refine hK _ _ ⟨hA9, fun _ => hB0⟩ ?_; clear hK K; (try simp only [Act.put, List.setIfInBounds_toArray, List.set_cons_zero, List.set_cons_succ]))
            have hA0 := hA9
            ((refine uTake (i := 6) (v := ?_) rfl (by kernel_rfl) (fun _ _ _ h => h) (by rfl) (fun W hA hB => ?_) ⟨hA0, fun _ => hB0⟩ ?_; rotate_left; (· (clear hB; (try dsimp only at hA); go_simp; try with_reducible rfl)); (try simp only [Act.put, List.setIfInBounds_toArray, List.set_cons_zero, List.set_cons_succ])); (refine uTake (i := 7) (v := ?_) rfl (by kernel_rfl) (fun _ _ _ h => h) (by rfl) (fun W hA hB => ?_) ⟨hA0, fun _ => hB0⟩ ?_; rotate_left; (· (clear hB; (try dsimp only at hA); go_simp; try with_reducible rfl)); (try simp only [Act.put, List.setIfInBounds_toArray, List.set_cons_zero, List.set_cons_succ])); (refine uTake (i := 8) (v := ?_) rfl (by kernel_rfl) (fun _ _ _ h => h) (by rfl) (fun W hA hB => ?_) ⟨hA0, fun _ => hB0⟩ ?_; rotate_left; (· (clear hB; (try dsimp only at hA); go_simp; try with_reducible rfl)); (try simp only [Act.put, List.setIfInBounds_toArray, List.set_cons_zero, List.set_cons_succ])))
            refine uOne (i := 10) rfl (by kernel_rfl) (fun K hK => ?_)
            go_simp
            (refine hK _ _ ⟨hAf, fun _ => hB0⟩ ?_; clear hK K; (try simp only [Act.put, List.setIfInBounds_toArray, List.set_cons_zero, List.set_cons_succ]))
            refine uOne (i := 11) rfl (by kernel_rfl) (fun K hK => ?_)
            go_simp
            (refine hK _ _ ⟨hAf, fun _ => hB0⟩ ?_; clear hK K; (try simp only [Act.put, List.setIfInBounds_toArray, List.set_cons_zero, List.set_cons_succ]))
            refine anyU_done (by kernel_rfl) ?_ _
            clear hA0 hA9 hAf f0 f1 f2 f3 e0 e1 e2 e3 l9
            go_wp2_with fail
            go_meet
            case rel => exact ⟨_, z, rfl, rfl, HZ, HV, HBF⟩
        case rest =>
          obtain ⟨b16, z16, rfl, rfl, HZ16, V16, HBN⟩ := hcut
          obtain ⟨w8, rfl⟩ : ∃ w8 : World, w8 = wc := ⟨_, rfl⟩
          have HR8 := Lib.hid ((HR7.out.below HBN.out).more HBN.out.size)
          have V6 := Lib.hid (V6.out.below HBN.out)
          have V10 := Lib.hid (V10.out.below HBN.out)
          have V14 := Lib.hid (V14.out.below HBN.out)
          have HB8 := Lib.hid (HB7.out.trans (HBN.out.mono HB7.out.size))
          clear HR7 HB7 HBN V12
          go_upto_region 11 with fail
          go_cut [18, 19] from 24 (fun s18 s19 wx => ∃ (b : Nat) (z : AV), s18 = .pointer (some ⟨b, 0, none⟩) ∧ s19 = .int .i64 0 ∧ Hid (z.a = r) ∧ Hid (VarA wx b z) ∧ Hid (Below w8.heap.size w8 wx))
          case first =>
            have HFX := Lib.hid (show FewL ([x0, z14].map AV.a) by show FewL [x0.a, z14.a]; rw [HZ14.out]; exact HFD.out)
            have HSX := Lib.hid (show synR ([x0, z14].map AV.a) = some (r, Td) by show synR [x0.a, z14.a] = _; rw [HZ14.out]; exact HSDD.out)
            have HXL := Lib.hid (fun (W' : World) (h : Below w8.heap.size w8 W') => ok_below (xs := [x0, z14]) (fun v hv => by
              rcases List.mem_cons.1 hv with rfl | hv
              · exact HR8.out.2 v (by simp)
              · obtain rfl := List.mem_singleton.1 hv; exact V14.out.ok) h)
            have HAL := Lib.hid (show ∀ W', Below w8.heap.size w8 W' → (CA W' ad ⟨ad.block, ad.off + 1, none⟩ ⟨ad.block, ad.off + 2, none⟩ ⟨ad.block, ad.off + 3, none⟩ x0 ∧ CA W' ⟨b14, 0, none⟩ ⟨b14, 1, none⟩ ⟨b14, 2, none⟩ ⟨b14, 3, none⟩ z14) from fun W' hb => by
              obtain ⟨⟨g1, _, _⟩, gb⟩ := CA.three HR8.out
              have hl := V14.out.blk.lt
              exact ⟨g1.to hb gb gb gb gb, (CA.var V14.out).to hb hl hl hl hl⟩)
            go_wp2
            refine wp_region_U (fun W => CA W ad ⟨ad.block, ad.off + 1, none⟩ ⟨ad.block, ad.off + 2, none⟩ ⟨ad.block, ad.off + 3, none⟩ x0 ∧ CA W ⟨b14, 0, none⟩ ⟨b14, 1, none⟩ ⟨b14, 2, none⟩ ⟨b14, 3, none⟩ z14) (fun _ => True) 11 (by kernel_rfl) ?_
            change anyU _ _ _ _ _ _ _ 12 _ _ _
            have hB0 : True := trivial
            have hdr := below_dr w8
            have hA0 := HAL.out _ hdr
            generalize hwd : (w8).drew = wd at hdr hA0 ⊢
            have HWD := Lib.hid hwd; clear hwd
            have HDR := Lib.hid hdr
            have HAT := Lib.hid (fun (W' : World) (h : Below wd.heap.size wd W') => HAL.out W' (HDR.out.trans (h.mono HDR.out.size)))
            have HXS := Lib.hid (fun (W' : World) (h : Below wd.heap.size wd W') => HXL.out W' (HDR.out.trans (h.mono HDR.out.size)))
            clear hdr
            ((refine uTake (i := 0) (v := ?_) rfl (by kernel_rfl) (fun _ _ _ h => h) (by rfl) (fun W hA hB => ?_) ⟨hA0, fun _ => hB0⟩ ?_; rotate_left; (· (clear hB; (try dsimp only at hA); go_simp; try with_reducible rfl)); (try simp only [Act.put, List.setIfInBounds_toArray, List.set_cons_zero, List.set_cons_succ])); (refine uTake (i := 1) (v := ?_) rfl (by kernel_rfl) (fun _ _ _ h => h) (by rfl) (fun W hA hB => ?_) ⟨hA0, fun _ => hB0⟩ ?_; rotate_left; (· (clear hB; (try dsimp only at hA); go_simp; try with_reducible rfl)); (try simp only [Act.put, List.setIfInBounds_toArray, List.set_cons_zero, List.set_cons_succ])))
            ((refine uTake (i := 2) (v := ?_) rfl (by kernel_rfl) (fun _ _ _ h => h) (by rfl) (fun W hA hB => ?_) ⟨hA0, fun _ => hB0⟩ ?_; rotate_left; (· (clear hB; (try dsimp only at hA); obtain ⟨⟨a0, a1, a2, a3⟩, _⟩ := hA; go_simp; try with_reducible rfl)); (try simp only [Act.put, List.setIfInBounds_toArray, List.set_cons_zero, List.set_cons_succ])))
            ((refine uTake (i := 3) (v := ?_) rfl (by kernel_rfl) (fun _ _ _ h => h) (by rfl) (fun W hA hB => ?_) ⟨hA0, fun _ => hB0⟩ ?_; rotate_left; (· (clear hB; (try dsimp only at hA); obtain ⟨_, ⟨a0, a1, a2, a3⟩⟩ := hA; go_simp; try with_reducible rfl)); (try simp only [Act.put, List.setIfInBounds_toArray, List.set_cons_zero, List.set_cons_succ])))
            refine uTwo (i := 4) (j := 9) rfl rfl (by kernel_rfl) (fun K hK => ?_) (fun K hK => ?_)
            · go_simp
              have HB1 := Lib.hid (box_below wd (.cells #[.slice x0.A x0.na x0.ca, .int .i64 x0.a.st, .slice x0.M x0.nm x0.cm, .slice x0.E x0.ne x0.ce, .slice z14.A z14.na z14.ca, .int .i64 z14.a.st, .slice z14.M z14.nm z14.cm, .slice z14.E z14.ne z14.ce] 29))
              have hA1 := HAT.out _ HB1.out
              (refine hK _ _ ⟨hA1, fun _ => hB0⟩ ?_; clear hK K; (try simp only [Act.put, List.setIfInBounds_toArray, List.set_cons_zero, List.set_cons_succ]))
              have HK1 := Lib.hid (show Blk (wd.alloc (.cells #[.slice x0.A x0.na x0.ca, .int .i64 x0.a.st, .slice x0.M x0.nm x0.cm, .slice x0.E x0.ne x0.ce, .slice z14.A z14.na z14.ca, .int .i64 z14.a.st, .slice z14.M z14.nm z14.cm, .slice z14.E z14.ne z14.ce] 29)) wd.heap.size 29 ([x0, z14].flatMap avc) from Blk.new wd 29 ([x0, z14].flatMap avc))
              have HC1 := Lib.hid (compose_lit [x0, z14] 2 wd.heap.size r Td (wd.alloc (.cells #[.slice x0.A x0.na x0.ca, .int .i64 x0.a.st, .slice x0.M x0.nm x0.cm, .slice x0.E x0.ne x0.ce, .slice z14.A z14.na z14.ca, .int .i64 z14.a.st, .slice z14.M z14.nm z14.cm, .slice z14.E z14.ne z14.ce] 29)) rfl (by omega) HK1.out (HXS.out _ HB1.out) HFX.out HSX.out)
              refine uTwo (i := 5) (j := 9) rfl rfl (by kernel_rfl) (fun K hK => ?_) (fun K hK => ?_)
              · go_simp
                go_at_call 16
                refine HC1.out.mono ?_
                rintro e w9 ⟨z, rfl, hz, hzo, hfr, hb9⟩
                have HZ := Lib.hid hz; clear hz
                have HB9 := Lib.hid (HB1.out.trans (hb9.mono HB1.out.size))
                have HV := Lib.hid (VarA.new hzo)
                have hbz := HB9.out.trans ((box_below w9 (.cells #[.slice none 0 0, .int .i64 0, .slice none 0 0, .slice none 0 0] 29)).mono HB9.out.size)
                have hbf := HB9.out.trans ((box_below w9 (.cells #[.slice z.A z.na z.ca, .int .i64 z.a.st, .slice z.M z.nm z.cm, .slice z.E z.ne z.ce] 29)).mono HB9.out.size)
                have hA9 := HAT.out _ HB9.out
                have hAz := HAT.out _ hbz
                have hAf := HAT.out _ hbf
                have HBF := Lib.hid (HDR.out.trans (hbf.mono HDR.out.size))
                clear hA0 hA1 HC1 HK1 hzo hfr hb9 hbz hbf
                (refine hK _ _ ⟨hA9, fun _ => hB0⟩ ?_; clear hK K; (try simp only [Act.put, List.setIfInBounds_toArray, List.set_cons_zero, List.set_cons_succ]))
                have hA0 := hA9
                ((refine uTake (i := 6) (v := ?_) rfl (by kernel_rfl) (fun _ _ _ h => h) (by rfl) (fun W hA hB => ?_) ⟨hA0, fun _ => hB0⟩ ?_; rotate_left; (· (clear hB; (try dsimp only at hA); go_simp; try with_reducible rfl)); (try simp only [Act.put, List.setIfInBounds_toArray, List.set_cons_zero, List.set_cons_succ])); (refine uTake (i := 7) (v := ?_) rfl (by kernel_rfl) (fun _ _ _ h => h) (by rfl) (fun W hA hB => ?_) ⟨hA0, fun _ => hB0⟩ ?_; rotate_left; (· (clear hB; (try dsimp only at hA); go_simp; try with_reducible rfl)); (try simp only [Act.put, List.setIfInBounds_toArray, List.set_cons_zero, List.set_cons_succ])); (refine uTake (i := 8) (v := ?_) rfl (by kernel_rfl) (fun _ _ _ h => h) (by rfl) (fun W hA hB => ?_) ⟨hA0, fun _ => hB0⟩ ?_; rotate_left; (· (clear hB; (try dsimp only at hA); go_simp; try with_reducible rfl)); (try simp only [Act.put, List.setIfInBounds_toArray, List.set_cons_zero, List.set_cons_succ])))
                refine uOne (i := 9) rfl (by kernel_rfl) (fun K hK => ?_)
                go_simp
                (refine hK _ _ ⟨hAz, fun _ => hB0⟩ ?_; clear hK K; (try simp only [Act.put, List.setIfInBounds_toArray, List.set_cons_zero, List.set_cons_succ]))
                refine uOne (i := 10) rfl (by kernel_rfl) (fun K hK => ?_)
                go_simp
                (refine hK _ _ ⟨hAf, fun _ => hB0⟩ ?_; clear hK K; (try simp only [Act.put, List.setIfInBounds_toArray, List.set_cons_zero, List.set_cons_succ]))
                refine uOne (i := 11) rfl (by kernel_rfl) (fun K hK => ?_)
                go_simp
                (refine hK _ _ ⟨hAf, fun _ => hB0⟩ ?_; clear hK K; (try simp only [Act.put, List.setIfInBounds_toArray, List.set_cons_zero, List.set_cons_succ]))
                refine anyU_done (by kernel_rfl) ?_ _
                clear hA0 hA9 hAz hAf
                go_wp2_with fail
                go_meet
                case rel => exact ⟨_, z, rfl, rfl, HZ, HV, HBF⟩
              · go_simp
                have HB2 := Lib.hid (HB1.out.alloc HB1.out.size (.cells #[.slice none 0 0, .int .i64 0, .slice none 0 0, .slice none 0 0] 29))
                have hA2 := HAT.out _ HB2.out
                have HK2 := Lib.hid (HK1.out.alc (.cells #[.slice none 0 0, .int .i64 0, .slice none 0 0, .slice none 0 0] 29))
                have HKZ := Lib.hid (show Blk ((wd.alloc (.cells #[.slice x0.A x0.na x0.ca, .int .i64 x0.a.st, .slice x0.M x0.nm x0.cm, .slice x0.E x0.ne x0.ce, .slice z14.A z14.na z14.ca, .int .i64 z14.a.st, .slice z14.M z14.nm z14.cm, .slice z14.E z14.ne z14.ce] 29)).alloc (.cells #[.slice none 0 0, .int .i64 0, .slice none 0 0, .slice none 0 0] 29)) (wd.heap.size + 1) 29 [.slice none 0 0, .int .i64 0, .slice none 0 0, .slice none 0 0] by
                  have := Blk.new (wd.alloc (.cells #[.slice x0.A x0.na x0.ca, .int .i64 x0.a.st, .slice x0.M x0.nm x0.cm, .slice x0.E x0.ne x0.ce, .slice z14.A z14.na z14.ca, .int .i64 z14.a.st, .slice z14.M z14.nm z14.cm, .slice z14.E z14.ne z14.ce] 29)) 29 [.slice none 0 0, .int .i64 0, .slice none 0 0, .slice none 0 0]
                  rwa [World.size_alloc] at this)
                have HC2 := Lib.hid (compose_lit [x0, z14] 2 wd.heap.size r Td ((wd.alloc (.cells #[.slice x0.A x0.na x0.ca, .int .i64 x0.a.st, .slice x0.M x0.nm x0.cm, .slice x0.E x0.ne x0.ce, .slice z14.A z14.na z14.ca, .int .i64 z14.a.st, .slice z14.M z14.nm z14.cm, .slice z14.E z14.ne z14.ce] 29)).alloc (.cells #[.slice none 0 0, .int .i64 0, .slice none 0 0, .slice none 0 0] 29)) rfl (by omega) HK2.out (HXS.out _ HB2.out) HFX.out HSX.out)
                clear HC1 HK1 hA1
                (refine hK _ _ ⟨hA2, fun _ => hB0⟩ ?_; clear hK K; (try simp only [Act.put, List.setIfInBounds_toArray, List.set_cons_zero, List.set_cons_succ]))
                refine uOne (i := 5) rfl (by kernel_rfl) (fun K hK => ?_)
                go_simp
                go_at_call 16
                refine HC2.out.mono ?_
                rintro e w9 ⟨z, rfl, hz, hzo, hfr, hb9⟩
                have HZ := Lib.hid hz; clear hz
                have hkz := HKZ.out.below hb9 HKZ.out.lt
                have f0 := hkz.free 0
                have f1 := hkz.free 1
                have f2 := hkz.free 2
                have f3 := hkz.free 3
                have e0 := hkz.cell (j := 0) rfl
                have e1 := hkz.cell (j := 1) rfl
                have e2 := hkz.cell (j := 2) rfl
                have e3 := hkz.cell (j := 3) rfl
                have l9 : (wd.heap.size + 1) < w9.heap.size := hkz.lt
                have HV := Lib.hid (VarA.put hkz hzo hfr (Nat.le_of_lt HKZ.out.lt))
                have hb29 := HB2.out.trans (hb9.mono HB2.out.size)
                have hbf := put_below (b := (wd.heap.size + 1)) (v0 := .slice z.A z.na z.ca) (v1 := .int .i64 z.a.st) (v2 := .slice z.M z.nm z.cm) (v3 := .slice z.E z.ne z.ce) hb29 (by omega)
                have hA9 := HAT.out _ hb29
                have hAf := HAT.out _ hbf
                have HBF := Lib.hid (HDR.out.trans (hbf.mono HDR.out.size))
                clear hA0 hA2 HC2 HK2 HKZ hzo hfr hb9 hb29 hbf hkz
                (refine hK _ _ ⟨hA9, fun _ => hB0⟩ ?_; clear hK K; (try simp only [Act.put, List.setIfInBounds_toArray, List.set_cons_zero, List.set_cons_succ]))
                have hA0 := hA9
                ((refine uTake (i := 6) (v := ?_) rfl (by kernel_rfl) (fun _ _ _ h => h) (by rfl) (fun W hA hB => ?_) ⟨hA0, fun _ => hB0⟩ ?_; rotate_left; (· (clear hB; (try dsimp only at hA); go_simp; try with_reducible rfl)); (try simp only [Act.put, List.setIfInBounds_toArray, List.set_cons_zero, List.set_cons_succ])); (refine uTake (i := 7) (v := ?_) rfl (by kernel_rfl) (fun _ _ _ h => h) (by rfl) (fun W hA hB => ?_) ⟨hA0, fun _ => hB0⟩ ?_; rotate_left; (· (clear hB; (try dsimp only at hA); go_simp; try with_reducible rfl)); (try simp only [Act.put, List.setIfInBounds_toArray, List.set_cons_zero, List.set_cons_succ])); (refine uTake (i := 8) (v := ?_) rfl (by kernel_rfl) (fun _ _ _ h => h) (by rfl) (fun W hA hB => ?_) ⟨hA0, fun _ => hB0⟩ ?_; rotate_left; (· (clear hB; (try dsimp only at hA); go_simp; try with_reducible rfl)); (try simp only [Act.put, List.setIfInBounds_toArray, List.set_cons_zero, List.set_cons_succ])))
                refine uOne (i := 10) rfl (by kernel_rfl) (fun K hK => ?_)
                go_simp
                (refine hK _ _ ⟨hAf, fun _ => hB0⟩ ?_; clear hK K; (try simp only [Act.put, List.setIfInBounds_toArray, List.set_cons_zero, List.set_cons_succ]))
                refine uOne (i := 11) rfl (by kernel_rfl) (fun K hK => ?_)
                go_simp
                (refine hK _ _ ⟨hAf, fun _ => hB0⟩ ?_; clear hK K; (try simp only [Act.put, List.setIfInBounds_toArray, List.set_cons_zero, List.set_cons_succ]))
                refine anyU_done (by kernel_rfl) ?_ _
                clear hA0 hA9 hAf f0 f1 f2 f3 e0 e1 e2 e3 l9
                go_wp2_with fail
                go_meet
                case rel => exact ⟨_, z, rfl, rfl, HZ, HV, HBF⟩
            · go_simp
              have HB0 := Lib.hid (box_below wd (.cells #[.slice none 0 0, .int .i64 0, .slice none 0 0, .slice none 0 0] 29))
              have hA1 := HAT.out _ HB0.out
              (refine hK _ _ ⟨hA1, fun _ => hB0⟩ ?_; clear hK K; (try simp only [Act.put, List.setIfInBounds_toArray, List.set_cons_zero, List.set_cons_succ]))
              have HB2 := Lib.hid (HB0.out.alloc HB0.out.size (.cells #[.slice x0.A x0.na x0.ca, .int .i64 x0.a.st, .slice x0.M x0.nm x0.cm, .slice x0.E x0.ne x0.ce, .slice z14.A z14.na z14.ca, .int .i64 z14.a.st, .slice z14.M z14.nm z14.cm, .slice z14.E z14.ne z14.ce] 29))
              have hA2 := HAT.out _ HB2.out
              have HKZ := Lib.hid ((Blk.new wd 29 [.slice none 0 0, .int .i64 0, .slice none 0 0, .slice none 0 0]).alc (.cells #[.slice x0.A x0.na x0.ca, .int .i64 x0.a.st, .slice x0.M x0.nm x0.cm, .slice x0.E x0.ne x0.ce, .slice z14.A z14.na z14.ca, .int .i64 z14.a.st, .slice z14.M z14.nm z14.cm, .slice z14.E z14.ne z14.ce] 29))
              have HK2 := Lib.hid (show Blk ((wd.alloc (.cells #[.slice none 0 0, .int .i64 0, .slice none 0 0, .slice none 0 0] 29)).alloc (.cells #[.slice x0.A x0.na x0.ca, .int .i64 x0.a.st, .slice x0.M x0.nm x0.cm, .slice x0.E x0.ne x0.ce, .slice z14.A z14.na z14.ca, .int .i64 z14.a.st, .slice z14.M z14.nm z14.cm, .slice z14.E z14.ne z14.ce] 29)) (wd.heap.size + 1) 29 ([x0, z14].flatMap avc) by
                have := Blk.new (wd.alloc (.cells #[.slice none 0 0, .int .i64 0, .slice none 0 0, .slice none 0 0] 29)) 29 ([x0, z14].flatMap avc)
                rwa [World.size_alloc] at this)
              have HC2 := Lib.hid (compose_lit [x0, z14] 2 (wd.heap.size + 1) r Td ((wd.alloc (.cells #[.slice none 0 0, .int .i64 0, .slice none 0 0, .slice none 0 0] 29)).alloc (.cells #[.slice x0.A x0.na x0.ca, .int .i64 x0.a.st, .slice x0.M x0.nm x0.cm, .slice x0.E x0.ne x0.ce, .slice z14.A z14.na z14.ca, .int .i64 z14.a.st, .slice z14.M z14.nm z14.cm, .slice z14.E z14.ne z14.ce] 29)) rfl (by omega) HK2.out (HXS.out _ HB2.out) HFX.out HSX.out)
              clear hA0
              have hA0 := hA1
              refine uOne (i := 4) rfl (by kernel_rfl) (fun K hK => ?_)
              go_simp
              (refine hK _ _ ⟨hA2, fun _ => hB0⟩ ?_; clear hK K; (try simp only [Act.put, List.setIfInBounds_toArray, List.set_cons_zero, List.set_cons_succ]))
              refine uOne (i := 5) rfl (by kernel_rfl) (fun K hK => ?_)
              go_simp
              go_at_call 16
              refine HC2.out.mono ?_
              rintro e w9 ⟨z, rfl, hz, hzo, hfr, hb9⟩
              have HZ := Lib.hid hz; clear hz
              have hkz := HKZ.out.below hb9 HKZ.out.lt
              have f0 := hkz.free 0
              have f1 := hkz.free 1
              have f2 := hkz.free 2
              have f3 := hkz.free 3
              have e0 := hkz.cell (j := 0) rfl
              have e1 := hkz.cell (j := 1) rfl
              have e2 := hkz.cell (j := 2) rfl
              have e3 := hkz.cell (j := 3) rfl
              have l9 : wd.heap.size < w9.heap.size := hkz.lt
              have HV := Lib.hid (VarA.put hkz hzo hfr (Nat.le_of_lt HKZ.out.lt))
              have hb29 := HB2.out.trans (hb9.mono HB2.out.size)
              have hbf := put_below (b := wd.heap.size) (v0 := .slice z.A z.na z.ca) (v1 := .int .i64 z.a.st) (v2 := .slice z.M z.nm z.cm) (v3 := .slice z.E z.ne z.ce) hb29 (by omega)
              have hA9 := HAT.out _ hb29
              have hAf := HAT.out _ hbf
              have HBF := Lib.hid (HDR.out.trans (hbf.mono HDR.out.size))
              clear hA0 hA2 HC2 HK2 HKZ hzo hfr hb9 hb29 hbf hkz
              (refine hK _ _ ⟨hA9, fun _ => hB0⟩ ?_; clear hK K; (try simp only [Act.put, List.setIfInBounds_toArray, List.set_cons_zero, List.set_cons_succ]))
              have hA0 := hA9
              ((refine uTake (i := 6) (v := ?_) rfl (by kernel_rfl) (fun _ _ _ h => h) (by rfl) (fun W hA hB => ?_) ⟨hA0, fun _ => hB0⟩ ?_; rotate_left; (· (clear hB; (try dsimp only at hA); go_simp; try with_reducible rfl)); (try simp only [Act.put, List.setIfInBounds_toArray, List.set_cons_zero, List.set_cons_succ])); (refine uTake (i := 7) (v := ?_) rfl (by kernel_rfl) (fun _ _ _ h => h) (by rfl) (fun W hA hB => ?_) ⟨hA0, fun _ => hB0⟩ ?_; rotate_left; (· (clear hB; (try dsimp only at hA); go_simp; try with_reducible rfl)); (try simp only [Act.put, List.setIfInBounds_toArray, List.set_cons_zero, List.set_cons_succ])); (refine uTake (i := 8) (v := ?_) rfl (by kernel_rfl) (fun _ _ _ h => h) (by rfl) (fun W hA hB => ?_) ⟨hA0, fun _ => hB0⟩ ?_; rotate_left; (· (clear hB; (try dsimp only at hA); go_simp; try with_reducible rfl)); (try simp only [Act.put, List.setIfInBounds_toArray, List.set_cons_zero, List.set_cons_succ])))
              refine uOne (i := 10) rfl (by kernel_rfl) (fun K hK => ?_)
              go_simp
              (refine hK _ _ ⟨hAf, fun _ => hB0⟩ ?_; clear hK K; (try simp only [Act.put, List.setIfInBounds_toArray, List.set_cons_zero, List.set_cons_succ]))
              refine uOne (i := 11) rfl (by kernel_rfl) (fun K hK => ?_)
              go_simp
              (refine hK _ _ ⟨hAf, fun _ => hB0⟩ ?_; clear hK K; (try simp only [Act.put, List.setIfInBounds_toArray, List.set_cons_zero, List.set_cons_succ]))
              refine anyU_done (by kernel_rfl) ?_ _
              clear hA0 hA9 hAf f0 f1 f2 f3 e0 e1 e2 e3 l9
              go_wp2_with fail
              go_meet
              case rel => exact ⟨_, z, rfl, rfl, HZ, HV, HBF⟩
          case rest =>
            obtain ⟨b18, z18, rfl, rfl, HZ18, V18, HBN⟩ := hcut
            obtain ⟨w9, rfl⟩ : ∃ w9 : World, w9 = wc := ⟨_, rfl⟩
            have v6 := V6.out.below HBN.out
            have v10 := V10.out.below HBN.out
            have V16 := Lib.hid (V16.out.below HBN.out)
            have HB9 := Lib.hid (HB8.out.trans (HBN.out.mono HB8.out.size))
            have HWR := Lib.hid (syn_wf HF.out.wf (Nat.le_trans (prodN_few HSL.out (by rw [HLL.out]; exact Nat.le_refl _)) (by omega)) HRT.out)
            have HCR := Lib.hid (syn_canon HF.out.wf (Nat.le_trans (prodN_few HSL.out (by rw [HLL.out]; exact Nat.le_refl _)) (by omega)) HRT.out)
            clear HR8 HB8 HBN V14 V6 V10
            have HE := Lib.hid (automaton_Equal za.A za.M za.E z10.A z10.M z10.E za.na za.ca za.nm za.cm za.ne za.ce z10.na z10.ca z10.nm z10.cm z10.ne z10.ce za.a z10.a true w9 (eqA_of (HZA.out.trans HZ10.out.symm)) v6.ok v10.ok)
            have p0 := v6.blk.cell (j := 0) rfl
            have p1 := v6.blk.cell (j := 1) rfl
            have p2 := v6.blk.cell (j := 2) rfl
            have p3 := v6.blk.cell (j := 3) rfl
            have q0 := v10.blk.cell (j := 0) rfl
            have q1 := v10.blk.cell (j := 1) rfl
            have q2 := v10.blk.cell (j := 2) rfl
            have q3 := v10.blk.cell (j := 3) rfl
            have V6H := Lib.hid v6
            clear v6 v10
            go_wp2_with fail
            clear p0 p1 p2 p3 q0 q1 q2 q3
            refine HE.out.mono ?_
            rintro e w10 ⟨rfl, hb⟩
            have v6 := V6H.out.below hb
            have HB10 := Lib.hid (HB9.out.trans (hb.mono HB9.out.size))
            clear V6H HE
            have v16 := V16.out.below hb
            have V18 := Lib.hid (V18.out.below hb)
            clear hb V16
            have HE := Lib.hid (automaton_Equal za.A za.M za.E z16.A z16.M z16.E za.na za.ca za.nm za.cm za.ne za.ce z16.na z16.ca z16.nm z16.cm z16.ne z16.ce za.a z16.a true w10 (eqA_of (HZA.out.trans HZ16.out.symm)) v6.ok v16.ok)
            have p0 := v6.blk.cell (j := 0) rfl
            have p1 := v6.blk.cell (j := 1) rfl
            have p2 := v6.blk.cell (j := 2) rfl
            have p3 := v6.blk.cell (j := 3) rfl
            have q0 := v16.blk.cell (j := 0) rfl
            have q1 := v16.blk.cell (j := 1) rfl
            have q2 := v16.blk.cell (j := 2) rfl
            have q3 := v16.blk.cell (j := 3) rfl
            have V6H := Lib.hid v6
            clear v6 v16
            go_wp2_with fail
            clear p0 p1 p2 p3 q0 q1 q2 q3
            refine HE.out.mono ?_
            rintro e w11 ⟨rfl, hb⟩
            have v6 := V6H.out.below hb
            have HB11 := Lib.hid (HB10.out.trans (hb.mono HB10.out.size))
            clear V6H HE
            have v18 := V18.out.below hb
            clear hb V18
            have HE := Lib.hid (automaton_Equal za.A za.M za.E z18.A z18.M z18.E za.na za.ca za.nm za.cm za.ne za.ce z18.na z18.ca z18.nm z18.cm z18.ne z18.ce za.a z18.a true w11 (eqA_of (HZA.out.trans HZ18.out.symm)) v6.ok v18.ok)
            have p0 := v6.blk.cell (j := 0) rfl
            have p1 := v6.blk.cell (j := 1) rfl
            have p2 := v6.blk.cell (j := 2) rfl
            have p3 := v6.blk.cell (j := 3) rfl
            have q0 := v18.blk.cell (j := 0) rfl
            have q1 := v18.blk.cell (j := 1) rfl
            have q2 := v18.blk.cell (j := 2) rfl
            have q3 := v18.blk.cell (j := 3) rfl
            have V6H := Lib.hid v6
            clear v6 v18
            go_wp2_with fail
            clear p0 p1 p2 p3 q0 q1 q2 q3
            refine HE.out.mono ?_
            rintro e w12 ⟨rfl, hb⟩
            have v6 := V6H.out.below hb
            have HB12 := Lib.hid (HB11.out.trans (hb.mono HB11.out.size))
            clear V6H HE
            clear hb
            have HIC := Lib.hid (automaton_IsCanonical za.A za.na za.ca za.M za.nm za.cm za.E za.ne za.ce za.a w12 v6.ok (by rw [HZA.out]; exact HWR.out) (by rw [HZA.out]; exact HCR.out))
            have p0 := v6.blk.cell (j := 0) rfl
            have p1 := v6.blk.cell (j := 1) rfl
            have p2 := v6.blk.cell (j := 2) rfl
            have p3 := v6.blk.cell (j := 3) rfl
            clear v6
            go_wp2_with fail
            refine HIC.out.mono ?_
            rintro e w13 ⟨rfl, hb⟩
            have HB13 := Lib.hid (HB12.out.trans (hb.mono HB12.out.size))
            clear p0 p1 p2 p3 hb
            go_wp2
            go_ret
            exact ⟨rfl, HB13.out⟩
end Go.Proofs.YtbdliebjalghmaaDoor
