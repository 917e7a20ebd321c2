/- The law ProductSelf: its walk. -/
import Derived.Test.YtbdliebjalghmaaDoorOa
import Derived.Test.YtbdliebjalghmaaDoorQg
import Derived.Test.YtbdliebjalghmaaDoorGf
import Derived.Test.YtbdliebjalghmaaDoorMn
import Derived.Test.YtbdliebjalghmaaDoorRy
import Derived.Great.BuildSlice
namespace Go.Proofs.YtbdliebjalghmaaDoor
section
open Go.ChangeShapes Go.WideShapes Go.ChangeAt Go.RowKit Go.Deep Go
section
variable {H : Type} {enc : TypeId × Value → H} {W : World} {spare : Nat → Bool} {held : Bool}
set_option maxRecDepth 100000 in
theorem partArg_of {b0 : Nat} {v : Value} {d : DataW H} {p : List MemPlace} (hv : Value.okWide Tryd.prog W .any b0 53 v) (h : DataW.Trod enc Tryd.prog W 0 spare held 53 v d p) : ∃ q : Pt, q.ok ∧ v = .agg (pcells q).toArray := by
  obtain ⟨cs, rfl, hsz⟩ := okWide_struct Tryd.underlying53 hv
  obtain ⟨fuel, hf⟩ := h
  obtain ⟨q, hq, hc⟩ := part_of hf
  refine ⟨q, hq, ?_⟩
  have hc' : cs.toList = pcells q := hc
  rw [← hc', Array.toArray_toList]
end
end
open Go.RowKit Go Go.Maps

/-- a variable that holds an automaton -/
structure VarA (w : World) (b : Nat) (x : AV) : Prop where
  blk : Blk w b 29 (avc x)
  ok : x.ok w w.heap.size
theorem VarA.new {w : World} {x : AV} (h : x.ok w w.heap.size) : VarA (w.alloc (.cells #[.slice x.A x.na x.ca, .int .i64 x.a.st, .slice x.M x.nm x.cm, .slice x.E x.ne x.ce] 29)) w.heap.size x :=
  ⟨Blk.new _ _ (avc x), AutR.more (AutR.below h (box_below _ _)) (box_below _ _).size⟩
theorem VarA.below {w w' : World} {b : Nat} {x : AV} (h : VarA w b x) (hb : Below w.heap.size w w') : VarA w' b x :=
  ⟨h.blk.below hb h.blk.lt, AutR.more (AutR.below h.ok hb) hb.size⟩
theorem compose_pair (x y : AV) (b : Nat) (r : Aut) (T : List (List Int)) (w : World) (hb : w.heap.size = b) (hx : x.ok w w.heap.size) (hy : y.ok w w.heap.size) (hf : FewL [x.a, y.a]) (hr : synR [x.a, y.a] = some (r, T)) :
    Calls Tryd.prog 16 #[.slice (some ⟨b, 0, none⟩) 2 2] (w.alloc (.cells #[.slice x.A x.na x.ca, .int .i64 x.a.st, .slice x.M x.nm x.cm, .slice x.E x.ne x.ce, .slice y.A y.na y.ca, .int .i64 y.a.st, .slice y.M y.nm y.cm, .slice y.E y.ne y.ce] 29))
      fun e w' => ∃ z : AV, e = .returned (.tuple #[.agg #[.slice z.A z.na z.ca, .int .i64 z.a.st, .slice z.M z.nm z.cm, .slice z.E z.ne z.ce], .int .i64 0]) ∧ z.a = r ∧ z.ok w' w'.heap.size ∧ Below w.heap.size w w' := by
  subst hb
  have hb1 := box_below w (.cells #[.slice x.A x.na x.ca, .int .i64 x.a.st, .slice x.M x.nm x.cm, .slice x.E x.ne x.ce, .slice y.A y.na y.ca, .int .i64 y.a.st, .slice y.M y.nm y.cm, .slice y.E y.ne y.ce] 29)
  have hk : Blk (w.alloc (.cells #[.slice x.A x.na x.ca, .int .i64 x.a.st, .slice x.M x.nm x.cm, .slice x.E x.ne x.ce, .slice y.A y.na y.ca, .int .i64 y.a.st, .slice y.M y.nm y.cm, .slice y.E y.ne y.ce] 29)) w.heap.size 29 (avc x ++ avc y) := Blk.new w 29 (avc x ++ avc y)
  refine (compose_few _ 2 2 [x, y] r T _ rfl (two_rdl hk (AutR.more (AutR.below hx hb1) hb1.size) (AutR.more (AutR.below hy hb1) hb1.size)) (Nat.le_refl _) (by omega) hf hr).mono ?_
  rintro e w' ⟨hb2, A, na, ca, M, nm, cm, E, ne, ce, rfl, ha, _⟩
  exact ⟨⟨A, na, ca, M, nm, cm, E, ne, ce, r⟩, rfl, rfl, ha, hb1.trans (hb2.mono hb1.size)⟩
theorem compose_nil (w : World) : Calls Tryd.prog 16 #[.slice none 0 0] w
      fun e w' => ∃ z : AV, e = .returned (.tuple #[.agg #[.slice z.A z.na z.ca, .int .i64 z.a.st, .slice z.M z.nm z.cm, .slice z.E z.ne z.ce], .int .i64 0]) ∧ z.a = oneA ∧ z.ok w' w'.heap.size ∧ Below w.heap.size w w' := by
  refine (compose_few none 0 0 [] oneA [[]] w rfl RdL.nil (Nat.le_refl _) (by omega) (few_of (fun a ha => by simp at ha) (by simp)) synR_nil).mono ?_
  rintro e w' ⟨hb2, A, na, ca, M, nm, cm, E, ne, ce, rfl, ha, _⟩
  exact ⟨⟨A, na, ca, M, nm, cm, E, ne, ce, oneA⟩, rfl, rfl, ha, hb2⟩
theorem pcells_len {p : Pt} (h : p.ok) : (pcells p).length = 28 := by simp [pcells, gcells, bv, h.2.len]
theorem part_info : (Tryd.prog.info? 53).map (fun i => (i.zero.isSome, i.size)) = some (true, 28) := by kernel_rfl
theorem part_size : (Tryd.prog.info? 53).map (·.size) = some 28 := by kernel_rfl
section
variable {ops : Array Oper} {rest : List Oper} {o : Oper} {a : Act} {w : World} {Q : Exit → Act → World → Prop}
theorem wpList_load_part (hg : o.guard = none) (x : Operand) (ho : o.op = .load 53 x) (b : Nat) (p : Pt) (hp : p.ok) (hx : a.eval x = .pointer (some ⟨b, 0, none⟩)) (hk : Blk w b 53 (pcells p))
    (h : wpList Tryd.prog ops Q rest (a.put o.dst (.agg (pcells p).toArray)) w) : wpList Tryd.prog ops Q (o :: rest) a w :=
  wpList_load_mid hg _ x ho b 0 hx (pcells p) _ (fun j v hv => by rw [Nat.zero_add]; exact hk.cell hv) Tryd.underlying53 rfl (by rw [pcells_len hp]; exact part_size) h
theorem wpList_one_part (hg : o.guard = none) (x : Operand) (ho : o.op = .buildSlice 22 1 #[(0, x)]) (p : Pt) (hp : p.ok) (hx : a.eval x = .agg (pcells p).toArray)
    (h : wpList Tryd.prog ops Q rest (a.put o.dst (.slice (some ⟨w.heap.size, 0, none⟩) 1 1)) (w.alloc (.cells (pcells p).toArray 53))) : wpList Tryd.prog ops Q (o :: rest) a w := by
  have hi := part_info
  cases hie : Tryd.prog.info? 53 with
  | none => rw [hie] at hi; cases hi
  | some ie =>
    rw [hie] at hi
    simp only [Option.map_some, Option.some.injEq, Prod.mk.injEq] at hi
    obtain ⟨hz, hs⟩ := hi
    obtain ⟨z, hz⟩ := Option.isSome_iff_exists.1 hz
    refine wpList_buildSlice hg _ 53 1 #[(0, x)] ho (pcells p).toArray ie z Tryd.underlying22 hie hz (by omega) (by omega) ?_ h
    have hf := Great.fill_whole (s := 28) (by omega) [.agg (pcells p).toArray] ((Array.range (1 * ie.size)).map (z.cells[· % z.cells.size]!)) (fun v hv => by
      obtain rfl := List.mem_singleton.1 hv; simpa [Value.cells] using pcells_len hp) (by simp [hs])
    rw [hs] at hf ⊢
    rw [show (#[(0, x)].map fun (i, x) => (i, a.eval x)).toList = (([.agg (pcells p).toArray] : List Value).zipIdx 0).map fun x => (x.2, x.1) by simp [hx]]
    rw [hf]
    simp [Value.cells]
end
theorem one_rdp (w : World) {p : Pt} (hp : p.ok) : RdP (w.alloc (.cells (pcells p).toArray 53)) (w.alloc (.cells (pcells p).toArray 53)).heap.size (some ⟨w.heap.size, 0, none⟩) [p] := by
  have hk : Blk (w.alloc (.cells (pcells p).toArray 53)) w.heap.size 53 ([p].flatMap pcells) := by
    simpa using Blk.new w 53 (pcells p)
  have ho : ∀ z ∈ [p], z.ok := fun z hz => by
    obtain rfl := List.mem_singleton.1 hz; exact hp
  exact ⟨Blk.rdr (fun z hz => pcells_len (ho z hz)) hk, ho⟩
theorem one_of_list {w : World} {A2 : Option Addr} {n : Nat} {xs : List AV} {a : Aut} (hm : xs.map AV.a = [a]) (hl : xs.length = n) (h : RdL w w.heap.size A2 xs) :
    ∃ (ad : Addr) (x : AV), A2 = some ad ∧ n = 1 ∧ ad.block < w.heap.size ∧
      w.cell? ad = some (.slice x.A x.na x.ca) ∧ w.cell? ⟨ad.block, ad.off + 1, none⟩ = some (.int .i64 x.a.st) ∧ w.cell? ⟨ad.block, ad.off + 2, none⟩ = some (.slice x.M x.nm x.cm) ∧ w.cell? ⟨ad.block, ad.off + 3, none⟩ = some (.slice x.E x.ne x.ce) ∧
      x.ok w w.heap.size ∧ x.a = a := by
  match xs, hm with
  | [x], hm =>
    simp only [List.map_cons, List.map_nil, List.cons.injEq, and_true] at hm
    obtain ⟨ad, e1, hb, hx⟩ := h.1 0 x rfl
    exact ⟨ad, x, e1, hl.symm, hb, hx 0 _ rfl, hx 1 _ rfl, hx 2 _ rfl, hx 3 _ rfl, h.2 x (by simp), hm⟩

set_option maxRecDepth 100000 in
set_option maxHeartbeats 6400000 in
theorem self_walk (p : Pt) (w : World) (hp : p.ok) :
    Calls Tryd.prog 5 #[.agg (pcells p).toArray] w fun e w' => e = .returned (.bool true) ∧ Below w.heap.size w w' := by
  have hsm := ptA_sm hp
  have k3 : Blk (w.alloc (.cells (pcells p).toArray 53)) w.heap.size 53 (pcells p) := Blk.new w _ _
  have hB2 := box_below w (.cells (pcells p).toArray 53)
  have HK := Lib.hid (law_known (w.alloc (.cells (pcells p).toArray 53)))
  have K3 := Lib.hid k3; clear k3
  have HB2 := Lib.hid hB2; clear hB2
  have HP := Lib.hid hp; clear hp
  have HS := Lib.hid hsm; clear hsm
  go_enter Tryd.func5, Tryd.ntmps5
  go_wp2_with fail
  refine HK.out.mono ?_
  rintro e w1 ⟨rfl, hb1⟩
  have hB1 := HB2.out.trans (hb1.mono HB2.out.size)
  have k3 := K3.out.below hb1 K3.out.lt
  have HB1 := Lib.hid hB1; clear hB1
  clear K3 HB2 HK hb1
  have HLI := Lib.hid (law_List _ 1 1 [p] _ rfl (one_rdp w1 HP.out))
  have hW2 := box_below w1 (.cells (pcells p).toArray 53)
  have HBW := Lib.hid (HB1.out.trans (hW2.mono HB1.out.size))
  clear hW2 HB1
  go_wp2_with (first | refine wpList_load_part rfl _ rfl w.heap.size p HP.out (by rfl) k3 ?_ | refine wpList_one_part rfl _ rfl p HP.out (by rfl) ?_)
  clear k3
  refine HLI.out.mono ?_
  rintro e w2 ⟨A2, n2, c2, xs, rfl, hm2, hl2, _, _, hr2, hb2⟩
  obtain ⟨ad, x, rfl, rfl, hadb, c0, c1, c2', c3, hx, hxa⟩ := one_of_list (a := ptA p) hm2 hl2 hr2
  have hB2 := HBW.out.trans (hb2.mono HBW.out.size)
  have hba := box_below w2 (.cells #[.slice x.A x.na x.ca, .int .i64 x.a.st, .slice x.M x.nm x.cm, .slice x.E x.ne x.ce] 29)
  have V3 := Lib.hid (VarA.new hx)
  have HB := Lib.hid (hB2.trans (hba.mono hB2.size))
  have HN := Lib.hid (compose_nil (w2.alloc (.cells #[.slice x.A x.na x.ca, .int .i64 x.a.st, .slice x.M x.nm x.cm, .slice x.E x.ne x.ce] 29)))
  have HXA := Lib.hid hxa; clear hxa
  clear hm2 hl2 hr2 hb2 hB2 HBW HLI hba hx
  go_wp2_with fail
  clear c0 c1 c2' c3
  refine HN.out.mono ?_
  rintro e w3 ⟨y, rfl, hya, hy, hb3⟩
  have hb3a := hb3.trans ((box_below w3 (.cells #[.slice y.A y.na y.ca, .int .i64 y.a.st, .slice y.M y.nm y.cm, .slice y.E y.ne y.ce] 29)).mono hb3.size)
  have v3 := V3.out.below hb3a
  have v4 := VarA.new hy
  have HB3 := Lib.hid (HB.out.trans (hb3a.mono HB.out.size))
  have p0 : (w3.alloc (.cells #[.slice y.A y.na y.ca, .int .i64 y.a.st, .slice y.M y.nm y.cm, .slice y.E y.ne y.ce] 29)).cell? ⟨w2.heap.size, 0, none⟩ = some (.slice x.A x.na x.ca) := v3.blk.cell (j := 0) rfl
  have p1 : (w3.alloc (.cells #[.slice y.A y.na y.ca, .int .i64 y.a.st, .slice y.M y.nm y.cm, .slice y.E y.ne y.ce] 29)).cell? ⟨w2.heap.size, 1, none⟩ = some (.int .i64 x.a.st) := v3.blk.cell (j := 1) rfl
  have p2 : (w3.alloc (.cells #[.slice y.A y.na y.ca, .int .i64 y.a.st, .slice y.M y.nm y.cm, .slice y.E y.ne y.ce] 29)).cell? ⟨w2.heap.size, 2, none⟩ = some (.slice x.M x.nm x.cm) := v3.blk.cell (j := 2) rfl
  have p3 : (w3.alloc (.cells #[.slice y.A y.na y.ca, .int .i64 y.a.st, .slice y.M y.nm y.cm, .slice y.E y.ne y.ce] 29)).cell? ⟨w2.heap.size, 3, none⟩ = some (.slice x.E x.ne x.ce) := v3.blk.cell (j := 3) rfl
  obtain ⟨r, T, hrT⟩ := (few_of (l := [x.a, x.a]) (fun z hz => by rw [HXA.out] at hz; simp at hz; rw [hz]; exact HS.out) (by simp)).syn
  have HC := Lib.hid (compose_pair x x (w3.heap.size + 1) r T (w3.alloc (.cells #[.slice y.A y.na y.ca, .int .i64 y.a.st, .slice y.M y.nm y.cm, .slice y.E y.ne y.ce] 29)) (by simp) v3.ok v3.ok (few_of (fun z hz => by rw [HXA.out] at hz; simp at hz; rw [hz]; exact HS.out) (by simp)) hrT)
  have HR1 := Lib.hid (show r = ptA p from syn_self HS.out (by rw [← HXA.out]; exact hrT))
  have V3 := Lib.hid v3; clear v3
  have V4 := Lib.hid v4; clear v4
  have HYA := Lib.hid hya; clear hya
  clear hb3 hb3a hy hrT HB HN
  go_wp2_with fail
  clear p0 p1 p2 p3
  refine HC.out.mono ?_
  rintro e w4 ⟨z, rfl, hza, hz, hb4⟩
  have hb4a := hb4.trans ((box_below w4 (.cells #[.slice z.A z.na z.ca, .int .i64 z.a.st, .slice z.M z.nm z.cm, .slice z.E z.ne z.ce] 29)).mono hb4.size)
  have v3 := V3.out.below hb4a
  have v4 := V4.out.below hb4a
  have v6 := VarA.new hz
  have HB4 := Lib.hid (HB3.out.trans (hb4a.mono HB3.out.size))
  have p0 : (w4.alloc (.cells #[.slice z.A z.na z.ca, .int .i64 z.a.st, .slice z.M z.nm z.cm, .slice z.E z.ne z.ce] 29)).cell? ⟨w2.heap.size, 0, none⟩ = some (.slice x.A x.na x.ca) := v3.blk.cell (j := 0) rfl
  have p1 : (w4.alloc (.cells #[.slice z.A z.na z.ca, .int .i64 z.a.st, .slice z.M z.nm z.cm, .slice z.E z.ne z.ce] 29)).cell? ⟨w2.heap.size, 1, none⟩ = some (.int .i64 x.a.st) := v3.blk.cell (j := 1) rfl
  have p2 : (w4.alloc (.cells #[.slice z.A z.na z.ca, .int .i64 z.a.st, .slice z.M z.nm z.cm, .slice z.E z.ne z.ce] 29)).cell? ⟨w2.heap.size, 2, none⟩ = some (.slice x.M x.nm x.cm) := v3.blk.cell (j := 2) rfl
  have p3 : (w4.alloc (.cells #[.slice z.A z.na z.ca, .int .i64 z.a.st, .slice z.M z.nm z.cm, .slice z.E z.ne z.ce] 29)).cell? ⟨w2.heap.size, 3, none⟩ = some (.slice x.E x.ne x.ce) := v3.blk.cell (j := 3) rfl
  have q0 : (w4.alloc (.cells #[.slice z.A z.na z.ca, .int .i64 z.a.st, .slice z.M z.nm z.cm, .slice z.E z.ne z.ce] 29)).cell? ⟨w3.heap.size, 0, none⟩ = some (.slice y.A y.na y.ca) := v4.blk.cell (j := 0) rfl
  have q1 : (w4.alloc (.cells #[.slice z.A z.na z.ca, .int .i64 z.a.st, .slice z.M z.nm z.cm, .slice z.E z.ne z.ce] 29)).cell? ⟨w3.heap.size, 1, none⟩ = some (.int .i64 y.a.st) := v4.blk.cell (j := 1) rfl
  have q2 : (w4.alloc (.cells #[.slice z.A z.na z.ca, .int .i64 z.a.st, .slice z.M z.nm z.cm, .slice z.E z.ne z.ce] 29)).cell? ⟨w3.heap.size, 2, none⟩ = some (.slice y.M y.nm y.cm) := v4.blk.cell (j := 2) rfl
  have q3 : (w4.alloc (.cells #[.slice z.A z.na z.ca, .int .i64 z.a.st, .slice z.M z.nm z.cm, .slice z.E z.ne z.ce] 29)).cell? ⟨w3.heap.size, 3, none⟩ = some (.slice y.E y.ne y.ce) := v4.blk.cell (j := 3) rfl
  have hf4 : FewL [y.a, x.a] := FewL.of_prod (fun a ha => by rw [HYA.out, HXA.out] at ha; exact two_wf one_wf HS.out.wf a ha) (fun a ha => by
    rw [HYA.out, HXA.out] at ha
    rcases List.mem_cons.1 ha with rfl | ha
    · show (1 : Int) ≤ 100; omega
    · obtain rfl := List.mem_singleton.1 ha; have := HS.out.st; omega) (by simp) (by
    rw [HYA.out, HXA.out]
    have := HS.out.st
    show (1 : Int).toNat * ((ptA p).st.toNat * 1) ≤ 4096
    rw [show (1 : Int).toNat = 1 from rfl]
    omega)
  obtain ⟨r2, T2, hrT⟩ := hf4.syn
  have HC := Lib.hid (compose_pair y x (w4.heap.size + 1) r2 T2 (w4.alloc (.cells #[.slice z.A z.na z.ca, .int .i64 z.a.st, .slice z.M z.nm z.cm, .slice z.E z.ne z.ce] 29)) (by simp) v4.ok v3.ok hf4 hrT)
  have HR2 := Lib.hid (show r2 = ptA p from syn_one HS.out (by rw [HYA.out, HXA.out] at hrT; exact hrT))
  have HZA := Lib.hid (hza.trans HR1.out)
  have V3 := Lib.hid v3; clear v3
  have V6 := Lib.hid v6; clear v6
  clear hb4 hb4a hz hrT HB3 hf4 v4 V4 hza HR1
  go_wp2_with fail
  clear p0 p1 p2 p3 q0 q1 q2 q3
  refine HC.out.mono ?_
  rintro e w5 ⟨u, rfl, hua, hu, hb5⟩
  have hb5a := hb5.trans ((box_below w5 (.cells #[.slice u.A u.na u.ca, .int .i64 u.a.st, .slice u.M u.nm u.cm, .slice u.E u.ne u.ce] 29)).mono hb5.size)
  have v3 := V3.out.below hb5a
  have v6 := V6.out.below hb5a
  have v8 := VarA.new hu
  have HB5 := Lib.hid (HB4.out.trans (hb5a.mono HB4.out.size))
  have p0 : (w5.alloc (.cells #[.slice u.A u.na u.ca, .int .i64 u.a.st, .slice u.M u.nm u.cm, .slice u.E u.ne u.ce] 29)).cell? ⟨w2.heap.size, 0, none⟩ = some (.slice x.A x.na x.ca) := v3.blk.cell (j := 0) rfl
  have p1 : (w5.alloc (.cells #[.slice u.A u.na u.ca, .int .i64 u.a.st, .slice u.M u.nm u.cm, .slice u.E u.ne u.ce] 29)).cell? ⟨w2.heap.size, 1, none⟩ = some (.int .i64 x.a.st) := v3.blk.cell (j := 1) rfl
  have p2 : (w5.alloc (.cells #[.slice u.A u.na u.ca, .int .i64 u.a.st, .slice u.M u.nm u.cm, .slice u.E u.ne u.ce] 29)).cell? ⟨w2.heap.size, 2, none⟩ = some (.slice x.M x.nm x.cm) := v3.blk.cell (j := 2) rfl
  have p3 : (w5.alloc (.cells #[.slice u.A u.na u.ca, .int .i64 u.a.st, .slice u.M u.nm u.cm, .slice u.E u.ne u.ce] 29)).cell? ⟨w2.heap.size, 3, none⟩ = some (.slice x.E x.ne x.ce) := v3.blk.cell (j := 3) rfl
  have hbi := box_below (w5.alloc (.cells #[.slice u.A u.na u.ca, .int .i64 u.a.st, .slice u.M u.nm u.cm, .slice u.E u.ne u.ce] 29)) (.cells #[.int .i64 7] 3)
  have hzb : Blk ((w5.alloc (.cells #[.slice u.A u.na u.ca, .int .i64 u.a.st, .slice u.M u.nm u.cm, .slice u.E u.ne u.ce] 29)).alloc (.cells #[.int .i64 7] 3)) (w5.heap.size + 1) 3 (iv [7]) := Blk.at_ _ _ _ (by simp)
  have hzok : (AV.mk (some ⟨w5.heap.size + 1, 0, none⟩) 1 1 none 0 0 none 0 0 zeroA).ok ((w5.alloc (.cells #[.slice u.A u.na u.ca, .int .i64 u.a.st, .slice u.M u.nm u.cm, .slice u.E u.ne u.ce] 29)).alloc (.cells #[.int .i64 7] 3)) ((w5.alloc (.cells #[.slice u.A u.na u.ca, .int .i64 u.a.st, .slice u.M u.nm u.cm, .slice u.E u.ne u.ce] 29)).alloc (.cells #[.int .i64 7] 3)).heap.size := ⟨rfl, Nat.le_refl 1, (by omega : (1 : Nat) ≤ 9223372036854775807), Blk.rdi hzb, rfl, Nat.le_refl 0, (by omega : (0 : Nat) ≤ 9223372036854775807), RdI.nil, rfl, Nat.le_refl 0, (by omega : (0 : Nat) ≤ 9223372036854775807), RdX.nil⟩
  have hf5 : FewL [x.a, zeroA] := FewL.of_prod (fun a ha => by rw [HXA.out] at ha; exact two_wf HS.out.wf zeroA_wf a ha) (fun a ha => by
    rw [HXA.out] at ha
    rcases List.mem_cons.1 ha with rfl | ha
    · have := HS.out.st; omega
    · obtain rfl := List.mem_singleton.1 ha; show (0 : Int) ≤ 100; omega) (by simp) (by
    rw [HXA.out]
    show (ptA p).st.toNat * ((0 : Int).toNat * 1) ≤ 4096
    simp)
  obtain ⟨r3, T3, hrT⟩ := hf5.syn
  have HC := Lib.hid (compose_pair x (AV.mk (some ⟨w5.heap.size + 1, 0, none⟩) 1 1 none 0 0 none 0 0 zeroA) (w5.heap.size + 1 + 1) r3 T3 ((w5.alloc (.cells #[.slice u.A u.na u.ca, .int .i64 u.a.st, .slice u.M u.nm u.cm, .slice u.E u.ne u.ce] 29)).alloc (.cells #[.int .i64 7] 3)) (by simp) (v3.below hbi).ok hzok hf5 hrT)
  have HR3 := Lib.hid (show r3.st = 0 ∧ r3.al.length = (ptA p).al.length + 1 from syn_zero HS.out (by rw [HXA.out] at hrT; exact hrT))
  have HBI := Lib.hid hbi
  have HUA := Lib.hid (hua.trans HR2.out)
  have HV3 := Lib.hid (v3.below hbi)
  have HV6 := Lib.hid (v6.below hbi)
  have HV8 := Lib.hid (v8.below hbi)
  have HB6 := Lib.hid (HB5.out.trans (hbi.mono HB5.out.size))
  clear hb5 hb5a hu hrT HB4 hf5 v3 v6 v8 V3 V6 hua HR2 hzok hzb hbi HB5
  go_wp2_with fail
  clear p0 p1 p2 p3
  refine HC.out.mono ?_
  rintro e w6 ⟨d, rfl, hda, hd, hb6⟩
  have hb6a := hb6.trans ((box_below w6 (.cells #[.slice d.A d.na d.ca, .int .i64 d.a.st, .slice d.M d.nm d.cm, .slice d.E d.ne d.ce] 29)).mono hb6.size)
  have v3 := HV3.out.below hb6a
  have v6 := HV6.out.below hb6a
  have v8 := HV8.out.below hb6a
  have V10 := Lib.hid (VarA.new hd)
  have HB7 := Lib.hid (HB6.out.trans (hb6a.mono HB6.out.size))
  have p0 : (w6.alloc (.cells #[.slice d.A d.na d.ca, .int .i64 d.a.st, .slice d.M d.nm d.cm, .slice d.E d.ne d.ce] 29)).cell? ⟨w2.heap.size, 0, none⟩ = some (.slice x.A x.na x.ca) := v3.blk.cell (j := 0) rfl
  have p1 : (w6.alloc (.cells #[.slice d.A d.na d.ca, .int .i64 d.a.st, .slice d.M d.nm d.cm, .slice d.E d.ne d.ce] 29)).cell? ⟨w2.heap.size, 1, none⟩ = some (.int .i64 x.a.st) := v3.blk.cell (j := 1) rfl
  have p2 : (w6.alloc (.cells #[.slice d.A d.na d.ca, .int .i64 d.a.st, .slice d.M d.nm d.cm, .slice d.E d.ne d.ce] 29)).cell? ⟨w2.heap.size, 2, none⟩ = some (.slice x.M x.nm x.cm) := v3.blk.cell (j := 2) rfl
  have p3 : (w6.alloc (.cells #[.slice d.A d.na d.ca, .int .i64 d.a.st, .slice d.M d.nm d.cm, .slice d.E d.ne d.ce] 29)).cell? ⟨w2.heap.size, 3, none⟩ = some (.slice x.E x.ne x.ce) := v3.blk.cell (j := 3) rfl
  have q0 : (w6.alloc (.cells #[.slice d.A d.na d.ca, .int .i64 d.a.st, .slice d.M d.nm d.cm, .slice d.E d.ne d.ce] 29)).cell? ⟨w4.heap.size, 0, none⟩ = some (.slice z.A z.na z.ca) := v6.blk.cell (j := 0) rfl
  have q1 : (w6.alloc (.cells #[.slice d.A d.na d.ca, .int .i64 d.a.st, .slice d.M d.nm d.cm, .slice d.E d.ne d.ce] 29)).cell? ⟨w4.heap.size, 1, none⟩ = some (.int .i64 z.a.st) := v6.blk.cell (j := 1) rfl
  have q2 : (w6.alloc (.cells #[.slice d.A d.na d.ca, .int .i64 d.a.st, .slice d.M d.nm d.cm, .slice d.E d.ne d.ce] 29)).cell? ⟨w4.heap.size, 2, none⟩ = some (.slice z.M z.nm z.cm) := v6.blk.cell (j := 2) rfl
  have q3 : (w6.alloc (.cells #[.slice d.A d.na d.ca, .int .i64 d.a.st, .slice d.M d.nm d.cm, .slice d.E d.ne d.ce] 29)).cell? ⟨w4.heap.size, 3, none⟩ = some (.slice z.E z.ne z.ce) := v6.blk.cell (j := 3) rfl
  have HE := Lib.hid (automaton_Equal x.A x.M x.E z.A z.M z.E x.na x.ca x.nm x.cm x.ne x.ce z.na z.ca z.nm z.cm z.ne z.ce x.a z.a true (w6.alloc (.cells #[.slice d.A d.na d.ca, .int .i64 d.a.st, .slice d.M d.nm d.cm, .slice d.E d.ne d.ce] 29)) (eqA_of (HXA.out.trans HZA.out.symm)) v3.ok v6.ok)
  have HD0 := Lib.hid (show d.a.st = 0 by rw [hda]; exact HR3.out.1)
  have HD1 := Lib.hid (show d.a.al.length = x.a.al.length + 1 by rw [hda, HXA.out]; exact HR3.out.2)
  have V3 := Lib.hid v3; clear v3
  have V8 := Lib.hid v8; clear v8
  clear hb6 hb6a hd v6 HV3 HV6 HV8 HB6 HR3 hda HBI
  go_wp2_with fail
  clear p0 p1 p2 p3 q0 q1 q2 q3
  refine HE.out.mono ?_
  rintro e w7 ⟨rfl, hb7⟩
  have v3 := V3.out.below hb7
  have v8 := V8.out.below hb7
  have v10 := V10.out.below hb7
  have HB8 := Lib.hid (HB7.out.trans (hb7.mono HB7.out.size))
  have p0 : w7.cell? ⟨w2.heap.size, 0, none⟩ = some (.slice x.A x.na x.ca) := v3.blk.cell (j := 0) rfl
  have p1 : w7.cell? ⟨w2.heap.size, 1, none⟩ = some (.int .i64 x.a.st) := v3.blk.cell (j := 1) rfl
  have p2 : w7.cell? ⟨w2.heap.size, 2, none⟩ = some (.slice x.M x.nm x.cm) := v3.blk.cell (j := 2) rfl
  have p3 : w7.cell? ⟨w2.heap.size, 3, none⟩ = some (.slice x.E x.ne x.ce) := v3.blk.cell (j := 3) rfl
  have q0 : w7.cell? ⟨w5.heap.size, 0, none⟩ = some (.slice u.A u.na u.ca) := v8.blk.cell (j := 0) rfl
  have q1 : w7.cell? ⟨w5.heap.size, 1, none⟩ = some (.int .i64 u.a.st) := v8.blk.cell (j := 1) rfl
  have q2 : w7.cell? ⟨w5.heap.size, 2, none⟩ = some (.slice u.M u.nm u.cm) := v8.blk.cell (j := 2) rfl
  have q3 : w7.cell? ⟨w5.heap.size, 3, none⟩ = some (.slice u.E u.ne u.ce) := v8.blk.cell (j := 3) rfl
  have HE := Lib.hid (automaton_Equal x.A x.M x.E u.A u.M u.E x.na x.ca x.nm x.cm x.ne x.ce u.na u.ca u.nm u.cm u.ne u.ce x.a u.a true w7 (eqA_of (HXA.out.trans HUA.out.symm)) v3.ok v8.ok)
  have V3 := Lib.hid v3; clear v3
  have V10 := Lib.hid v10; clear v10
  clear hb7 v8 V8 HB7
  go_wp2_with fail
  clear p0 p1 p2 p3 q0 q1 q2 q3
  refine HE.out.mono ?_
  rintro e w8 ⟨rfl, hb8⟩
  have v3 := V3.out.below hb8
  have v10 := V10.out.below hb8
  have HB9 := Lib.hid (HB8.out.trans (hb8.mono HB8.out.size))
  have p0 : w8.cell? ⟨w2.heap.size, 0, none⟩ = some (.slice x.A x.na x.ca) := v3.blk.cell (j := 0) rfl
  have q0 : w8.cell? ⟨w6.heap.size, 0, none⟩ = some (.slice d.A d.na d.ca) := v10.blk.cell (j := 0) rfl
  have q1 : w8.cell? ⟨w6.heap.size, 1, none⟩ = some (.int .i64 0) := by rw [v10.blk.cell (j := 1) rfl, HD0.out]
  have hna : d.na = x.na + 1 := by have := HD1.out; have h1 := AutR.la v3.ok; have h2 := AutR.la v10.ok; omega
  have hnb : x.na ≤ 32 := by have h1 := AutR.la v3.ok; rw [← h1, HXA.out]; exact HS.out.wf.al_le
  have hnc : (d.na : Int) = (x.na : Int) + 1 := by omega
  clear v3 v10
  go_wp2
  go_ret
  exact ⟨rfl, HB9.out⟩
end Go.Proofs.YtbdliebjalghmaaDoor
