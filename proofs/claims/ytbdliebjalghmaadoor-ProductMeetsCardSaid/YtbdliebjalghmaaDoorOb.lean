/- The law ProductMeets: product.Meet; its walk; one part that came in. -/
import Derived.Test.YtbdliebjalghmaaDoorOa
import Derived.Test.YtbdliebjalghmaaDoorRg
import Derived.Test.YtbdliebjalghmaaDoorGk
import Derived.Test.YtbdliebjalghmaaDoorGf
import Derived.Test.YtbdliebjalghmaaDoorMn
import Derived.Test.YtbdliebjalghmaaDoorRy
import Derived.Great.BuildSlice
namespace Go.Proofs.YtbdliebjalghmaaDoor
section
open Go.ChangeShapes Go.WideShapes Go.ChangeAt Go.RowKit Go.Deep Go
section
variable {H : Type} {enc : TypeId × Value → H} {W : World} {spare : Nat → Bool} {held : Bool}
set_option maxRecDepth 100000 in
theorem partArg_of {b0 : Nat} {v : Value} {d : DataW H} {p : List MemPlace} (hv : Value.okWide Tryd.prog W .any b0 53 v) (h : DataW.Trod enc Tryd.prog W 0 spare held 53 v d p) : ∃ q : Pt, q.ok ∧ v = .agg (pcells q).toArray := by
  obtain ⟨cs, rfl, hsz⟩ := okWide_struct Tryd.underlying53 hv
  obtain ⟨fuel, hf⟩ := h
  obtain ⟨q, hq, hc⟩ := part_of hf
  refine ⟨q, hq, ?_⟩
  have hc' : cs.toList = pcells q := hc
  rw [← hc', Array.toArray_toList]
end
end
open Go.RowKit Go Go.Maps

set_option maxRecDepth 100000 in
set_option maxHeartbeats 3200000 in
theorem meet_no (A M E A' M' E' : Option Addr) (na ca nm cm ne ce na' ca' nm' cm' ne' ce' : Nat) (a b : Aut)  (w : World) (hx : AutR w w.heap.size A na ca M nm cm E ne ce a) (hy : AutR w w.heap.size A' na' ca' M' nm' cm' E' ne' ce' b)
    (hf : FewL [a, b]) (hq : eqB a.al b.al = false) :
    Calls Tryd.prog 22 #[.agg #[.slice A na ca, .int .i64 a.st, .slice M nm cm, .slice E ne ce], .agg #[.slice A' na' ca', .int .i64 b.st, .slice M' nm' cm', .slice E' ne' ce']] w (RetAut none 13 w) := by
  obtain ⟨sa, hsa⟩ : ∃ s, a.st = s := ⟨_, rfl⟩
  obtain ⟨sb, hsb⟩ : ∃ s, b.st = s := ⟨_, rfl⟩
  rw [hsa, hsb]
  have hB4 : Below w.heap.size w ((((w.alloc (.cells #[.slice A na ca, .int .i64 sa, .slice M nm cm, .slice E ne ce] 29)).alloc (.cells #[.slice A' na' ca', .int .i64 sb, .slice M' nm' cm', .slice E' ne' ce'] 29)).alloc (.cells #[.slice none 0 0, .int .i64 0, .slice none 0 0, .slice none 0 0] 29)).alloc (.cells #[.slice A na ca, .int .i64 sa, .slice M nm cm, .slice E ne ce, .slice A' na' ca', .int .i64 sb, .slice M' nm' cm', .slice E' ne' ce'] 29)) := ((((Below.refl _ w).alloc (Nat.le_refl _) _).alloc (by simp) _).alloc (by simp; omega) _).alloc (by simp; omega) _
  have kX : Blk ((((w.alloc (.cells #[.slice A na ca, .int .i64 sa, .slice M nm cm, .slice E ne ce] 29)).alloc (.cells #[.slice A' na' ca', .int .i64 sb, .slice M' nm' cm', .slice E' ne' ce'] 29)).alloc (.cells #[.slice none 0 0, .int .i64 0, .slice none 0 0, .slice none 0 0] 29)).alloc (.cells #[.slice A na ca, .int .i64 sa, .slice M nm cm, .slice E ne ce, .slice A' na' ca', .int .i64 sb, .slice M' nm' cm', .slice E' ne' ce'] 29)) w.heap.size 29 [.slice A na ca, .int .i64 sa, .slice M nm cm, .slice E ne ce] := (((Blk.new w 29 [.slice A na ca, .int .i64 sa, .slice M nm cm, .slice E ne ce]).al _).al _).al _
  have kY : Blk ((((w.alloc (.cells #[.slice A na ca, .int .i64 sa, .slice M nm cm, .slice E ne ce] 29)).alloc (.cells #[.slice A' na' ca', .int .i64 sb, .slice M' nm' cm', .slice E' ne' ce'] 29)).alloc (.cells #[.slice none 0 0, .int .i64 0, .slice none 0 0, .slice none 0 0] 29)).alloc (.cells #[.slice A na ca, .int .i64 sa, .slice M nm cm, .slice E ne ce, .slice A' na' ca', .int .i64 sb, .slice M' nm' cm', .slice E' ne' ce'] 29)) (w.heap.size + 1) 29 [.slice A' na' ca', .int .i64 sb, .slice M' nm' cm', .slice E' ne' ce'] := ((Blk.at_ _ 29 [.slice A' na' ca', .int .i64 sb, .slice M' nm' cm', .slice E' ne' ce'] (by simp)).al _).al _
  have kR : Blk ((((w.alloc (.cells #[.slice A na ca, .int .i64 sa, .slice M nm cm, .slice E ne ce] 29)).alloc (.cells #[.slice A' na' ca', .int .i64 sb, .slice M' nm' cm', .slice E' ne' ce'] 29)).alloc (.cells #[.slice none 0 0, .int .i64 0, .slice none 0 0, .slice none 0 0] 29)).alloc (.cells #[.slice A na ca, .int .i64 sa, .slice M nm cm, .slice E ne ce, .slice A' na' ca', .int .i64 sb, .slice M' nm' cm', .slice E' ne' ce'] 29)) (w.heap.size + 1 + 1) 29 [.slice none 0 0, .int .i64 0, .slice none 0 0, .slice none 0 0] := (Blk.at_ _ 29 [.slice none 0 0, .int .i64 0, .slice none 0 0, .slice none 0 0] (by simp)).al _
  have kL : Blk ((((w.alloc (.cells #[.slice A na ca, .int .i64 sa, .slice M nm cm, .slice E ne ce] 29)).alloc (.cells #[.slice A' na' ca', .int .i64 sb, .slice M' nm' cm', .slice E' ne' ce'] 29)).alloc (.cells #[.slice none 0 0, .int .i64 0, .slice none 0 0, .slice none 0 0] 29)).alloc (.cells #[.slice A na ca, .int .i64 sa, .slice M nm cm, .slice E ne ce, .slice A' na' ca', .int .i64 sb, .slice M' nm' cm', .slice E' ne' ce'] 29)) (w.heap.size + 1 + 1 + 1) 29 [.slice A na ca, .int .i64 sa, .slice M nm cm, .slice E ne ce, .slice A' na' ca', .int .i64 sb, .slice M' nm' cm', .slice E' ne' ce'] := Blk.at_ _ 29 [.slice A na ca, .int .i64 sa, .slice M nm cm, .slice E ne ce, .slice A' na' ca', .int .i64 sb, .slice M' nm' cm', .slice E' ne' ce'] (by simp)
  have hRL := two_rdl (x := ⟨A, na, ca, M, nm, cm, E, ne, ce, a⟩) (y := ⟨A', na', ca', M', nm', cm', E', ne', ce', b⟩) (by unfold avc; rw [hsa, hsb]; exact kL) ((hx.below hB4).more hB4.size) ((hy.below hB4).more hB4.size)
  obtain ⟨W, hW⟩ : ∃ W, W = ((((w.alloc (.cells #[.slice A na ca, .int .i64 sa, .slice M nm cm, .slice E ne ce] 29)).alloc (.cells #[.slice A' na' ca', .int .i64 sb, .slice M' nm' cm', .slice E' ne' ce'] 29)).alloc (.cells #[.slice none 0 0, .int .i64 0, .slice none 0 0, .slice none 0 0] 29)).alloc (.cells #[.slice A na ca, .int .i64 sa, .slice M nm cm, .slice E ne ce, .slice A' na' ca', .int .i64 sb, .slice M' nm' cm', .slice E' ne' ce'] 29)) := ⟨_, rfl⟩
  rw [← hW] at hB4 kX kY kR hRL
  have HC := Lib.hid (product_Check _ 2 2 _ W rfl hRL (Nat.le_refl _) (by omega))
  rw [show chkL (List.map AV.a [⟨A, na, ca, M, nm, cm, E, ne, ce, a⟩, ⟨A', na', ca', M', nm', cm', E', ne', ce', b⟩]) = 0 from hf.chk] at HC
  clear kL hRL
  have HX := Lib.hid hx; clear hx
  have HY := Lib.hid hy; clear hy
  have HF := Lib.hid hf; clear hf
  have HQ := Lib.hid hq; clear hq
  have HW := Lib.hid hW; clear hW
  have KX := Lib.hid kX; clear kX
  have KY := Lib.hid kY; clear kY
  have KR := Lib.hid kR; clear kR
  have HB4 := Lib.hid hB4; clear hB4
  have HSA := Lib.hid hsa; clear hsa
  have HSB := Lib.hid hsb; clear hsb
  go_enter Tryd.func22, Tryd.ntmps22
  go_wp2_with fail
  rw [← HW.out]
  refine HC.out.mono ?_
  rintro e w5 ⟨rfl, hb5⟩
  have hB5 := HB4.out.trans (hb5.mono HB4.out.size)
  have hX5 := (HX.out.below hB5).more hB5.size
  have hY5 := (HY.out.below hB5).more hB5.size
  have HE := Lib.hid (slices_Equal_n A A' ca ca' na na' a.al b.al false w5 hX5.la hY5.la HQ.out hX5.ra hX5.ac hX5.cA hY5.ra)
  have kX5 := KX.out.below hb5 KX.out.lt
  have kY5 := KY.out.below hb5 KY.out.lt
  have kR5 := KR.out.below hb5 KR.out.lt
  have x0 := kX5.cell (j := 0) rfl
  have y0 := kY5.cell (j := 0) rfl
  have HB5 := Lib.hid hB5; clear hB5
  have KX5 := Lib.hid kX5; clear kX5
  have KY5 := Lib.hid kY5; clear kY5
  have KR5 := Lib.hid kR5; clear kR5
  clear HC KX KY KR HB4 hX5 hY5 hb5 HX HY
  go_wp2_with fail
  refine HE.out.mono ?_
  rintro e w9 ⟨rfl, m, hm⟩
  have hb6 : Below w5.heap.size w5 w9 := by rw [hm]; exact below_drewN (Below.refl _ _) m
  have hB6 := HB5.out.trans (hb6.mono HB5.out.size)
  have kR6 := KR5.out.below hb6 KR5.out.lt
  clear x0 y0 HE hm
  have kR9 := kR6
  have hB9 := hB6
  clear kR6 hB6 hb6 HB5
  have f0 := kR9.free 0
  have f1 := kR9.free 1
  have f2 := kR9.free 2
  have f3 := kR9.free 3
  have e0 := kR9.cell (j := 0) rfl
  have e1 := kR9.cell (j := 1) rfl
  have e2 := kR9.cell (j := 2) rfl
  have e3 := kR9.cell (j := 3) rfl
  have l9 : w.heap.size + 1 + 1 < w9.heap.size := kR9.lt
  clear KX5 KY5 KR5
  go_wp2
  have hb4 := (((kR9.set (j := 0) (by simp) (.slice none 0 0)).set (j := 1) (by simp) (.int .i64 0)).set (j := 2) (by simp) (.slice none 0 0)).set (j := 3) (by simp) (.slice none 0 0)
  have z0 := hb4.cell (j := 0) rfl
  have z1 := hb4.cell (j := 1) rfl
  have z2 := hb4.cell (j := 2) rfl
  have z3 := hb4.cell (j := 3) rfl
  have hq : ∀ k : Nat, w.heap.size ≤ (⟨w.heap.size + 1 + 1, k, none⟩ : Addr).block := fun k => by show w.heap.size ≤ w.heap.size + 1 + 1; omega
  have F := (((hB9.setCell (p := ⟨w.heap.size + 1 + 1, 0, none⟩) (hq 0) (.slice none 0 0)).setCell (p := ⟨w.heap.size + 1 + 1, 1, none⟩) (hq 1) (.int .i64 0)).setCell (p := ⟨w.heap.size + 1 + 1, 2, none⟩) (hq 2) (.slice none 0 0)).setCell (p := ⟨w.heap.size + 1 + 1, 3, none⟩) (hq 3) (.slice none 0 0)
  refine bodyPost_ret (v := .tuple #[.agg #[.slice none 0 0, .int .i64 0, .slice none 0 0, .slice none 0 0], .int .i64 13]) (by simp [results, Tryd.results22, go_sem, z0, z1, z2, z3]) rfl ?_
  exact ⟨F, rfl⟩

set_option maxRecDepth 100000 in
set_option maxHeartbeats 3200000 in
theorem meet_yes (A M E A' M' E' : Option Addr) (na ca nm cm ne ce na' ca' nm' cm' ne' ce' : Nat) (a b : Aut) (r : Aut) (T : List (List Int)) (w : World) (hx : AutR w w.heap.size A na ca M nm cm E ne ce a) (hy : AutR w w.heap.size A' na' ca' M' nm' cm' E' ne' ce' b)
    (hf : FewL [a, b]) (hq : eqB a.al b.al = true) (hr : synR [a, b] = some (r, T)) :
    Calls Tryd.prog 22 #[.agg #[.slice A na ca, .int .i64 a.st, .slice M nm cm, .slice E ne ce], .agg #[.slice A' na' ca', .int .i64 b.st, .slice M' nm' cm', .slice E' ne' ce']] w (RetAutF r w) := by
  have HR := Lib.hid hr; clear hr
  have HX0 := Lib.hid hx; clear hx
  have HY0 := Lib.hid hy; clear hy
  have hx := HX0.out
  have hy := HY0.out
  obtain ⟨sa, hsa⟩ : ∃ s, a.st = s := ⟨_, rfl⟩
  obtain ⟨sb, hsb⟩ : ∃ s, b.st = s := ⟨_, rfl⟩
  rw [hsa, hsb]
  have hB4 : Below w.heap.size w ((((w.alloc (.cells #[.slice A na ca, .int .i64 sa, .slice M nm cm, .slice E ne ce] 29)).alloc (.cells #[.slice A' na' ca', .int .i64 sb, .slice M' nm' cm', .slice E' ne' ce'] 29)).alloc (.cells #[.slice none 0 0, .int .i64 0, .slice none 0 0, .slice none 0 0] 29)).alloc (.cells #[.slice A na ca, .int .i64 sa, .slice M nm cm, .slice E ne ce, .slice A' na' ca', .int .i64 sb, .slice M' nm' cm', .slice E' ne' ce'] 29)) := ((((Below.refl _ w).alloc (Nat.le_refl _) _).alloc (by simp) _).alloc (by simp; omega) _).alloc (by simp; omega) _
  have kX : Blk ((((w.alloc (.cells #[.slice A na ca, .int .i64 sa, .slice M nm cm, .slice E ne ce] 29)).alloc (.cells #[.slice A' na' ca', .int .i64 sb, .slice M' nm' cm', .slice E' ne' ce'] 29)).alloc (.cells #[.slice none 0 0, .int .i64 0, .slice none 0 0, .slice none 0 0] 29)).alloc (.cells #[.slice A na ca, .int .i64 sa, .slice M nm cm, .slice E ne ce, .slice A' na' ca', .int .i64 sb, .slice M' nm' cm', .slice E' ne' ce'] 29)) w.heap.size 29 [.slice A na ca, .int .i64 sa, .slice M nm cm, .slice E ne ce] := (((Blk.new w 29 [.slice A na ca, .int .i64 sa, .slice M nm cm, .slice E ne ce]).al _).al _).al _
  have kY : Blk ((((w.alloc (.cells #[.slice A na ca, .int .i64 sa, .slice M nm cm, .slice E ne ce] 29)).alloc (.cells #[.slice A' na' ca', .int .i64 sb, .slice M' nm' cm', .slice E' ne' ce'] 29)).alloc (.cells #[.slice none 0 0, .int .i64 0, .slice none 0 0, .slice none 0 0] 29)).alloc (.cells #[.slice A na ca, .int .i64 sa, .slice M nm cm, .slice E ne ce, .slice A' na' ca', .int .i64 sb, .slice M' nm' cm', .slice E' ne' ce'] 29)) (w.heap.size + 1) 29 [.slice A' na' ca', .int .i64 sb, .slice M' nm' cm', .slice E' ne' ce'] := ((Blk.at_ _ 29 [.slice A' na' ca', .int .i64 sb, .slice M' nm' cm', .slice E' ne' ce'] (by simp)).al _).al _
  have kR : Blk ((((w.alloc (.cells #[.slice A na ca, .int .i64 sa, .slice M nm cm, .slice E ne ce] 29)).alloc (.cells #[.slice A' na' ca', .int .i64 sb, .slice M' nm' cm', .slice E' ne' ce'] 29)).alloc (.cells #[.slice none 0 0, .int .i64 0, .slice none 0 0, .slice none 0 0] 29)).alloc (.cells #[.slice A na ca, .int .i64 sa, .slice M nm cm, .slice E ne ce, .slice A' na' ca', .int .i64 sb, .slice M' nm' cm', .slice E' ne' ce'] 29)) (w.heap.size + 1 + 1) 29 [.slice none 0 0, .int .i64 0, .slice none 0 0, .slice none 0 0] := (Blk.at_ _ 29 [.slice none 0 0, .int .i64 0, .slice none 0 0, .slice none 0 0] (by simp)).al _
  have kL : Blk ((((w.alloc (.cells #[.slice A na ca, .int .i64 sa, .slice M nm cm, .slice E ne ce] 29)).alloc (.cells #[.slice A' na' ca', .int .i64 sb, .slice M' nm' cm', .slice E' ne' ce'] 29)).alloc (.cells #[.slice none 0 0, .int .i64 0, .slice none 0 0, .slice none 0 0] 29)).alloc (.cells #[.slice A na ca, .int .i64 sa, .slice M nm cm, .slice E ne ce, .slice A' na' ca', .int .i64 sb, .slice M' nm' cm', .slice E' ne' ce'] 29)) (w.heap.size + 1 + 1 + 1) 29 [.slice A na ca, .int .i64 sa, .slice M nm cm, .slice E ne ce, .slice A' na' ca', .int .i64 sb, .slice M' nm' cm', .slice E' ne' ce'] := Blk.at_ _ 29 [.slice A na ca, .int .i64 sa, .slice M nm cm, .slice E ne ce, .slice A' na' ca', .int .i64 sb, .slice M' nm' cm', .slice E' ne' ce'] (by simp)
  have hRL := two_rdl (x := ⟨A, na, ca, M, nm, cm, E, ne, ce, a⟩) (y := ⟨A', na', ca', M', nm', cm', E', ne', ce', b⟩) (by unfold avc; rw [hsa, hsb]; exact kL) ((hx.below hB4).more hB4.size) ((hy.below hB4).more hB4.size)
  obtain ⟨W, hW⟩ : ∃ W, W = ((((w.alloc (.cells #[.slice A na ca, .int .i64 sa, .slice M nm cm, .slice E ne ce] 29)).alloc (.cells #[.slice A' na' ca', .int .i64 sb, .slice M' nm' cm', .slice E' ne' ce'] 29)).alloc (.cells #[.slice none 0 0, .int .i64 0, .slice none 0 0, .slice none 0 0] 29)).alloc (.cells #[.slice A na ca, .int .i64 sa, .slice M nm cm, .slice E ne ce, .slice A' na' ca', .int .i64 sb, .slice M' nm' cm', .slice E' ne' ce'] 29)) := ⟨_, rfl⟩
  rw [← hW] at hB4 kX kY kR hRL
  have HC := Lib.hid (product_Check _ 2 2 _ W rfl hRL (Nat.le_refl _) (by omega))
  rw [show chkL (List.map AV.a [⟨A, na, ca, M, nm, cm, E, ne, ce, a⟩, ⟨A', na', ca', M', nm', cm', E', ne', ce', b⟩]) = 0 from hf.chk] at HC
  clear kL hRL
  have HX := Lib.hid hx; clear hx
  have HY := Lib.hid hy; clear hy
  have HF := Lib.hid hf; clear hf
  have HQ := Lib.hid hq; clear hq
  have HW := Lib.hid hW; clear hW
  have KX := Lib.hid kX; clear kX
  have KY := Lib.hid kY; clear kY
  have KR := Lib.hid kR; clear kR
  have HB4 := Lib.hid hB4; clear hB4
  have HSA := Lib.hid hsa; clear hsa
  have HSB := Lib.hid hsb; clear hsb
  go_enter Tryd.func22, Tryd.ntmps22
  go_wp2_with fail
  rw [← HW.out]
  refine HC.out.mono ?_
  rintro e w5 ⟨rfl, hb5⟩
  have hB5 := HB4.out.trans (hb5.mono HB4.out.size)
  have hX5 := (HX.out.below hB5).more hB5.size
  have hY5 := (HY.out.below hB5).more hB5.size
  have HE := Lib.hid (slices_Equal_n A A' ca ca' na na' a.al b.al true w5 hX5.la hY5.la HQ.out hX5.ra hX5.ac hX5.cA hY5.ra)
  have kX5 := KX.out.below hb5 KX.out.lt
  have kY5 := KY.out.below hb5 KY.out.lt
  have kR5 := KR.out.below hb5 KR.out.lt
  have x0 := kX5.cell (j := 0) rfl
  have y0 := kY5.cell (j := 0) rfl
  have HB5 := Lib.hid hB5; clear hB5
  have KX5 := Lib.hid kX5; clear kX5
  have KY5 := Lib.hid kY5; clear kY5
  have KR5 := Lib.hid kR5; clear kR5
  clear HC KX KY KR HB4 hX5 hY5 hb5 HX HY
  go_wp2_with fail
  refine HE.out.mono ?_
  rintro e w6 ⟨rfl, m, hm⟩
  have hb6 : Below w5.heap.size w5 w6 := by rw [hm]; exact below_drewN (Below.refl _ _) m
  have hB6 := HB5.out.trans (hb6.mono HB5.out.size)
  have kR6 := KR5.out.below hb6 KR5.out.lt
  clear x0 y0 HE hm
  have kX6 := (KX5.out.below hb6 KX5.out.lt)
  have kY6 := (KY5.out.below hb6 KY5.out.lt)
  have x0 := kX6.cell (j := 0) rfl
  have x1 := kX6.cell (j := 1) rfl
  have x2 := kX6.cell (j := 2) rfl
  have x3 := kX6.cell (j := 3) rfl
  have y0 := kY6.cell (j := 0) rfl
  have y1 := kY6.cell (j := 1) rfl
  have y2 := kY6.cell (j := 2) rfl
  have y3 := kY6.cell (j := 3) rfl
  have hb7 := box_below w6 (.cells #[.slice A na ca, .int .i64 sa, .slice M nm cm, .slice E ne ce, .slice A' na' ca', .int .i64 sb, .slice M' nm' cm', .slice E' ne' ce'] 29)
  have hB7 := hB6.trans (hb7.mono hB6.size)
  have kR7 := kR6.below hb7 kR6.lt
  have kL : Blk (w6.alloc (.cells #[.slice A na ca, .int .i64 sa, .slice M nm cm, .slice E ne ce, .slice A' na' ca', .int .i64 sb, .slice M' nm' cm', .slice E' ne' ce'] 29)) w6.heap.size 29 [.slice A na ca, .int .i64 sa, .slice M nm cm, .slice E ne ce, .slice A' na' ca', .int .i64 sb, .slice M' nm' cm', .slice E' ne' ce'] := Blk.new _ _ _
  have hRL := two_rdl (x := ⟨A, na, ca, M, nm, cm, E, ne, ce, a⟩) (y := ⟨A', na', ca', M', nm', cm', E', ne', ce', b⟩) (by unfold avc; rw [HSA.out, HSB.out]; exact kL) ((HX0.out.below hB7).more hB7.size) ((HY0.out.below hB7).more hB7.size)
  have HC := Lib.hid (compose_few _ 2 2 _ r T _ rfl hRL (Nat.le_refl _) (by omega) HF.out HR.out)
  have KR7 := Lib.hid kR7; clear kR7
  have HB7 := Lib.hid hB7; clear hB7
  clear HB5 hb6 hB6 kR6 hb7 KX5 KY5 KR5 kX6 kY6 kL hRL HX0 HY0
  go_wp2_with fail
  refine HC.out.mono ?_
  rintro e w9 ⟨hb9, A2, na2, ca2, M2, nm2, cm2, E2, ne2, ce2, rfl, ha2, hfr⟩
  obtain ⟨sr, hsr⟩ : ∃ s, r.st = s := ⟨_, rfl⟩
  rw [hsr]
  have HSR := Lib.hid hsr; clear hsr
  have hB9 := HB7.out.trans (hb9.mono HB7.out.size)
  have kR9 := KR7.out.below hb9 KR7.out.lt
  have hs7 := KR7.out.lt
  have f0 := kR9.free 0
  have f1 := kR9.free 1
  have f2 := kR9.free 2
  have f3 := kR9.free 3
  have e0 := kR9.cell (j := 0) rfl
  have e1 := kR9.cell (j := 1) rfl
  have e2 := kR9.cell (j := 2) rfl
  have e3 := kR9.cell (j := 3) rfl
  have l9 : w.heap.size + 1 + 1 < w9.heap.size := kR9.lt
  have HA2 := Lib.hid ha2; clear ha2
  have HFR := Lib.hid hfr; clear hfr
  clear hb9 KR7 HB7 x0 x1 x2 x3 y0 y1 y2 y3 HC
  go_wp2
  have hb4 := (((kR9.set (j := 0) (by simp) (.slice A2 na2 ca2)).set (j := 1) (by simp) (.int .i64 sr)).set (j := 2) (by simp) (.slice M2 nm2 cm2)).set (j := 3) (by simp) (.slice E2 ne2 ce2)
  have z0 := hb4.cell (j := 0) rfl
  have z1 := hb4.cell (j := 1) rfl
  have z2 := hb4.cell (j := 2) rfl
  have z3 := hb4.cell (j := 3) rfl
  have hq : ∀ k : Nat, w.heap.size ≤ (⟨w.heap.size + 1 + 1, k, none⟩ : Addr).block := fun k => by show w.heap.size ≤ w.heap.size + 1 + 1; omega
  have F := (((hB9.setCell (p := ⟨w.heap.size + 1 + 1, 0, none⟩) (hq 0) (.slice A2 na2 ca2)).setCell (p := ⟨w.heap.size + 1 + 1, 1, none⟩) (hq 1) (.int .i64 sr)).setCell (p := ⟨w.heap.size + 1 + 1, 2, none⟩) (hq 2) (.slice M2 nm2 cm2)).setCell (p := ⟨w.heap.size + 1 + 1, 3, none⟩) (hq 3) (.slice E2 ne2 ce2)
  refine bodyPost_ret (v := .tuple #[.agg #[.slice A2 na2 ca2, .int .i64 sr, .slice M2 nm2 cm2, .slice E2 ne2 ce2], .int .i64 0]) (by simp [results, Tryd.results22, go_sem, z0, z1, z2, z3]) rfl ?_
  refine ⟨F, A2, na2, ca2, M2, nm2, cm2, E2, ne2, ce2, by rw [HSR.out], ?_, Fr3.mono HFR.out (by omega)⟩
  have hg : w9.grownBy ((((w9.setCell ⟨w.heap.size + 1 + 1, 0, none⟩ (.slice A2 na2 ca2)).setCell ⟨w.heap.size + 1 + 1, 1, none⟩ (.int .i64 sr)).setCell ⟨w.heap.size + 1 + 1, 2, none⟩ (.slice M2 nm2 cm2)).setCell ⟨w.heap.size + 1 + 1, 3, none⟩ (.slice E2 ne2 ce2)) (some (w.heap.size + 1 + 1)) := (((grown_setCell _ _ _ _).trans (grown_setCell _ _ _ _)).trans (grown_setCell _ _ _ _)).trans (grown_setCell _ _ _ _)
  exact (HA2.out.keepF (r := w.heap.size + 1 + 1) (Fr3.mono HFR.out (by omega)) fun p h1 h2 => World.cell?_of_block (hg.block _ h1 (by intro e; injection e with e; omega))).more hg.size
section
variable {md : Region.Mode} {Q : Exit → Act → World → Prop} {A B : World → Prop} {q : Nat} {P : Program} {l : List Oper}
/-- Two that may come up. -/
theorem uTwo {i j : Nat} {oi oj : Oper} {r r' : List Oper} {f : Nat} {listed : Array Bool} {a : Act} {w : World} (hi : l.drop i = oi :: r) (hj : l.drop j = oj :: r') (hr : Region.ready md l.toArray listed = [i, j])
    (h1 : ∀ K : Act → World → Prop, (∀ a' w', heldU A B q (listed.setIfInBounds i true) w' → anyU P md l.toArray Q A B q f (listed.setIfInBounds i true) a' w' → K a' w') → if Region.wanted oi (yielded l.toArray a.tmps) then oi.wp P a w K Q else K (a.put oi.dst undef) w)
    (h2 : ∀ K : Act → World → Prop, (∀ a' w', heldU A B q (listed.setIfInBounds j true) w' → anyU P md l.toArray Q A B q f (listed.setIfInBounds j true) a' w' → K a' w') → if Region.wanted oj (yielded l.toArray a.tmps) then oj.wp P a w K Q else K (a.put oj.dst undef) w) :
    anyU P md l.toArray Q A B q (f + 1) listed a w := by
  refine ⟨fun h0 => (by rw [hr] at h0; cases h0), fun k hk => ?_⟩
  rw [hr] at hk
  have hk' : k = i ∨ k = j := by simpa using hk
  rcases hk' with rfl | rfl
  · have := h1 (fun a' w' => heldU A B q (listed.setIfInBounds k true) w' ∧ anyU P md l.toArray Q A B q f (listed.setIfInBounds k true) a' w') (fun a' w' h1 h2 => ⟨h1, h2⟩)
    unfold wpOp
    simp only [at_drop hi]
    split
    · rename_i hw; rw [if_pos hw] at this; exact .inl this
    · rename_i hw; rw [if_neg hw] at this; exact this
  · have := h2 (fun a' w' => heldU A B q (listed.setIfInBounds k true) w' ∧ anyU P md l.toArray Q A B q f (listed.setIfInBounds k true) a' w') (fun a' w' h1 h2 => ⟨h1, h2⟩)
    unfold wpOp
    simp only [at_drop hj]
    split
    · rename_i hw; rw [if_pos hw] at this; exact .inl this
    · rename_i hw; rw [if_neg hw] at this; exact this
end
theorem pcells_len {p : Pt} (h : p.ok) : (pcells p).length = 28 := by simp [pcells, gcells, bv, h.2.len]
theorem part_info : (Tryd.prog.info? 53).map (fun i => (i.zero.isSome, i.size)) = some (true, 28) := by kernel_rfl
theorem part_size : (Tryd.prog.info? 53).map (·.size) = some 28 := by kernel_rfl
section
variable {ops : Array Oper} {rest : List Oper} {o : Oper} {a : Act} {w : World} {Q : Exit → Act → World → Prop}
theorem wpList_load_part (hg : o.guard = none) (x : Operand) (ho : o.op = .load 53 x) (b : Nat) (p : Pt) (hp : p.ok) (hx : a.eval x = .pointer (some ⟨b, 0, none⟩)) (hk : Blk w b 53 (pcells p))
    (h : wpList Tryd.prog ops Q rest (a.put o.dst (.agg (pcells p).toArray)) w) : wpList Tryd.prog ops Q (o :: rest) a w :=
  wpList_load_mid hg _ x ho b 0 hx (pcells p) _ (fun j v hv => by rw [Nat.zero_add]; exact hk.cell hv) Tryd.underlying53 rfl (by rw [pcells_len hp]; exact part_size) h
theorem wpList_two_parts (hg : o.guard = none) (x y : Operand) (ho : o.op = .buildSlice 22 2 #[(0, x), (1, y)]) (p q : Pt) (hp : p.ok) (hq : q.ok) (hx : a.eval x = .agg (pcells p).toArray) (hy : a.eval y = .agg (pcells q).toArray)
    (h : wpList Tryd.prog ops Q rest (a.put o.dst (.slice (some ⟨w.heap.size, 0, none⟩) 2 2)) (w.alloc (.cells (pcells p ++ pcells q).toArray 53))) : wpList Tryd.prog ops Q (o :: rest) a w := by
  have hi := part_info
  cases hie : Tryd.prog.info? 53 with
  | none => rw [hie] at hi; cases hi
  | some ie =>
    rw [hie] at hi
    simp only [Option.map_some, Option.some.injEq, Prod.mk.injEq] at hi
    obtain ⟨hz, hs⟩ := hi
    obtain ⟨z, hz⟩ := Option.isSome_iff_exists.1 hz
    refine wpList_buildSlice hg _ 53 2 #[(0, x), (1, y)] ho (pcells p ++ pcells q).toArray ie z Tryd.underlying22 hie hz (by omega) (by omega) ?_ h
    have hf := Great.fill_whole (s := 28) (by omega) [.agg (pcells p).toArray, .agg (pcells q).toArray] ((Array.range (2 * ie.size)).map (z.cells[· % z.cells.size]!)) (fun v hv => by
      rcases List.mem_cons.1 hv with rfl | hv
      · simpa [Value.cells] using pcells_len hp
      · obtain rfl := List.mem_singleton.1 hv; simpa [Value.cells] using pcells_len hq) (by simp [hs])
    rw [hs] at hf ⊢
    rw [show (#[(0, x), (1, y)].map fun (i, x) => (i, a.eval x)).toList = (([.agg (pcells p).toArray, .agg (pcells q).toArray] : List Value).zipIdx 0).map fun x => (x.2, x.1) by simp [hx, hy]]
    rw [hf]
    simp [Value.cells]
end

theorem two_rdp (w : World) {p q : Pt} (hp : p.ok) (hq : q.ok) : RdP (w.alloc (.cells (pcells p ++ pcells q).toArray 53)) (w.alloc (.cells (pcells p ++ pcells q).toArray 53)).heap.size (some ⟨w.heap.size, 0, none⟩) [p, q] := by
  have hk : Blk (w.alloc (.cells (pcells p ++ pcells q).toArray 53)) w.heap.size 53 ([p, q].flatMap pcells) := by
    simpa using Blk.new w 53 (pcells p ++ pcells q)
  have ho : ∀ z ∈ [p, q], z.ok := fun z hz => by
    rcases List.mem_cons.1 hz with rfl | hz
    · exact hp
    · obtain rfl := List.mem_singleton.1 hz; exact hq
  exact ⟨Blk.rdr (fun z hz => pcells_len (ho z hz)) hk, ho⟩
theorem two_of_list {w : World} {A2 : Option Addr} {n : Nat} {xs : List AV} {a b : Aut} (hm : xs.map AV.a = [a, b]) (hl : xs.length = n) (h : RdL w w.heap.size A2 xs) :
    ∃ (ad : Addr) (na ca : Nat) (M : Option Addr) (nm cm : Nat) (E : Option Addr) (ne ce : Nat) (A : Option Addr) (na' ca' : Nat) (M' : Option Addr) (nm' cm' : Nat) (E' : Option Addr) (ne' ce' : Nat) (A' : Option Addr),
      A2 = some ad ∧ n = 2 ∧ ad.block < w.heap.size ∧
      w.cell? (ad.add 0) = some (.slice A na ca) ∧ w.cell? (ad.add 1) = some (.int .i64 a.st) ∧ w.cell? (ad.add 2) = some (.slice M nm cm) ∧ w.cell? (ad.add 3) = some (.slice E ne ce) ∧
      w.cell? (ad.add 4) = some (.slice A' na' ca') ∧ w.cell? (ad.add 5) = some (.int .i64 b.st) ∧ w.cell? (ad.add 6) = some (.slice M' nm' cm') ∧ w.cell? (ad.add 7) = some (.slice E' ne' ce') ∧
      AutR w w.heap.size A na ca M nm cm E ne ce a ∧ AutR w w.heap.size A' na' ca' M' nm' cm' E' ne' ce' b ∧
      xs = [⟨A, na, ca, M, nm, cm, E, ne, ce, a⟩, ⟨A', na', ca', M', nm', cm', E', ne', ce', b⟩] := by
  match xs, hm with
  | [x, y], hm =>
    simp only [List.map_cons, List.map_nil, List.cons.injEq, and_true] at hm
    obtain ⟨rfl, rfl⟩ := hm
    obtain ⟨ad, e1, hb, hx⟩ := h.1 0 x rfl
    obtain ⟨ad', e2, _, hy⟩ := h.1 1 y rfl
    obtain rfl : ad = ad' := by rw [e1] at e2; exact Option.some.inj e2
    exact ⟨ad, x.na, x.ca, x.M, x.nm, x.cm, x.E, x.ne, x.ce, x.A, y.na, y.ca, y.M, y.nm, y.cm, y.E, y.ne, y.ce, y.A, e1, hl.symm, hb, hx 0 _ rfl, hx 1 _ rfl, hx 2 _ rfl, hx 3 _ rfl, hy 0 _ rfl, hy 1 _ rfl, hy 2 _ rfl, hy 3 _ rfl, h.2 x (by simp), h.2 y (by simp), rfl⟩

def cells8 (W : World) (ad : Addr) (A : Option Addr) (na ca : Nat) (sa : Int) (M : Option Addr) (nm cm : Nat) (E : Option Addr) (ne ce : Nat) (A' : Option Addr) (na' ca' : Nat) (sb : Int) (M' : Option Addr) (nm' cm' : Nat) (E' : Option Addr) (ne' ce' : Nat) : Prop :=
  W.cell? ad = some (.slice A na ca) ∧ W.cell? ⟨ad.block, ad.off + 1, none⟩ = some (.int .i64 sa) ∧ W.cell? ⟨ad.block, ad.off + 2, none⟩ = some (.slice M nm cm) ∧ W.cell? ⟨ad.block, ad.off + 3, none⟩ = some (.slice E ne ce) ∧
  W.cell? ⟨ad.block, ad.off + 4, none⟩ = some (.slice A' na' ca') ∧ W.cell? ⟨ad.block, ad.off + 5, none⟩ = some (.int .i64 sb) ∧ W.cell? ⟨ad.block, ad.off + 6, none⟩ = some (.slice M' nm' cm') ∧ W.cell? ⟨ad.block, ad.off + 7, none⟩ = some (.slice E' ne' ce')
theorem cells8_to {W W' : World} {ad : Addr} {A M E A' M' E' : Option Addr} {na ca nm cm ne ce na' ca' nm' cm' ne' ce' : Nat} {sa sb : Int} {B : Nat} (h : cells8 W ad A na ca sa M nm cm E ne ce A' na' ca' sb M' nm' cm' E' ne' ce') (hb : Below B W W') (had : ad.block < B) :
    cells8 W' ad A na ca sa M nm cm E ne ce A' na' ca' sb M' nm' cm' E' ne' ce' := by
  have hc : ∀ k, W'.cell? ⟨ad.block, k, none⟩ = W.cell? ⟨ad.block, k, none⟩ := fun k => hb.cell had
  have hc0 : W'.cell? ad = W.cell? ad := hb.cell had
  unfold cells8 at *
  rw [hc0, hc, hc, hc, hc, hc, hc, hc]; exact h





set_option maxRecDepth 100000 in
set_option maxHeartbeats 3200000 in
theorem meets_diff (p q : Pt) (w : World) (hp : p.ok) (hq : q.ok) (hn : eqB (ptA p).al (ptA q).al = false) :
    Calls Tryd.prog 6 #[.agg (pcells p).toArray, .agg (pcells q).toArray, .bool false] w fun e w' => e = .returned (.bool true) ∧ Below w.heap.size w w' := by
  have k3 : Blk ((w.alloc (.cells (pcells p).toArray 53)).alloc (.cells (pcells q).toArray 53)) w.heap.size 53 (pcells p) := (Blk.new w _ _).al _
  have k4 : Blk ((w.alloc (.cells (pcells p).toArray 53)).alloc (.cells (pcells q).toArray 53)) (w.heap.size + 1) 53 (pcells q) := Blk.at_ _ _ _ (by simp)
  have hB2 : Below w.heap.size w ((w.alloc (.cells (pcells p).toArray 53)).alloc (.cells (pcells q).toArray 53)) := ((Below.refl _ w).alloc (Nat.le_refl _) _).alloc (by simp) _
  have HK := Lib.hid (law_known ((w.alloc (.cells (pcells p).toArray 53)).alloc (.cells (pcells q).toArray 53)))
  have K3 := Lib.hid k3; clear k3
  have K4 := Lib.hid k4; clear k4
  have HB2 := Lib.hid hB2; clear hB2
  have HP := Lib.hid hp; clear hp
  have HQ := Lib.hid hq; clear hq
  have HN := Lib.hid hn; clear hn
  go_enter Tryd.func6, Tryd.ntmps6
  go_wp2_with fail
  refine HK.out.mono ?_
  rintro e w1 ⟨rfl, hb1⟩
  have hB1 := HB2.out.trans (hb1.mono HB2.out.size)
  have k3 := K3.out.below hb1 K3.out.lt
  have k4 := K4.out.below hb1 K4.out.lt
  have HB1 := Lib.hid hB1; clear hB1
  clear K3 K4 HB2 HK hb1
  have HLI := Lib.hid (law_List _ 2 2 [p, q] _ rfl (two_rdp w1 HP.out HQ.out))
  have hW2 := box_below w1 (.cells (pcells p ++ pcells q).toArray 53)
  have HBW := Lib.hid (HB1.out.trans (hW2.mono HB1.out.size))
  clear hW2 HB1
  go_wp2_with (first | refine wpList_load_part rfl _ rfl w.heap.size p HP.out (by rfl) k3 ?_ | refine wpList_load_part rfl _ rfl (w.heap.size + 1) q HQ.out (by rfl) k4 ?_ | refine wpList_two_parts rfl _ _ rfl p q HP.out HQ.out (by rfl) (by rfl) ?_)
  clear k3 k4
  refine HLI.out.mono ?_
  rintro e w2 ⟨A2, n2, c2, xs, rfl, hm2, hl2, hc1, hc2, hr2, hb2⟩
  have HR2 := Lib.hid hr2
  obtain ⟨ad, na, ca, M, nm, cm, E, ne, ce, A, na', ca', M', nm', cm', E', ne', ce', A', rfl, rfl, hadb, c0, c1, c2', c3, d0, d1, d2, d3, hx, hy, hxs⟩ := two_of_list (a := ptA p) (b := ptA q) hm2 hl2 hr2
  have HM2 := Lib.hid hm2
  have HL2 := Lib.hid hl2
  clear hm2 hl2 hr2 hxs
  obtain ⟨sa, hsa⟩ : ∃ s, (ptA p).st = s := ⟨_, rfl⟩
  obtain ⟨sb, hsb⟩ : ∃ s, (ptA q).st = s := ⟨_, rfl⟩
  rw [hsa] at c1
  rw [hsb] at d1
  have hA0 : cells8 w2.drew ad A na ca sa M nm cm E ne ce A' na' ca' sb M' nm' cm' E' ne' ce' := ⟨c0, c1, c2', c3, d0, d1, d2, d3⟩
  have hB2 := (HBW.out.trans (hb2.mono HBW.out.size)).trans ((below_dr w2).mono (HBW.out.trans (hb2.mono HBW.out.size)).size)
  have HX0 := Lib.hid ((hx.below (below_dr w2)).more (below_dr w2).size)
  have HY0 := Lib.hid ((hy.below (below_dr w2)).more (below_dr w2).size)
  have HR0 := Lib.hid ((HR2.out.below (below_dr w2)).more (below_dr w2).size)
  have hadd : ad.block < w2.drew.heap.size := hadb
  have HB0 := Lib.hid hB2
  have HADD := Lib.hid hadd
  have HSA := Lib.hid hsa; clear hsa
  have HSB := Lib.hid hsb; clear hsb
  clear hb2 HLI HBW c0 c1 c2' c3 d0 d1 d2 d3 hx hy HR2 hadb hB2 hadd
  go_wp2
  refine wp_region_U (fun W => cells8 W ad A na ca sa M nm cm E ne ce A' na' ca' sb M' nm' cm' E' ne' ce') (fun _ => True) 12 (by kernel_rfl) ?_
  change anyU _ _ _ _ _ _ _ 13 _ _ _
  have hB0 : True := trivial
  generalize hwd : w2.drew = wd at hA0 HX0 HY0 HR0 HADD HB0 ⊢
  have HWD := Lib.hid hwd; clear hwd
  ((refine uTake (i := 0) (v := ?_) rfl (by kernel_rfl) (fun _ _ _ h => h) (by rfl) (fun W hA hB => ?_) ⟨hA0, fun _ => hB0⟩ ?_; rotate_left; (· (clear hB; (try dsimp only at hA); go_simp; try with_reducible rfl)); (try simp only [Act.put, List.setIfInBounds_toArray, List.set_cons_zero, List.set_cons_succ])); (refine uTake (i := 1) (v := ?_) rfl (by kernel_rfl) (fun _ _ _ h => h) (by rfl) (fun W hA hB => ?_) ⟨hA0, fun _ => hB0⟩ ?_; rotate_left; (· (clear hB; (try dsimp only at hA); go_simp; try with_reducible rfl)); (try simp only [Act.put, List.setIfInBounds_toArray, List.set_cons_zero, List.set_cons_succ])))
  ((refine uTake (i := 2) (v := ?_) rfl (by kernel_rfl) (fun _ _ _ h => h) (by rfl) (fun W hA hB => ?_) ⟨hA0, fun _ => hB0⟩ ?_; rotate_left; (· (clear hB; (try dsimp only at hA); obtain ⟨a0, a1, a2, a3, a4, a5, a6, a7⟩ := hA; go_simp; try with_reducible rfl)); (try simp only [Act.put, List.setIfInBounds_toArray, List.set_cons_zero, List.set_cons_succ])))
  ((refine uTake (i := 3) (v := ?_) rfl (by kernel_rfl) (fun _ _ _ h => h) (by rfl) (fun W hA hB => ?_) ⟨hA0, fun _ => hB0⟩ ?_; rotate_left; (· (clear hB; (try dsimp only at hA); go_simp; try with_reducible rfl)); (try simp only [Act.put, List.setIfInBounds_toArray, List.set_cons_zero, List.set_cons_succ])); (refine uTake (i := 4) (v := ?_) rfl (by kernel_rfl) (fun _ _ _ h => h) (by rfl) (fun W hA hB => ?_) ⟨hA0, fun _ => hB0⟩ ?_; rotate_left; (· (clear hB; (try dsimp only at hA); go_simp; try with_reducible rfl)); (try simp only [Act.put, List.setIfInBounds_toArray, List.set_cons_zero, List.set_cons_succ])))
  ((refine uTake (i := 5) (v := ?_) rfl (by kernel_rfl) (fun _ _ _ h => h) (by rfl) (fun W hA hB => ?_) ⟨hA0, fun _ => hB0⟩ ?_; rotate_left; (· (clear hB; (try dsimp only at hA); obtain ⟨a0, a1, a2, a3, a4, a5, a6, a7⟩ := hA; go_simp; try with_reducible rfl)); (try simp only [Act.put, List.setIfInBounds_toArray, List.set_cons_zero, List.set_cons_succ])))
  have HF := Lib.hid (few_of (l := [ptA p, ptA q]) (fun z hz => by
    rcases List.mem_cons.1 hz with rfl | hz
    · exact ptA_sm HP.out
    · obtain rfl := List.mem_singleton.1 hz; exact ptA_sm HQ.out) (by simp))
  have hbz := box_below wd (.cells #[.slice none 0 0, .int .i64 0, .slice none 0 0, .slice none 0 0] 29)
  have HB2 := Lib.hid (HB0.out.trans (hbz.mono HB0.out.size))
  have hA2 := cells8_to hA0 hbz HADD.out
  have HX2 := Lib.hid ((HX0.out.below hbz).more hbz.size)
  have HY2 := Lib.hid ((HY0.out.below hbz).more hbz.size)
  have HR2 := Lib.hid ((HR0.out.below hbz).more hbz.size)
  have kZ : Blk (wd.alloc (.cells #[.slice none 0 0, .int .i64 0, .slice none 0 0, .slice none 0 0] 29)) wd.heap.size 29 [.slice none 0 0, .int .i64 0, .slice none 0 0, .slice none 0 0] := Blk.new _ _ _
  have KZ := Lib.hid kZ; clear kZ
  clear hbz
  have HME := Lib.hid (meet_no A M E A' M' E' na ca nm cm ne ce na' ca' nm' cm' ne' ce' (ptA p) (ptA q) wd HX0.out HY0.out HF.out HN.out)
  have HMF := Lib.hid (meet_no A M E A' M' E' na ca nm cm ne ce na' ca' nm' cm' ne' ce' (ptA p) (ptA q) _ HX2.out HY2.out HF.out HN.out)
  rw [HSA.out, HSB.out] at HME HMF
  refine uTwo (i := 6) (j := 10) rfl rfl (by kernel_rfl) (fun K hK => ?_) (fun K hK => ?_)
  · go_simp
    go_at_call 22
    refine HME.out.mono ?_
    rintro e w3 ⟨hb3, rfl⟩
    have hA3 := cells8_to hA0 hb3 HADD.out
    have hB3 := HB0.out.trans (hb3.mono HB0.out.size)
    have hX3 := (HX0.out.below hb3).more hb3.size
    have hY3 := (HY0.out.below hb3).more hb3.size
    have hR3 := (HR0.out.below hb3).more hb3.size
    have had3 : ad.block < w3.heap.size := Nat.lt_of_lt_of_le HADD.out hb3.size
    have hb4 := box_below w3 (.cells #[.slice none 0 0, .int .i64 0, .slice none 0 0, .slice none 0 0] 29)
    have hb5 := box_below w3 (.cells #[.slice none 0 0, .int .i64 0, .slice none 0 0, .slice none 0 0] 29)
    have hA4 := cells8_to hA3 hb4 had3
    have hA5 := cells8_to hA3 hb5 had3
    have k9 : Blk (w3.alloc (.cells #[.slice none 0 0, .int .i64 0, .slice none 0 0, .slice none 0 0] 29)) w3.heap.size 29 [.slice none 0 0, .int .i64 0, .slice none 0 0, .slice none 0 0] := Blk.new _ _ _
    have HX9 := Lib.hid ((hX3.below hb5).more hb5.size)
    have HY9 := Lib.hid ((hY3.below hb5).more hb5.size)
    have HR9 := Lib.hid ((hR3.below hb5).more hb5.size)
    have HB9 := Lib.hid (hB3.trans (hb5.mono hB3.size))
    have K9 := Lib.hid k9; clear k9
    clear hb3 hb4 hb5 hX3 hY3 hR3 hB3 had3 hA0 HX0 HY0 HR0 HB0 HADD HX2 HY2 HR2 HB2 hA2 KZ
    (refine hK _ _ ⟨hA3, fun _ => hB0⟩ ?_; clear hK K; (try simp only [Act.put, List.setIfInBounds_toArray, List.set_cons_zero, List.set_cons_succ]))
    have hA0 := hA3
    ((refine uTake (i := 7) (v := ?_) rfl (by kernel_rfl) (fun _ _ _ h => h) (by rfl) (fun W hA hB => ?_) ⟨hA0, fun _ => hB0⟩ ?_; rotate_left; (· (clear hB; (try dsimp only at hA); go_simp; try with_reducible rfl)); (try simp only [Act.put, List.setIfInBounds_toArray, List.set_cons_zero, List.set_cons_succ])); (refine uTake (i := 8) (v := ?_) rfl (by kernel_rfl) (fun _ _ _ h => h) (by rfl) (fun W hA hB => ?_) ⟨hA0, fun _ => hB0⟩ ?_; rotate_left; (· (clear hB; (try dsimp only at hA); go_simp; try with_reducible rfl)); (try simp only [Act.put, List.setIfInBounds_toArray, List.set_cons_zero, List.set_cons_succ])); (refine uTake (i := 9) (v := ?_) rfl (by kernel_rfl) (fun _ _ _ h => h) (by rfl) (fun W hA hB => ?_) ⟨hA0, fun _ => hB0⟩ ?_; rotate_left; (· (clear hB; (try dsimp only at hA); go_simp; try with_reducible rfl)); (try simp only [Act.put, List.setIfInBounds_toArray, List.set_cons_zero, List.set_cons_succ])))
    refine uOne (i := 10) rfl (by kernel_rfl) (fun K hK => ?_)
    go_simp
    (refine hK _ _ ⟨hA4, fun _ => hB0⟩ ?_; clear hK K; (try simp only [Act.put, List.setIfInBounds_toArray, List.set_cons_zero, List.set_cons_succ]))
    refine uOne (i := 11) rfl (by kernel_rfl) (fun K hK => ?_)
    go_simp
    (refine hK _ _ ⟨hA5, fun _ => hB0⟩ ?_; clear hK K; (try simp only [Act.put, List.setIfInBounds_toArray, List.set_cons_zero, List.set_cons_succ]))
    refine uOne (i := 12) rfl (by kernel_rfl) (fun K hK => ?_)
    go_simp
    (refine hK _ _ ⟨hA5, fun _ => hB0⟩ ?_; clear hK K; (try simp only [Act.put, List.setIfInBounds_toArray, List.set_cons_zero, List.set_cons_succ]))
    refine anyU_done (by kernel_rfl) ?_ _
    clear hA0 hA3 hA4
    obtain ⟨w9, hw9⟩ : ∃ w9, w9 = (w3.alloc (.cells #[.slice none 0 0, .int .i64 0, .slice none 0 0, .slice none 0 0] 29)) := ⟨_, rfl⟩
    rw [← hw9] at hA5 HX9 HY9 HR9 HB9 K9 ⊢
    (try rw [← hw9] at HA9)
    have HW9 := Lib.hid hw9; clear hw9
    go_wp2
    refine wp_region_U (fun W => cells8 W ad A na ca sa M nm cm E ne ce A' na' ca' sb M' nm' cm' E' ne' ce') (fun _ => True) 9 (by kernel_rfl) ?_
    change anyU _ _ _ _ _ _ _ 10 _ _ _
    have hA0 : cells8 w9.drew ad A na ca sa M nm cm E ne ce A' na' ca' sb M' nm' cm' E' ne' ce' := hA5
    have hbd := below_dr w9
    have HX := Lib.hid ((HX9.out.below hbd).more hbd.size)
    have HY := Lib.hid ((HY9.out.below hbd).more hbd.size)
    have HR := Lib.hid ((HR9.out.below hbd).more hbd.size)
    have HB := Lib.hid (HB9.out.trans (hbd.mono HB9.out.size))
    have KK := Lib.hid (K9.out.below hbd K9.out.lt)
    (try have HA := Lib.hid ((HA9.out.below hbd).more hbd.size))
    (try clear HA9)
    have HADR := Lib.hid (hbd.size)
    clear hA5 HX9 HY9 HR9 HB9 K9 hbd
    generalize hwt : w9.drew = wt at hA0 HX HY HR HB KK HADR ⊢
    have HWT := Lib.hid hwt; clear hwt
    ((refine uTake (i := 0) (v := ?_) rfl (by kernel_rfl) (fun _ _ _ h => h) (by rfl) (fun W hA hB => ?_) ⟨hA0, fun _ => hB0⟩ ?_; rotate_left; (· (clear hB; (try dsimp only at hA); go_simp; try with_reducible rfl)); (try simp only [Act.put, List.setIfInBounds_toArray, List.set_cons_zero, List.set_cons_succ])); (refine uTake (i := 1) (v := ?_) rfl (by kernel_rfl) (fun _ _ _ h => h) (by rfl) (fun W hA hB => ?_) ⟨hA0, fun _ => hB0⟩ ?_; rotate_left; (· (clear hB; (try dsimp only at hA); go_simp; try with_reducible rfl)); (try simp only [Act.put, List.setIfInBounds_toArray, List.set_cons_zero, List.set_cons_succ])); (refine uTake (i := 2) (v := ?_) rfl (by kernel_rfl) (fun _ _ _ h => h) (by rfl) (fun W hA hB => ?_) ⟨hA0, fun _ => hB0⟩ ?_; rotate_left; (· (clear hB; (try dsimp only at hA); go_simp; try with_reducible rfl)); (try simp only [Act.put, List.setIfInBounds_toArray, List.set_cons_zero, List.set_cons_succ])))
    ((refine uTake (i := 3) (v := ?_) rfl (by kernel_rfl) (fun _ _ _ h => h) (by rfl) (fun W hA hB => ?_) ⟨hA0, fun _ => hB0⟩ ?_; rotate_left; (· (clear hB; (try dsimp only at hA); obtain ⟨a0, a1, a2, a3, a4, a5, a6, a7⟩ := hA; go_simp; try with_reducible rfl)); (try simp only [Act.put, List.setIfInBounds_toArray, List.set_cons_zero, List.set_cons_succ])))
    ((refine uTake (i := 4) (v := ?_) rfl (by kernel_rfl) (fun _ _ _ h => h) (by rfl) (fun W hA hB => ?_) ⟨hA0, fun _ => hB0⟩ ?_; rotate_left; (· (clear hB; (try dsimp only at hA); go_simp; try with_reducible rfl)); (try simp only [Act.put, List.setIfInBounds_toArray, List.set_cons_zero, List.set_cons_succ])); (refine uTake (i := 5) (v := ?_) rfl (by kernel_rfl) (fun _ _ _ h => h) (by rfl) (fun W hA hB => ?_) ⟨hA0, fun _ => hB0⟩ ?_; rotate_left; (· (clear hB; (try dsimp only at hA); go_simp; try with_reducible rfl)); (try simp only [Act.put, List.setIfInBounds_toArray, List.set_cons_zero, List.set_cons_succ])); (refine uTake (i := 6) (v := ?_) rfl (by kernel_rfl) (fun _ _ _ h => h) (by rfl) (fun W hA hB => ?_) ⟨hA0, fun _ => hB0⟩ ?_; rotate_left; (· (clear hB; (try dsimp only at hA); go_simp; try with_reducible rfl)); (try simp only [Act.put, List.setIfInBounds_toArray, List.set_cons_zero, List.set_cons_succ])))
    ((refine uTake (i := 7) (v := ?_) rfl (by kernel_rfl) (fun _ _ _ h => h) (by rfl) (fun W hA hB => ?_) ⟨hA0, fun _ => hB0⟩ ?_; rotate_left; (· (clear hB; (try dsimp only at hA); obtain ⟨a0, a1, a2, a3, a4, a5, a6, a7⟩ := hA; go_simp; try with_reducible rfl)); (try simp only [Act.put, List.setIfInBounds_toArray, List.set_cons_zero, List.set_cons_succ])))
    have HSM := Lib.hid (law_same_n A A' ca ca' na na' _ _ false wt HX.out.la HY.out.la HN.out HX.out.ra HX.out.ac HX.out.cA HY.out.ra)
    refine uOne (i := 8) rfl (by kernel_rfl) (fun K hK => ?_)
    go_simp
    go_at_call 21
    refine HSM.out.mono ?_
    rintro e wv ⟨rfl, m, hm⟩
    have hbv : Below wt.heap.size wt wv := by rw [hm]; exact below_drewN (Below.refl _ _) m
    have hAv : cells8 wv ad A na ca sa M nm cm E ne ce A' na' ca' sb M' nm' cm' E' ne' ce' := by rw [hm]; exact hA0
    clear hm
    (refine hK _ _ ⟨hAv, fun _ => hB0⟩ ?_; clear hK K; (try simp only [Act.put, List.setIfInBounds_toArray, List.set_cons_zero, List.set_cons_succ]))
    refine uOne (i := 9) rfl (by kernel_rfl) (fun K hK => ?_)
    go_simp
    (refine hK _ _ ⟨hAv, fun _ => hB0⟩ ?_; clear hK K; (try simp only [Act.put, List.setIfInBounds_toArray, List.set_cons_zero, List.set_cons_succ]))
    refine anyU_done (by kernel_rfl) ?_ _
    clear hAv hA0
    have KV := Lib.hid (KK.out.below hbv KK.out.lt)
    (try have HAV := Lib.hid ((HA.out.below hbv).more hbv.size))
    have HXV := Lib.hid ((HX.out.below hbv).more hbv.size)
    have HYV := Lib.hid ((HY.out.below hbv).more hbv.size)
    have HRV := Lib.hid ((HR.out.below hbv).more hbv.size)
    have HBV := Lib.hid (HB.out.trans (hbv.mono HB.out.size))
    clear KK HX HY HR HB HSM
    have z0 := KV.out.cell (j := 0) rfl
    have z1 := KV.out.cell (j := 1) rfl
    have z2 := KV.out.cell (j := 2) rfl
    have z3 := KV.out.cell (j := 3) rfl
    have HNO := Lib.hid (law_none_zero wv)
    clear hbv
    go_wp2_with fail
    refine HNO.out.mono ?_
    rintro e wx ⟨rfl, hbx⟩
    go_wp2
    go_ret
    exact ⟨rfl, HBV.out.trans (hbx.mono HBV.out.size)⟩
  · go_simp
    (refine hK _ _ ⟨hA2, fun _ => hB0⟩ ?_; clear hK K; (try simp only [Act.put, List.setIfInBounds_toArray, List.set_cons_zero, List.set_cons_succ]))
    refine uOne (i := 6) rfl (by kernel_rfl) (fun K hK => ?_)
    go_simp
    go_at_call 22
    refine HMF.out.mono ?_
    rintro e w3 ⟨hb3, rfl⟩
    have hb13 := (box_below wd (.cells #[.slice none 0 0, .int .i64 0, .slice none 0 0, .slice none 0 0] 29)).trans (hb3.mono (box_below wd (.cells #[.slice none 0 0, .int .i64 0, .slice none 0 0, .slice none 0 0] 29)).size)
    have hbT : Below wd.heap.size wd ((((w3.setCell ⟨wd.heap.size, 0, none⟩ (.slice none 0 0)).setCell ⟨wd.heap.size, 1, none⟩ (.int .i64 0)).setCell ⟨wd.heap.size, 2, none⟩ (.slice none 0 0)).setCell ⟨wd.heap.size, 3, none⟩ (.slice none 0 0)) := (((hb13.setCell (p := ⟨wd.heap.size, 0, none⟩) (Nat.le_refl _) _).setCell (p := ⟨wd.heap.size, 1, none⟩) (Nat.le_refl _) _).setCell (p := ⟨wd.heap.size, 2, none⟩) (Nat.le_refl _) _).setCell (p := ⟨wd.heap.size, 3, none⟩) (Nat.le_refl _) _
    have kZ3 := KZ.out.below hb3 KZ.out.lt
    have f0 := kZ3.free 0
    have f1 := kZ3.free 1
    have f2 := kZ3.free 2
    have f3 := kZ3.free 3
    have e0 := kZ3.cell (j := 0) rfl
    have e1 := kZ3.cell (j := 1) rfl
    have e2 := kZ3.cell (j := 2) rfl
    have e3 := kZ3.cell (j := 3) rfl
    have l3 : wd.heap.size < w3.heap.size := kZ3.lt
    have k9 : Blk ((((w3.setCell ⟨wd.heap.size, 0, none⟩ (.slice none 0 0)).setCell ⟨wd.heap.size, 1, none⟩ (.int .i64 0)).setCell ⟨wd.heap.size, 2, none⟩ (.slice none 0 0)).setCell ⟨wd.heap.size, 3, none⟩ (.slice none 0 0)) wd.heap.size 29 [.slice none 0 0, .int .i64 0, .slice none 0 0, .slice none 0 0] := (((kZ3.set (j := 0) (by simp) _).set (j := 1) (by simp) _).set (j := 2) (by simp) _).set (j := 3) (by simp) _
    have hA3 := cells8_to hA0 hb13 HADD.out
    have hA5 := cells8_to hA0 hbT HADD.out
    have HX9 := Lib.hid ((HX0.out.below hbT).more hbT.size)
    have HY9 := Lib.hid ((HY0.out.below hbT).more hbT.size)
    have HR9 := Lib.hid ((HR0.out.below hbT).more hbT.size)
    have HB9 := Lib.hid (HB0.out.trans (hbT.mono HB0.out.size))
    have K9 := Lib.hid k9; clear k9
    clear hb3 hbT hb13 kZ3 hA0 HX0 HY0 HR0 HB0 HADD HX2 HY2 HR2 HB2 hA2 KZ
    (refine hK _ _ ⟨hA3, fun _ => hB0⟩ ?_; clear hK K; (try simp only [Act.put, List.setIfInBounds_toArray, List.set_cons_zero, List.set_cons_succ]))
    have hA0 := hA3
    ((refine uTake (i := 7) (v := ?_) rfl (by kernel_rfl) (fun _ _ _ h => h) (by rfl) (fun W hA hB => ?_) ⟨hA0, fun _ => hB0⟩ ?_; rotate_left; (· (clear hB; (try dsimp only at hA); go_simp; try with_reducible rfl)); (try simp only [Act.put, List.setIfInBounds_toArray, List.set_cons_zero, List.set_cons_succ])); (refine uTake (i := 8) (v := ?_) rfl (by kernel_rfl) (fun _ _ _ h => h) (by rfl) (fun W hA hB => ?_) ⟨hA0, fun _ => hB0⟩ ?_; rotate_left; (· (clear hB; (try dsimp only at hA); go_simp; try with_reducible rfl)); (try simp only [Act.put, List.setIfInBounds_toArray, List.set_cons_zero, List.set_cons_succ])); (refine uTake (i := 9) (v := ?_) rfl (by kernel_rfl) (fun _ _ _ h => h) (by rfl) (fun W hA hB => ?_) ⟨hA0, fun _ => hB0⟩ ?_; rotate_left; (· (clear hB; (try dsimp only at hA); go_simp; try with_reducible rfl)); (try simp only [Act.put, List.setIfInBounds_toArray, List.set_cons_zero, List.set_cons_succ])))
    refine uOne (i := 11) rfl (by kernel_rfl) (fun K hK => ?_)
    go_simp
    (refine hK _ _ ⟨hA5, fun _ => hB0⟩ ?_; clear hK K; (try simp only [Act.put, List.setIfInBounds_toArray, List.set_cons_zero, List.set_cons_succ]))
    refine uOne (i := 12) rfl (by kernel_rfl) (fun K hK => ?_)
    go_simp
    (refine hK _ _ ⟨hA5, fun _ => hB0⟩ ?_; clear hK K; (try simp only [Act.put, List.setIfInBounds_toArray, List.set_cons_zero, List.set_cons_succ]))
    refine anyU_done (by kernel_rfl) ?_ _
    clear hA0 hA3 f0 f1 f2 f3 e0 e1 e2 e3
    obtain ⟨w9, hw9⟩ : ∃ w9, w9 = ((((w3.setCell ⟨wd.heap.size, 0, none⟩ (.slice none 0 0)).setCell ⟨wd.heap.size, 1, none⟩ (.int .i64 0)).setCell ⟨wd.heap.size, 2, none⟩ (.slice none 0 0)).setCell ⟨wd.heap.size, 3, none⟩ (.slice none 0 0)) := ⟨_, rfl⟩
    rw [← hw9] at hA5 HX9 HY9 HR9 HB9 K9 ⊢
    (try rw [← hw9] at HA9)
    have HW9 := Lib.hid hw9; clear hw9
    go_wp2
    refine wp_region_U (fun W => cells8 W ad A na ca sa M nm cm E ne ce A' na' ca' sb M' nm' cm' E' ne' ce') (fun _ => True) 9 (by kernel_rfl) ?_
    change anyU _ _ _ _ _ _ _ 10 _ _ _
    have hA0 : cells8 w9.drew ad A na ca sa M nm cm E ne ce A' na' ca' sb M' nm' cm' E' ne' ce' := hA5
    have hbd := below_dr w9
    have HX := Lib.hid ((HX9.out.below hbd).more hbd.size)
    have HY := Lib.hid ((HY9.out.below hbd).more hbd.size)
    have HR := Lib.hid ((HR9.out.below hbd).more hbd.size)
    have HB := Lib.hid (HB9.out.trans (hbd.mono HB9.out.size))
    have KK := Lib.hid (K9.out.below hbd K9.out.lt)
    (try have HA := Lib.hid ((HA9.out.below hbd).more hbd.size))
    (try clear HA9)
    have HADR := Lib.hid (hbd.size)
    clear hA5 HX9 HY9 HR9 HB9 K9 hbd
    generalize hwt : w9.drew = wt at hA0 HX HY HR HB KK HADR ⊢
    have HWT := Lib.hid hwt; clear hwt
    ((refine uTake (i := 0) (v := ?_) rfl (by kernel_rfl) (fun _ _ _ h => h) (by rfl) (fun W hA hB => ?_) ⟨hA0, fun _ => hB0⟩ ?_; rotate_left; (· (clear hB; (try dsimp only at hA); go_simp; try with_reducible rfl)); (try simp only [Act.put, List.setIfInBounds_toArray, List.set_cons_zero, List.set_cons_succ])); (refine uTake (i := 1) (v := ?_) rfl (by kernel_rfl) (fun _ _ _ h => h) (by rfl) (fun W hA hB => ?_) ⟨hA0, fun _ => hB0⟩ ?_; rotate_left; (· (clear hB; (try dsimp only at hA); go_simp; try with_reducible rfl)); (try simp only [Act.put, List.setIfInBounds_toArray, List.set_cons_zero, List.set_cons_succ])); (refine uTake (i := 2) (v := ?_) rfl (by kernel_rfl) (fun _ _ _ h => h) (by rfl) (fun W hA hB => ?_) ⟨hA0, fun _ => hB0⟩ ?_; rotate_left; (· (clear hB; (try dsimp only at hA); go_simp; try with_reducible rfl)); (try simp only [Act.put, List.setIfInBounds_toArray, List.set_cons_zero, List.set_cons_succ])))
    ((refine uTake (i := 3) (v := ?_) rfl (by kernel_rfl) (fun _ _ _ h => h) (by rfl) (fun W hA hB => ?_) ⟨hA0, fun _ => hB0⟩ ?_; rotate_left; (· (clear hB; (try dsimp only at hA); obtain ⟨a0, a1, a2, a3, a4, a5, a6, a7⟩ := hA; go_simp; try with_reducible rfl)); (try simp only [Act.put, List.setIfInBounds_toArray, List.set_cons_zero, List.set_cons_succ])))
    ((refine uTake (i := 4) (v := ?_) rfl (by kernel_rfl) (fun _ _ _ h => h) (by rfl) (fun W hA hB => ?_) ⟨hA0, fun _ => hB0⟩ ?_; rotate_left; (· (clear hB; (try dsimp only at hA); go_simp; try with_reducible rfl)); (try simp only [Act.put, List.setIfInBounds_toArray, List.set_cons_zero, List.set_cons_succ])); (refine uTake (i := 5) (v := ?_) rfl (by kernel_rfl) (fun _ _ _ h => h) (by rfl) (fun W hA hB => ?_) ⟨hA0, fun _ => hB0⟩ ?_; rotate_left; (· (clear hB; (try dsimp only at hA); go_simp; try with_reducible rfl)); (try simp only [Act.put, List.setIfInBounds_toArray, List.set_cons_zero, List.set_cons_succ])); (refine uTake (i := 6) (v := ?_) rfl (by kernel_rfl) (fun _ _ _ h => h) (by rfl) (fun W hA hB => ?_) ⟨hA0, fun _ => hB0⟩ ?_; rotate_left; (· (clear hB; (try dsimp only at hA); go_simp; try with_reducible rfl)); (try simp only [Act.put, List.setIfInBounds_toArray, List.set_cons_zero, List.set_cons_succ])))
    ((refine uTake (i := 7) (v := ?_) rfl (by kernel_rfl) (fun _ _ _ h => h) (by rfl) (fun W hA hB => ?_) ⟨hA0, fun _ => hB0⟩ ?_; rotate_left; (· (clear hB; (try dsimp only at hA); obtain ⟨a0, a1, a2, a3, a4, a5, a6, a7⟩ := hA; go_simp; try with_reducible rfl)); (try simp only [Act.put, List.setIfInBounds_toArray, List.set_cons_zero, List.set_cons_succ])))
    have HSM := Lib.hid (law_same_n A A' ca ca' na na' _ _ false wt HX.out.la HY.out.la HN.out HX.out.ra HX.out.ac HX.out.cA HY.out.ra)
    refine uOne (i := 8) rfl (by kernel_rfl) (fun K hK => ?_)
    go_simp
    go_at_call 21
    refine HSM.out.mono ?_
    rintro e wv ⟨rfl, m, hm⟩
    have hbv : Below wt.heap.size wt wv := by rw [hm]; exact below_drewN (Below.refl _ _) m
    have hAv : cells8 wv ad A na ca sa M nm cm E ne ce A' na' ca' sb M' nm' cm' E' ne' ce' := by rw [hm]; exact hA0
    clear hm
    (refine hK _ _ ⟨hAv, fun _ => hB0⟩ ?_; clear hK K; (try simp only [Act.put, List.setIfInBounds_toArray, List.set_cons_zero, List.set_cons_succ]))
    refine uOne (i := 9) rfl (by kernel_rfl) (fun K hK => ?_)
    go_simp
    (refine hK _ _ ⟨hAv, fun _ => hB0⟩ ?_; clear hK K; (try simp only [Act.put, List.setIfInBounds_toArray, List.set_cons_zero, List.set_cons_succ]))
    refine anyU_done (by kernel_rfl) ?_ _
    clear hAv hA0
    have KV := Lib.hid (KK.out.below hbv KK.out.lt)
    (try have HAV := Lib.hid ((HA.out.below hbv).more hbv.size))
    have HXV := Lib.hid ((HX.out.below hbv).more hbv.size)
    have HYV := Lib.hid ((HY.out.below hbv).more hbv.size)
    have HRV := Lib.hid ((HR.out.below hbv).more hbv.size)
    have HBV := Lib.hid (HB.out.trans (hbv.mono HB.out.size))
    clear KK HX HY HR HB HSM
    have z0 := KV.out.cell (j := 0) rfl
    have z1 := KV.out.cell (j := 1) rfl
    have z2 := KV.out.cell (j := 2) rfl
    have z3 := KV.out.cell (j := 3) rfl
    have HNO := Lib.hid (law_none_zero wv)
    clear hbv
    go_wp2_with fail
    refine HNO.out.mono ?_
    rintro e wx ⟨rfl, hbx⟩
    go_wp2
    go_ret
    exact ⟨rfl, HBV.out.trans (hbx.mono HBV.out.size)⟩

set_option maxRecDepth 100000 in
set_option maxHeartbeats 6400000 in
theorem meets_same (p q : Pt) (w : World) (hp : p.ok) (hq : q.ok) (hn : eqB (ptA p).al (ptA q).al = true) :
    Calls Tryd.prog 6 #[.agg (pcells p).toArray, .agg (pcells q).toArray, .bool false] w fun e w' => e = .returned (.bool true) ∧ Below w.heap.size w w' := by
  have k3 : Blk ((w.alloc (.cells (pcells p).toArray 53)).alloc (.cells (pcells q).toArray 53)) w.heap.size 53 (pcells p) := (Blk.new w _ _).al _
  have k4 : Blk ((w.alloc (.cells (pcells p).toArray 53)).alloc (.cells (pcells q).toArray 53)) (w.heap.size + 1) 53 (pcells q) := Blk.at_ _ _ _ (by simp)
  have hB2 : Below w.heap.size w ((w.alloc (.cells (pcells p).toArray 53)).alloc (.cells (pcells q).toArray 53)) := ((Below.refl _ w).alloc (Nat.le_refl _) _).alloc (by simp) _
  have HK := Lib.hid (law_known ((w.alloc (.cells (pcells p).toArray 53)).alloc (.cells (pcells q).toArray 53)))
  have K3 := Lib.hid k3; clear k3
  have K4 := Lib.hid k4; clear k4
  have HB2 := Lib.hid hB2; clear hB2
  have HP := Lib.hid hp; clear hp
  have HQ := Lib.hid hq; clear hq
  have HN := Lib.hid hn; clear hn
  go_enter Tryd.func6, Tryd.ntmps6
  go_wp2_with fail
  refine HK.out.mono ?_
  rintro e w1 ⟨rfl, hb1⟩
  have hB1 := HB2.out.trans (hb1.mono HB2.out.size)
  have k3 := K3.out.below hb1 K3.out.lt
  have k4 := K4.out.below hb1 K4.out.lt
  have HB1 := Lib.hid hB1; clear hB1
  clear K3 K4 HB2 HK hb1
  have HLI := Lib.hid (law_List _ 2 2 [p, q] _ rfl (two_rdp w1 HP.out HQ.out))
  have hW2 := box_below w1 (.cells (pcells p ++ pcells q).toArray 53)
  have HBW := Lib.hid (HB1.out.trans (hW2.mono HB1.out.size))
  clear hW2 HB1
  have HQQ := HQ
  go_wp2_with (first | refine wpList_load_part rfl _ rfl w.heap.size p HP.out (by rfl) k3 ?_ | refine wpList_load_part rfl _ rfl (w.heap.size + 1) q HQ.out (by rfl) k4 ?_ | refine wpList_two_parts rfl _ _ rfl p q HP.out HQ.out (by rfl) (by rfl) ?_)
  clear k3 k4
  refine HLI.out.mono ?_
  rintro e w2 ⟨A2, n2, c2, xs, rfl, hm2, hl2, hc1, hc2, hr2, hb2⟩
  have HR2 := Lib.hid hr2
  obtain ⟨ad, na, ca, M, nm, cm, E, ne, ce, A, na', ca', M', nm', cm', E', ne', ce', A', rfl, rfl, hadb, c0, c1, c2', c3, d0, d1, d2, d3, hx, hy, hxs⟩ := two_of_list (a := ptA p) (b := ptA q) hm2 hl2 hr2
  have HM2 := Lib.hid hm2
  have HL2 := Lib.hid hl2
  clear hm2 hl2 hr2 hxs
  obtain ⟨sa, hsa⟩ : ∃ s, (ptA p).st = s := ⟨_, rfl⟩
  obtain ⟨sb, hsb⟩ : ∃ s, (ptA q).st = s := ⟨_, rfl⟩
  rw [hsa] at c1
  rw [hsb] at d1
  have hA0 : cells8 w2.drew ad A na ca sa M nm cm E ne ce A' na' ca' sb M' nm' cm' E' ne' ce' := ⟨c0, c1, c2', c3, d0, d1, d2, d3⟩
  have hB2 := (HBW.out.trans (hb2.mono HBW.out.size)).trans ((below_dr w2).mono (HBW.out.trans (hb2.mono HBW.out.size)).size)
  have HX0 := Lib.hid ((hx.below (below_dr w2)).more (below_dr w2).size)
  have HY0 := Lib.hid ((hy.below (below_dr w2)).more (below_dr w2).size)
  have HR0 := Lib.hid ((HR2.out.below (below_dr w2)).more (below_dr w2).size)
  have hadd : ad.block < w2.drew.heap.size := hadb
  have HB0 := Lib.hid hB2
  have HADD := Lib.hid hadd
  have HSA := Lib.hid hsa; clear hsa
  have HSB := Lib.hid hsb; clear hsb
  clear hb2 HLI HBW c0 c1 c2' c3 d0 d1 d2 d3 hx hy HR2 hadb hB2 hadd
  go_wp2
  refine wp_region_U (fun W => cells8 W ad A na ca sa M nm cm E ne ce A' na' ca' sb M' nm' cm' E' ne' ce') (fun _ => True) 12 (by kernel_rfl) ?_
  change anyU _ _ _ _ _ _ _ 13 _ _ _
  have hB0 : True := trivial
  generalize hwd : w2.drew = wd at hA0 HX0 HY0 HR0 HADD HB0 ⊢
  have HWD := Lib.hid hwd; clear hwd
  ((refine uTake (i := 0) (v := ?_) rfl (by kernel_rfl) (fun _ _ _ h => h) (by rfl) (fun W hA hB => ?_) ⟨hA0, fun _ => hB0⟩ ?_; rotate_left; (· (clear hB; (try dsimp only at hA); go_simp; try with_reducible rfl)); (try simp only [Act.put, List.setIfInBounds_toArray, List.set_cons_zero, List.set_cons_succ])); (refine uTake (i := 1) (v := ?_) rfl (by kernel_rfl) (fun _ _ _ h => h) (by rfl) (fun W hA hB => ?_) ⟨hA0, fun _ => hB0⟩ ?_; rotate_left; (· (clear hB; (try dsimp only at hA); go_simp; try with_reducible rfl)); (try simp only [Act.put, List.setIfInBounds_toArray, List.set_cons_zero, List.set_cons_succ])))
  ((refine uTake (i := 2) (v := ?_) rfl (by kernel_rfl) (fun _ _ _ h => h) (by rfl) (fun W hA hB => ?_) ⟨hA0, fun _ => hB0⟩ ?_; rotate_left; (· (clear hB; (try dsimp only at hA); obtain ⟨a0, a1, a2, a3, a4, a5, a6, a7⟩ := hA; go_simp; try with_reducible rfl)); (try simp only [Act.put, List.setIfInBounds_toArray, List.set_cons_zero, List.set_cons_succ])))
  ((refine uTake (i := 3) (v := ?_) rfl (by kernel_rfl) (fun _ _ _ h => h) (by rfl) (fun W hA hB => ?_) ⟨hA0, fun _ => hB0⟩ ?_; rotate_left; (· (clear hB; (try dsimp only at hA); go_simp; try with_reducible rfl)); (try simp only [Act.put, List.setIfInBounds_toArray, List.set_cons_zero, List.set_cons_succ])); (refine uTake (i := 4) (v := ?_) rfl (by kernel_rfl) (fun _ _ _ h => h) (by rfl) (fun W hA hB => ?_) ⟨hA0, fun _ => hB0⟩ ?_; rotate_left; (· (clear hB; (try dsimp only at hA); go_simp; try with_reducible rfl)); (try simp only [Act.put, List.setIfInBounds_toArray, List.set_cons_zero, List.set_cons_succ])))
  ((refine uTake (i := 5) (v := ?_) rfl (by kernel_rfl) (fun _ _ _ h => h) (by rfl) (fun W hA hB => ?_) ⟨hA0, fun _ => hB0⟩ ?_; rotate_left; (· (clear hB; (try dsimp only at hA); obtain ⟨a0, a1, a2, a3, a4, a5, a6, a7⟩ := hA; go_simp; try with_reducible rfl)); (try simp only [Act.put, List.setIfInBounds_toArray, List.set_cons_zero, List.set_cons_succ])))
  have HF := Lib.hid (few_of (l := [ptA p, ptA q]) (fun z hz => by
    rcases List.mem_cons.1 hz with rfl | hz
    · exact ptA_sm HP.out
    · obtain rfl := List.mem_singleton.1 hz; exact ptA_sm HQQ.out) (by simp))
  obtain ⟨r, T, hrT⟩ := HF.out.syn
  obtain ⟨sr, hsr⟩ : ∃ s, r.st = s := ⟨_, rfl⟩
  have HRT := Lib.hid hrT; clear hrT
  have HSR := Lib.hid hsr; clear hsr
  have hbz := box_below wd (.cells #[.slice none 0 0, .int .i64 0, .slice none 0 0, .slice none 0 0] 29)
  have HB2 := Lib.hid (HB0.out.trans (hbz.mono HB0.out.size))
  have hA2 := cells8_to hA0 hbz HADD.out
  have HX2 := Lib.hid ((HX0.out.below hbz).more hbz.size)
  have HY2 := Lib.hid ((HY0.out.below hbz).more hbz.size)
  have HR2 := Lib.hid ((HR0.out.below hbz).more hbz.size)
  have kZ : Blk (wd.alloc (.cells #[.slice none 0 0, .int .i64 0, .slice none 0 0, .slice none 0 0] 29)) wd.heap.size 29 [.slice none 0 0, .int .i64 0, .slice none 0 0, .slice none 0 0] := Blk.new _ _ _
  have KZ := Lib.hid kZ; clear kZ
  clear hbz
  have HME := Lib.hid (meet_yes A M E A' M' E' na ca nm cm ne ce na' ca' nm' cm' ne' ce' (ptA p) (ptA q) r T wd HX0.out HY0.out HF.out HN.out HRT.out)
  have HMF := Lib.hid (meet_yes A M E A' M' E' na ca nm cm ne ce na' ca' nm' cm' ne' ce' (ptA p) (ptA q) r T _ HX2.out HY2.out HF.out HN.out HRT.out)
  rw [HSA.out, HSB.out] at HME HMF
  refine uTwo (i := 6) (j := 10) rfl rfl (by kernel_rfl) (fun K hK => ?_) (fun K hK => ?_)
  · go_simp
    go_at_call 22
    refine HME.out.mono ?_
    rintro e w3 ⟨hb3, A3, na3, ca3, M3, nm3, cm3, E3, ne3, ce3, rfl, ha3, hfr3⟩
    rw [HSR.out]
    have HA9 := Lib.hid ((ha3.below (box_below w3 (.cells #[.slice A3 na3 ca3, .int .i64 sr, .slice M3 nm3 cm3, .slice E3 ne3 ce3] 29))).more (box_below w3 (.cells #[.slice A3 na3 ca3, .int .i64 sr, .slice M3 nm3 cm3, .slice E3 ne3 ce3] 29)).size)
    clear ha3 hfr3
    have hA3 := cells8_to hA0 hb3 HADD.out
    have hB3 := HB0.out.trans (hb3.mono HB0.out.size)
    have hX3 := (HX0.out.below hb3).more hb3.size
    have hY3 := (HY0.out.below hb3).more hb3.size
    have hR3 := (HR0.out.below hb3).more hb3.size
    have had3 : ad.block < w3.heap.size := Nat.lt_of_lt_of_le HADD.out hb3.size
    have hb4 := box_below w3 (.cells #[.slice none 0 0, .int .i64 0, .slice none 0 0, .slice none 0 0] 29)
    have hb5 := box_below w3 (.cells #[.slice A3 na3 ca3, .int .i64 sr, .slice M3 nm3 cm3, .slice E3 ne3 ce3] 29)
    have hA4 := cells8_to hA3 hb4 had3
    have hA5 := cells8_to hA3 hb5 had3
    have k9 : Blk (w3.alloc (.cells #[.slice A3 na3 ca3, .int .i64 sr, .slice M3 nm3 cm3, .slice E3 ne3 ce3] 29)) w3.heap.size 29 [.slice A3 na3 ca3, .int .i64 sr, .slice M3 nm3 cm3, .slice E3 ne3 ce3] := Blk.new _ _ _
    have HX9 := Lib.hid ((hX3.below hb5).more hb5.size)
    have HY9 := Lib.hid ((hY3.below hb5).more hb5.size)
    have HR9 := Lib.hid ((hR3.below hb5).more hb5.size)
    have HB9 := Lib.hid (hB3.trans (hb5.mono hB3.size))
    have K9 := Lib.hid k9; clear k9
    clear hb3 hb4 hb5 hX3 hY3 hR3 hB3 had3 hA0 HX0 HY0 HR0 HB0 HADD HX2 HY2 HR2 HB2 hA2 KZ
    (refine hK _ _ ⟨hA3, fun _ => hB0⟩ ?_; clear hK K; (try simp only [Act.put, List.setIfInBounds_toArray, List.set_cons_zero, List.set_cons_succ]))
    have hA0 := hA3
    ((refine uTake (i := 7) (v := ?_) rfl (by kernel_rfl) (fun _ _ _ h => h) (by rfl) (fun W hA hB => ?_) ⟨hA0, fun _ => hB0⟩ ?_; rotate_left; (· (clear hB; (try dsimp only at hA); go_simp; try with_reducible rfl)); (try simp only [Act.put, List.setIfInBounds_toArray, List.set_cons_zero, List.set_cons_succ])); (refine uTake (i := 8) (v := ?_) rfl (by kernel_rfl) (fun _ _ _ h => h) (by rfl) (fun W hA hB => ?_) ⟨hA0, fun _ => hB0⟩ ?_; rotate_left; (· (clear hB; (try dsimp only at hA); go_simp; try with_reducible rfl)); (try simp only [Act.put, List.setIfInBounds_toArray, List.set_cons_zero, List.set_cons_succ])); (refine uTake (i := 9) (v := ?_) rfl (by kernel_rfl) (fun _ _ _ h => h) (by rfl) (fun W hA hB => ?_) ⟨hA0, fun _ => hB0⟩ ?_; rotate_left; (· (clear hB; (try dsimp only at hA); go_simp; try with_reducible rfl)); (try simp only [Act.put, List.setIfInBounds_toArray, List.set_cons_zero, List.set_cons_succ])))
    refine uOne (i := 10) rfl (by kernel_rfl) (fun K hK => ?_)
    go_simp
    (refine hK _ _ ⟨hA4, fun _ => hB0⟩ ?_; clear hK K; (try simp only [Act.put, List.setIfInBounds_toArray, List.set_cons_zero, List.set_cons_succ]))
    refine uOne (i := 11) rfl (by kernel_rfl) (fun K hK => ?_)
    go_simp
    (refine hK _ _ ⟨hA5, fun _ => hB0⟩ ?_; clear hK K; (try simp only [Act.put, List.setIfInBounds_toArray, List.set_cons_zero, List.set_cons_succ]))
    refine uOne (i := 12) rfl (by kernel_rfl) (fun K hK => ?_)
    go_simp
    (refine hK _ _ ⟨hA5, fun _ => hB0⟩ ?_; clear hK K; (try simp only [Act.put, List.setIfInBounds_toArray, List.set_cons_zero, List.set_cons_succ]))
    refine anyU_done (by kernel_rfl) ?_ _
    clear hA0 hA3 hA4
    obtain ⟨w9, hw9⟩ : ∃ w9, w9 = (w3.alloc (.cells #[.slice A3 na3 ca3, .int .i64 sr, .slice M3 nm3 cm3, .slice E3 ne3 ce3] 29)) := ⟨_, rfl⟩
    rw [← hw9] at hA5 HX9 HY9 HR9 HB9 K9 ⊢
    (try rw [← hw9] at HA9)
    have HW9 := Lib.hid hw9; clear hw9
    go_wp2
    refine wp_region_U (fun W => cells8 W ad A na ca sa M nm cm E ne ce A' na' ca' sb M' nm' cm' E' ne' ce') (fun _ => True) 9 (by kernel_rfl) ?_
    change anyU _ _ _ _ _ _ _ 10 _ _ _
    have hA0 : cells8 w9.drew ad A na ca sa M nm cm E ne ce A' na' ca' sb M' nm' cm' E' ne' ce' := hA5
    have hbd := below_dr w9
    have HX := Lib.hid ((HX9.out.below hbd).more hbd.size)
    have HY := Lib.hid ((HY9.out.below hbd).more hbd.size)
    have HR := Lib.hid ((HR9.out.below hbd).more hbd.size)
    have HB := Lib.hid (HB9.out.trans (hbd.mono HB9.out.size))
    have KK := Lib.hid (K9.out.below hbd K9.out.lt)
    (try have HA := Lib.hid ((HA9.out.below hbd).more hbd.size))
    (try clear HA9)
    have HADR := Lib.hid (hbd.size)
    clear hA5 HX9 HY9 HR9 HB9 K9 hbd
    generalize hwt : w9.drew = wt at hA0 HX HY HR HB KK HADR HA ⊢
    have HWT := Lib.hid hwt; clear hwt
    ((refine uTake (i := 0) (v := ?_) rfl (by kernel_rfl) (fun _ _ _ h => h) (by rfl) (fun W hA hB => ?_) ⟨hA0, fun _ => hB0⟩ ?_; rotate_left; (· (clear hB; (try dsimp only at hA); go_simp; try with_reducible rfl)); (try simp only [Act.put, List.setIfInBounds_toArray, List.set_cons_zero, List.set_cons_succ])); (refine uTake (i := 1) (v := ?_) rfl (by kernel_rfl) (fun _ _ _ h => h) (by rfl) (fun W hA hB => ?_) ⟨hA0, fun _ => hB0⟩ ?_; rotate_left; (· (clear hB; (try dsimp only at hA); go_simp; try with_reducible rfl)); (try simp only [Act.put, List.setIfInBounds_toArray, List.set_cons_zero, List.set_cons_succ])); (refine uTake (i := 2) (v := ?_) rfl (by kernel_rfl) (fun _ _ _ h => h) (by rfl) (fun W hA hB => ?_) ⟨hA0, fun _ => hB0⟩ ?_; rotate_left; (· (clear hB; (try dsimp only at hA); go_simp; try with_reducible rfl)); (try simp only [Act.put, List.setIfInBounds_toArray, List.set_cons_zero, List.set_cons_succ])))
    ((refine uTake (i := 3) (v := ?_) rfl (by kernel_rfl) (fun _ _ _ h => h) (by rfl) (fun W hA hB => ?_) ⟨hA0, fun _ => hB0⟩ ?_; rotate_left; (· (clear hB; (try dsimp only at hA); obtain ⟨a0, a1, a2, a3, a4, a5, a6, a7⟩ := hA; go_simp; try with_reducible rfl)); (try simp only [Act.put, List.setIfInBounds_toArray, List.set_cons_zero, List.set_cons_succ])))
    ((refine uTake (i := 4) (v := ?_) rfl (by kernel_rfl) (fun _ _ _ h => h) (by rfl) (fun W hA hB => ?_) ⟨hA0, fun _ => hB0⟩ ?_; rotate_left; (· (clear hB; (try dsimp only at hA); go_simp; try with_reducible rfl)); (try simp only [Act.put, List.setIfInBounds_toArray, List.set_cons_zero, List.set_cons_succ])); (refine uTake (i := 5) (v := ?_) rfl (by kernel_rfl) (fun _ _ _ h => h) (by rfl) (fun W hA hB => ?_) ⟨hA0, fun _ => hB0⟩ ?_; rotate_left; (· (clear hB; (try dsimp only at hA); go_simp; try with_reducible rfl)); (try simp only [Act.put, List.setIfInBounds_toArray, List.set_cons_zero, List.set_cons_succ])); (refine uTake (i := 6) (v := ?_) rfl (by kernel_rfl) (fun _ _ _ h => h) (by rfl) (fun W hA hB => ?_) ⟨hA0, fun _ => hB0⟩ ?_; rotate_left; (· (clear hB; (try dsimp only at hA); go_simp; try with_reducible rfl)); (try simp only [Act.put, List.setIfInBounds_toArray, List.set_cons_zero, List.set_cons_succ])))
    ((refine uTake (i := 7) (v := ?_) rfl (by kernel_rfl) (fun _ _ _ h => h) (by rfl) (fun W hA hB => ?_) ⟨hA0, fun _ => hB0⟩ ?_; rotate_left; (· (clear hB; (try dsimp only at hA); obtain ⟨a0, a1, a2, a3, a4, a5, a6, a7⟩ := hA; go_simp; try with_reducible rfl)); (try simp only [Act.put, List.setIfInBounds_toArray, List.set_cons_zero, List.set_cons_succ])))
    have HSM := Lib.hid (law_same_n A A' ca ca' na na' _ _ true wt HX.out.la HY.out.la HN.out HX.out.ra HX.out.ac HX.out.cA HY.out.ra)
    refine uOne (i := 8) rfl (by kernel_rfl) (fun K hK => ?_)
    go_simp
    go_at_call 21
    refine HSM.out.mono ?_
    rintro e wv ⟨rfl, m, hm⟩
    have hbv : Below wt.heap.size wt wv := by rw [hm]; exact below_drewN (Below.refl _ _) m
    have hAv : cells8 wv ad A na ca sa M nm cm E ne ce A' na' ca' sb M' nm' cm' E' ne' ce' := by rw [hm]; exact hA0
    clear hm
    (refine hK _ _ ⟨hAv, fun _ => hB0⟩ ?_; clear hK K; (try simp only [Act.put, List.setIfInBounds_toArray, List.set_cons_zero, List.set_cons_succ]))
    refine uOne (i := 9) rfl (by kernel_rfl) (fun K hK => ?_)
    go_simp
    (refine hK _ _ ⟨hAv, fun _ => hB0⟩ ?_; clear hK K; (try simp only [Act.put, List.setIfInBounds_toArray, List.set_cons_zero, List.set_cons_succ]))
    refine anyU_done (by kernel_rfl) ?_ _
    clear hAv hA0
    have KV := Lib.hid (KK.out.below hbv KK.out.lt)
    (try have HAV := Lib.hid ((HA.out.below hbv).more hbv.size))
    have HXV := Lib.hid ((HX.out.below hbv).more hbv.size)
    have HYV := Lib.hid ((HY.out.below hbv).more hbv.size)
    have HRV := Lib.hid ((HR.out.below hbv).more hbv.size)
    have HBV := Lib.hid (HB.out.trans (hbv.mono HB.out.size))
    clear KK HX HY HR HB HSM
    have HRS := Lib.hid (ref_Synchronous (some ad) c2 2 xs wv HL2.out HRV.out hc1 hc2 (by omega) (by rw [HM2.out]; exact HF.out.wf) (by rw [HM2.out]; exact HF.out.nm))
    rw [HM2.out, show lstA [p, q] = [ptA p, ptA q] from rfl, HRT.out] at HRS
    clear hbv
    go_wp2_with fail
    refine HRS.out.mono ?_
    rintro e w5 ⟨hb5, a2, T2, haT2, A5, na5, ca5, M5, nm5, cm5, E5, ne5, ce5, B5, nb5, cb5, ts5, rfl, haO, _, _, _, _, _⟩
    injection haT2 with haT2
    injection haT2 with h1 h2
    subst h1 h2
    rw [HSR.out]
    have hb5a := box_below w5 (.cells #[.slice A5 na5 ca5, .int .i64 sr, .slice M5 nm5 cm5, .slice E5 ne5 ce5] 29)
    have hb5c := hb5.trans (hb5a.mono hb5.size)
    have hB5 := HBV.out.trans (hb5c.mono HBV.out.size)
    have k5 : Blk (w5.alloc (.cells #[.slice A5 na5 ca5, .int .i64 sr, .slice M5 nm5 cm5, .slice E5 ne5 ce5] 29)) w5.heap.size 29 [.slice A5 na5 ca5, .int .i64 sr, .slice M5 nm5 cm5, .slice E5 ne5 ce5] := Blk.new _ _ _
    have k8 := KV.out.below hb5c KV.out.lt
    have hA5' := (HAV.out.below hb5c).more hb5c.size
    have hE5 := (haO.rd.below hb5a).more hb5a.size
    have f30 : (w5.alloc (.cells #[.slice A5 na5 ca5, .int .i64 sr, .slice M5 nm5 cm5, .slice E5 ne5 ce5] 29)).cell? ⟨w3.heap.size, 0, none⟩ = some (.slice A3 na3 ca3) := k8.cell (j := 0) rfl
    have f31 : (w5.alloc (.cells #[.slice A5 na5 ca5, .int .i64 sr, .slice M5 nm5 cm5, .slice E5 ne5 ce5] 29)).cell? ⟨w3.heap.size, 1, none⟩ = some (.int .i64 sr) := k8.cell (j := 1) rfl
    have f32 : (w5.alloc (.cells #[.slice A5 na5 ca5, .int .i64 sr, .slice M5 nm5 cm5, .slice E5 ne5 ce5] 29)).cell? ⟨w3.heap.size, 2, none⟩ = some (.slice M3 nm3 cm3) := k8.cell (j := 2) rfl
    have f33 : (w5.alloc (.cells #[.slice A5 na5 ca5, .int .i64 sr, .slice M5 nm5 cm5, .slice E5 ne5 ce5] 29)).cell? ⟨w3.heap.size, 3, none⟩ = some (.slice E3 ne3 ce3) := k8.cell (j := 3) rfl
    have f50 : (w5.alloc (.cells #[.slice A5 na5 ca5, .int .i64 sr, .slice M5 nm5 cm5, .slice E5 ne5 ce5] 29)).cell? ⟨w5.heap.size, 0, none⟩ = some (.slice A5 na5 ca5) := k5.cell (j := 0) rfl
    have f51 : (w5.alloc (.cells #[.slice A5 na5 ca5, .int .i64 sr, .slice M5 nm5 cm5, .slice E5 ne5 ce5] 29)).cell? ⟨w5.heap.size, 1, none⟩ = some (.int .i64 sr) := k5.cell (j := 1) rfl
    have f52 : (w5.alloc (.cells #[.slice A5 na5 ca5, .int .i64 sr, .slice M5 nm5 cm5, .slice E5 ne5 ce5] 29)).cell? ⟨w5.heap.size, 2, none⟩ = some (.slice M5 nm5 cm5) := k5.cell (j := 2) rfl
    have f53 : (w5.alloc (.cells #[.slice A5 na5 ca5, .int .i64 sr, .slice M5 nm5 cm5, .slice E5 ne5 ce5] 29)).cell? ⟨w5.heap.size, 3, none⟩ = some (.slice E5 ne5 ce5) := k5.cell (j := 3) rfl
    have HQ1 := Lib.hid (automaton_Equal A3 M3 E3 A5 M5 E5 na3 ca3 nm3 cm3 ne3 ce3 na5 ca5 nm5 cm5 ne5 ce5 r r true (w5.alloc (.cells #[.slice A5 na5 ca5, .int .i64 sr, .slice M5 nm5 cm5, .slice E5 ne5 ce5] 29)) (eqA_of rfl) hA5' hE5)
    rw [HSR.out] at HQ1
    have HB5 := Lib.hid hB5; clear hB5
    clear hb5 hb5a hb5c k5 k8 hA5' hE5 haO HRS HBV HAV KV HXV HYV HRV
    go_wp2_with fail
    refine HQ1.out.mono ?_
    rintro e wx ⟨rfl, hbx⟩
    go_wp2
    go_ret
    exact ⟨rfl, HB5.out.trans (hbx.mono HB5.out.size)⟩
  · go_simp
    (refine hK _ _ ⟨hA2, fun _ => hB0⟩ ?_; clear hK K; (try simp only [Act.put, List.setIfInBounds_toArray, List.set_cons_zero, List.set_cons_succ]))
    refine uOne (i := 6) rfl (by kernel_rfl) (fun K hK => ?_)
    go_simp
    go_at_call 22
    refine HMF.out.mono ?_
    rintro e w3 ⟨hb3, A3, na3, ca3, M3, nm3, cm3, E3, ne3, ce3, rfl, ha3, hfr3⟩
    rw [HSR.out]
    have hg3 : w3.grownBy ((((w3.setCell ⟨wd.heap.size, 0, none⟩ (.slice A3 na3 ca3)).setCell ⟨wd.heap.size, 1, none⟩ (.int .i64 sr)).setCell ⟨wd.heap.size, 2, none⟩ (.slice M3 nm3 cm3)).setCell ⟨wd.heap.size, 3, none⟩ (.slice E3 ne3 ce3)) (some wd.heap.size) := (((grown_setCell _ _ _ _).trans (grown_setCell _ _ _ _)).trans (grown_setCell _ _ _ _)).trans (grown_setCell _ _ _ _)
    have HA9 := Lib.hid ((ha3.keepF (r := wd.heap.size) (Fr3.mono hfr3 (by simp)) fun p h1 h2 => World.cell?_of_block (hg3.block _ h1 (by intro e; injection e with e; omega))).more hg3.size)
    clear ha3 hfr3 hg3
    have hb13 := (box_below wd (.cells #[.slice none 0 0, .int .i64 0, .slice none 0 0, .slice none 0 0] 29)).trans (hb3.mono (box_below wd (.cells #[.slice none 0 0, .int .i64 0, .slice none 0 0, .slice none 0 0] 29)).size)
    have hbT : Below wd.heap.size wd ((((w3.setCell ⟨wd.heap.size, 0, none⟩ (.slice A3 na3 ca3)).setCell ⟨wd.heap.size, 1, none⟩ (.int .i64 sr)).setCell ⟨wd.heap.size, 2, none⟩ (.slice M3 nm3 cm3)).setCell ⟨wd.heap.size, 3, none⟩ (.slice E3 ne3 ce3)) := (((hb13.setCell (p := ⟨wd.heap.size, 0, none⟩) (Nat.le_refl _) _).setCell (p := ⟨wd.heap.size, 1, none⟩) (Nat.le_refl _) _).setCell (p := ⟨wd.heap.size, 2, none⟩) (Nat.le_refl _) _).setCell (p := ⟨wd.heap.size, 3, none⟩) (Nat.le_refl _) _
    have kZ3 := KZ.out.below hb3 KZ.out.lt
    have f0 := kZ3.free 0
    have f1 := kZ3.free 1
    have f2 := kZ3.free 2
    have f3 := kZ3.free 3
    have e0 := kZ3.cell (j := 0) rfl
    have e1 := kZ3.cell (j := 1) rfl
    have e2 := kZ3.cell (j := 2) rfl
    have e3 := kZ3.cell (j := 3) rfl
    have l3 : wd.heap.size < w3.heap.size := kZ3.lt
    have k9 : Blk ((((w3.setCell ⟨wd.heap.size, 0, none⟩ (.slice A3 na3 ca3)).setCell ⟨wd.heap.size, 1, none⟩ (.int .i64 sr)).setCell ⟨wd.heap.size, 2, none⟩ (.slice M3 nm3 cm3)).setCell ⟨wd.heap.size, 3, none⟩ (.slice E3 ne3 ce3)) wd.heap.size 29 [.slice A3 na3 ca3, .int .i64 sr, .slice M3 nm3 cm3, .slice E3 ne3 ce3] := (((kZ3.set (j := 0) (by simp) _).set (j := 1) (by simp) _).set (j := 2) (by simp) _).set (j := 3) (by simp) _
    have hA3 := cells8_to hA0 hb13 HADD.out
    have hA5 := cells8_to hA0 hbT HADD.out
    have HX9 := Lib.hid ((HX0.out.below hbT).more hbT.size)
    have HY9 := Lib.hid ((HY0.out.below hbT).more hbT.size)
    have HR9 := Lib.hid ((HR0.out.below hbT).more hbT.size)
    have HB9 := Lib.hid (HB0.out.trans (hbT.mono HB0.out.size))
    have K9 := Lib.hid k9; clear k9
    clear hb3 hbT hb13 kZ3 hA0 HX0 HY0 HR0 HB0 HADD HX2 HY2 HR2 HB2 hA2 KZ
    (refine hK _ _ ⟨hA3, fun _ => hB0⟩ ?_; clear hK K; (try simp only [Act.put, List.setIfInBounds_toArray, List.set_cons_zero, List.set_cons_succ]))
    have hA0 := hA3
    ((refine uTake (i := 7) (v := ?_) rfl (by kernel_rfl) (fun _ _ _ h => h) (by rfl) (fun W hA hB => ?_) ⟨hA0, fun _ => hB0⟩ ?_; rotate_left; (· (clear hB; (try dsimp only at hA); go_simp; try with_reducible rfl)); (try simp only [Act.put, List.setIfInBounds_toArray, List.set_cons_zero, List.set_cons_succ])); (refine uTake (i := 8) (v := ?_) rfl (by kernel_rfl) (fun _ _ _ h => h) (by rfl) (fun W hA hB => ?_) ⟨hA0, fun _ => hB0⟩ ?_; rotate_left; (· (clear hB; (try dsimp only at hA); go_simp; try with_reducible rfl)); (try simp only [Act.put, List.setIfInBounds_toArray, List.set_cons_zero, List.set_cons_succ])); (refine uTake (i := 9) (v := ?_) rfl (by kernel_rfl) (fun _ _ _ h => h) (by rfl) (fun W hA hB => ?_) ⟨hA0, fun _ => hB0⟩ ?_; rotate_left; (· (clear hB; (try dsimp only at hA); go_simp; try with_reducible rfl)); (try simp only [Act.put, List.setIfInBounds_toArray, List.set_cons_zero, List.set_cons_succ])))
    refine uOne (i := 11) rfl (by kernel_rfl) (fun K hK => ?_)
    go_simp
    (refine hK _ _ ⟨hA5, fun _ => hB0⟩ ?_; clear hK K; (try simp only [Act.put, List.setIfInBounds_toArray, List.set_cons_zero, List.set_cons_succ]))
    refine uOne (i := 12) rfl (by kernel_rfl) (fun K hK => ?_)
    go_simp
    (refine hK _ _ ⟨hA5, fun _ => hB0⟩ ?_; clear hK K; (try simp only [Act.put, List.setIfInBounds_toArray, List.set_cons_zero, List.set_cons_succ]))
    refine anyU_done (by kernel_rfl) ?_ _
    clear hA0 hA3 f0 f1 f2 f3 e0 e1 e2 e3
    obtain ⟨w9, hw9⟩ : ∃ w9, w9 = ((((w3.setCell ⟨wd.heap.size, 0, none⟩ (.slice A3 na3 ca3)).setCell ⟨wd.heap.size, 1, none⟩ (.int .i64 sr)).setCell ⟨wd.heap.size, 2, none⟩ (.slice M3 nm3 cm3)).setCell ⟨wd.heap.size, 3, none⟩ (.slice E3 ne3 ce3)) := ⟨_, rfl⟩
    rw [← hw9] at hA5 HX9 HY9 HR9 HB9 K9 ⊢
    (try rw [← hw9] at HA9)
    have HW9 := Lib.hid hw9; clear hw9
    go_wp2
    refine wp_region_U (fun W => cells8 W ad A na ca sa M nm cm E ne ce A' na' ca' sb M' nm' cm' E' ne' ce') (fun _ => True) 9 (by kernel_rfl) ?_
    change anyU _ _ _ _ _ _ _ 10 _ _ _
    have hA0 : cells8 w9.drew ad A na ca sa M nm cm E ne ce A' na' ca' sb M' nm' cm' E' ne' ce' := hA5
    have hbd := below_dr w9
    have HX := Lib.hid ((HX9.out.below hbd).more hbd.size)
    have HY := Lib.hid ((HY9.out.below hbd).more hbd.size)
    have HR := Lib.hid ((HR9.out.below hbd).more hbd.size)
    have HB := Lib.hid (HB9.out.trans (hbd.mono HB9.out.size))
    have KK := Lib.hid (K9.out.below hbd K9.out.lt)
    (try have HA := Lib.hid ((HA9.out.below hbd).more hbd.size))
    (try clear HA9)
    have HADR := Lib.hid (hbd.size)
    clear hA5 HX9 HY9 HR9 HB9 K9 hbd
    generalize hwt : w9.drew = wt at hA0 HX HY HR HB KK HADR HA ⊢
    have HWT := Lib.hid hwt; clear hwt
    ((refine uTake (i := 0) (v := ?_) rfl (by kernel_rfl) (fun _ _ _ h => h) (by rfl) (fun W hA hB => ?_) ⟨hA0, fun _ => hB0⟩ ?_; rotate_left; (· (clear hB; (try dsimp only at hA); go_simp; try with_reducible rfl)); (try simp only [Act.put, List.setIfInBounds_toArray, List.set_cons_zero, List.set_cons_succ])); (refine uTake (i := 1) (v := ?_) rfl (by kernel_rfl) (fun _ _ _ h => h) (by rfl) (fun W hA hB => ?_) ⟨hA0, fun _ => hB0⟩ ?_; rotate_left; (· (clear hB; (try dsimp only at hA); go_simp; try with_reducible rfl)); (try simp only [Act.put, List.setIfInBounds_toArray, List.set_cons_zero, List.set_cons_succ])); (refine uTake (i := 2) (v := ?_) rfl (by kernel_rfl) (fun _ _ _ h => h) (by rfl) (fun W hA hB => ?_) ⟨hA0, fun _ => hB0⟩ ?_; rotate_left; (· (clear hB; (try dsimp only at hA); go_simp; try with_reducible rfl)); (try simp only [Act.put, List.setIfInBounds_toArray, List.set_cons_zero, List.set_cons_succ])))
    ((refine uTake (i := 3) (v := ?_) rfl (by kernel_rfl) (fun _ _ _ h => h) (by rfl) (fun W hA hB => ?_) ⟨hA0, fun _ => hB0⟩ ?_; rotate_left; (· (clear hB; (try dsimp only at hA); obtain ⟨a0, a1, a2, a3, a4, a5, a6, a7⟩ := hA; go_simp; try with_reducible rfl)); (try simp only [Act.put, List.setIfInBounds_toArray, List.set_cons_zero, List.set_cons_succ])))
    ((refine uTake (i := 4) (v := ?_) rfl (by kernel_rfl) (fun _ _ _ h => h) (by rfl) (fun W hA hB => ?_) ⟨hA0, fun _ => hB0⟩ ?_; rotate_left; (· (clear hB; (try dsimp only at hA); go_simp; try with_reducible rfl)); (try simp only [Act.put, List.setIfInBounds_toArray, List.set_cons_zero, List.set_cons_succ])); (refine uTake (i := 5) (v := ?_) rfl (by kernel_rfl) (fun _ _ _ h => h) (by rfl) (fun W hA hB => ?_) ⟨hA0, fun _ => hB0⟩ ?_; rotate_left; (· (clear hB; (try dsimp only at hA); go_simp; try with_reducible rfl)); (try simp only [Act.put, List.setIfInBounds_toArray, List.set_cons_zero, List.set_cons_succ])); (refine uTake (i := 6) (v := ?_) rfl (by kernel_rfl) (fun _ _ _ h => h) (by rfl) (fun W hA hB => ?_) ⟨hA0, fun _ => hB0⟩ ?_; rotate_left; (· (clear hB; (try dsimp only at hA); go_simp; try with_reducible rfl)); (try simp only [Act.put, List.setIfInBounds_toArray, List.set_cons_zero, List.set_cons_succ])))
    ((refine uTake (i := 7) (v := ?_) rfl (by kernel_rfl) (fun _ _ _ h => h) (by rfl) (fun W hA hB => ?_) ⟨hA0, fun _ => hB0⟩ ?_; rotate_left; (· (clear hB; (try dsimp only at hA); obtain ⟨a0, a1, a2, a3, a4, a5, a6, a7⟩ := hA; go_simp; try with_reducible rfl)); (try simp only [Act.put, List.setIfInBounds_toArray, List.set_cons_zero, List.set_cons_succ])))
    have HSM := Lib.hid (law_same_n A A' ca ca' na na' _ _ true wt HX.out.la HY.out.la HN.out HX.out.ra HX.out.ac HX.out.cA HY.out.ra)
    refine uOne (i := 8) rfl (by kernel_rfl) (fun K hK => ?_)
    go_simp
    go_at_call 21
    refine HSM.out.mono ?_
    rintro e wv ⟨rfl, m, hm⟩
    have hbv : Below wt.heap.size wt wv := by rw [hm]; exact below_drewN (Below.refl _ _) m
    have hAv : cells8 wv ad A na ca sa M nm cm E ne ce A' na' ca' sb M' nm' cm' E' ne' ce' := by rw [hm]; exact hA0
    clear hm
    (refine hK _ _ ⟨hAv, fun _ => hB0⟩ ?_; clear hK K; (try simp only [Act.put, List.setIfInBounds_toArray, List.set_cons_zero, List.set_cons_succ]))
    refine uOne (i := 9) rfl (by kernel_rfl) (fun K hK => ?_)
    go_simp
    (refine hK _ _ ⟨hAv, fun _ => hB0⟩ ?_; clear hK K; (try simp only [Act.put, List.setIfInBounds_toArray, List.set_cons_zero, List.set_cons_succ]))
    refine anyU_done (by kernel_rfl) ?_ _
    clear hAv hA0
    have KV := Lib.hid (KK.out.below hbv KK.out.lt)
    (try have HAV := Lib.hid ((HA.out.below hbv).more hbv.size))
    have HXV := Lib.hid ((HX.out.below hbv).more hbv.size)
    have HYV := Lib.hid ((HY.out.below hbv).more hbv.size)
    have HRV := Lib.hid ((HR.out.below hbv).more hbv.size)
    have HBV := Lib.hid (HB.out.trans (hbv.mono HB.out.size))
    clear KK HX HY HR HB HSM
    have HRS := Lib.hid (ref_Synchronous (some ad) c2 2 xs wv HL2.out HRV.out hc1 hc2 (by omega) (by rw [HM2.out]; exact HF.out.wf) (by rw [HM2.out]; exact HF.out.nm))
    rw [HM2.out, show lstA [p, q] = [ptA p, ptA q] from rfl, HRT.out] at HRS
    clear hbv
    go_wp2_with fail
    refine HRS.out.mono ?_
    rintro e w5 ⟨hb5, a2, T2, haT2, A5, na5, ca5, M5, nm5, cm5, E5, ne5, ce5, B5, nb5, cb5, ts5, rfl, haO, _, _, _, _, _⟩
    injection haT2 with haT2
    injection haT2 with h1 h2
    subst h1 h2
    rw [HSR.out]
    have hb5a := box_below w5 (.cells #[.slice A5 na5 ca5, .int .i64 sr, .slice M5 nm5 cm5, .slice E5 ne5 ce5] 29)
    have hb5c := hb5.trans (hb5a.mono hb5.size)
    have hB5 := HBV.out.trans (hb5c.mono HBV.out.size)
    have k5 : Blk (w5.alloc (.cells #[.slice A5 na5 ca5, .int .i64 sr, .slice M5 nm5 cm5, .slice E5 ne5 ce5] 29)) w5.heap.size 29 [.slice A5 na5 ca5, .int .i64 sr, .slice M5 nm5 cm5, .slice E5 ne5 ce5] := Blk.new _ _ _
    have k8 := KV.out.below hb5c KV.out.lt
    have hA5' := (HAV.out.below hb5c).more hb5c.size
    have hE5 := (haO.rd.below hb5a).more hb5a.size
    have f30 : (w5.alloc (.cells #[.slice A5 na5 ca5, .int .i64 sr, .slice M5 nm5 cm5, .slice E5 ne5 ce5] 29)).cell? ⟨wd.heap.size, 0, none⟩ = some (.slice A3 na3 ca3) := k8.cell (j := 0) rfl
    have f31 : (w5.alloc (.cells #[.slice A5 na5 ca5, .int .i64 sr, .slice M5 nm5 cm5, .slice E5 ne5 ce5] 29)).cell? ⟨wd.heap.size, 1, none⟩ = some (.int .i64 sr) := k8.cell (j := 1) rfl
    have f32 : (w5.alloc (.cells #[.slice A5 na5 ca5, .int .i64 sr, .slice M5 nm5 cm5, .slice E5 ne5 ce5] 29)).cell? ⟨wd.heap.size, 2, none⟩ = some (.slice M3 nm3 cm3) := k8.cell (j := 2) rfl
    have f33 : (w5.alloc (.cells #[.slice A5 na5 ca5, .int .i64 sr, .slice M5 nm5 cm5, .slice E5 ne5 ce5] 29)).cell? ⟨wd.heap.size, 3, none⟩ = some (.slice E3 ne3 ce3) := k8.cell (j := 3) rfl
    have f50 : (w5.alloc (.cells #[.slice A5 na5 ca5, .int .i64 sr, .slice M5 nm5 cm5, .slice E5 ne5 ce5] 29)).cell? ⟨w5.heap.size, 0, none⟩ = some (.slice A5 na5 ca5) := k5.cell (j := 0) rfl
    have f51 : (w5.alloc (.cells #[.slice A5 na5 ca5, .int .i64 sr, .slice M5 nm5 cm5, .slice E5 ne5 ce5] 29)).cell? ⟨w5.heap.size, 1, none⟩ = some (.int .i64 sr) := k5.cell (j := 1) rfl
    have f52 : (w5.alloc (.cells #[.slice A5 na5 ca5, .int .i64 sr, .slice M5 nm5 cm5, .slice E5 ne5 ce5] 29)).cell? ⟨w5.heap.size, 2, none⟩ = some (.slice M5 nm5 cm5) := k5.cell (j := 2) rfl
    have f53 : (w5.alloc (.cells #[.slice A5 na5 ca5, .int .i64 sr, .slice M5 nm5 cm5, .slice E5 ne5 ce5] 29)).cell? ⟨w5.heap.size, 3, none⟩ = some (.slice E5 ne5 ce5) := k5.cell (j := 3) rfl
    have HQ1 := Lib.hid (automaton_Equal A3 M3 E3 A5 M5 E5 na3 ca3 nm3 cm3 ne3 ce3 na5 ca5 nm5 cm5 ne5 ce5 r r true (w5.alloc (.cells #[.slice A5 na5 ca5, .int .i64 sr, .slice M5 nm5 cm5, .slice E5 ne5 ce5] 29)) (eqA_of rfl) hA5' hE5)
    rw [HSR.out] at HQ1
    have HB5 := Lib.hid hB5; clear hB5
    clear hb5 hb5a hb5c k5 k8 hA5' hE5 haO HRS HBV HAV KV HXV HYV HRV
    go_wp2_with fail
    refine HQ1.out.mono ?_
    rintro e wx ⟨rfl, hbx⟩
    go_wp2
    go_ret
    exact ⟨rfl, HB5.out.trans (hbx.mono HB5.out.size)⟩
set_option maxRecDepth 100000 in
set_option maxHeartbeats 6400000 in
theorem meets_eq (p q : Pt) (w : World) (hp : p.ok) (hq : q.ok) :
    Calls Tryd.prog 6 #[.agg (pcells p).toArray, .agg (pcells q).toArray, .bool true] w fun e w' => e = .returned (.bool true) ∧ Below w.heap.size w w' := by
  have hn : eqB (ptA p).al (ptA ⟨p.ev, q.g⟩).al = true := by
    have : (ptA p).al = (ptA ⟨p.ev, q.g⟩).al := by unfold ptA; rw [mkG_al, mkG_al]
    unfold eqB; rw [decide_eq_true_iff]; exact this
  have HQQ : Hid (Pt.ok ⟨p.ev, q.g⟩) := Lib.hid ⟨hp.1, hq.2⟩
  have k3 : Blk ((w.alloc (.cells (pcells p).toArray 53)).alloc (.cells (pcells q).toArray 53)) w.heap.size 53 (pcells p) := (Blk.new w _ _).al _
  have k4 : Blk ((w.alloc (.cells (pcells p).toArray 53)).alloc (.cells (pcells q).toArray 53)) (w.heap.size + 1) 53 (pcells q) := Blk.at_ _ _ _ (by simp)
  have hB2 : Below w.heap.size w ((w.alloc (.cells (pcells p).toArray 53)).alloc (.cells (pcells q).toArray 53)) := ((Below.refl _ w).alloc (Nat.le_refl _) _).alloc (by simp) _
  have HK := Lib.hid (law_known ((w.alloc (.cells (pcells p).toArray 53)).alloc (.cells (pcells q).toArray 53)))
  have K3 := Lib.hid k3; clear k3
  have K4 := Lib.hid k4; clear k4
  have HB2 := Lib.hid hB2; clear hB2
  have HP := Lib.hid hp; clear hp
  have HQ := Lib.hid hq; clear hq
  have HN := Lib.hid hn; clear hn
  go_enter Tryd.func6, Tryd.ntmps6
  go_wp2_with fail
  refine HK.out.mono ?_
  rintro e w1 ⟨rfl, hb1⟩
  have hB1 := HB2.out.trans (hb1.mono HB2.out.size)
  have k3 := K3.out.below hb1 K3.out.lt
  have k4 := K4.out.below hb1 K4.out.lt
  have HB1 := Lib.hid hB1; clear hB1
  clear K3 K4 HB2 HK hb1
  have e3 : w1.cell? ⟨w.heap.size, 0, none⟩ = some (.int .u8 p.ev) := k3.cell (j := 0) rfl
  have e4 : w1.cell? ⟨w.heap.size + 1, 0, none⟩ = some (.int .u8 q.ev) := k4.cell (j := 0) rfl
  have f4 := k4.free 0
  have hS : Below w.heap.size w (w1.setCell ⟨w.heap.size + 1, 0, none⟩ (.int .u8 p.ev)) := HB1.out.setCell (p := ⟨w.heap.size + 1, 0, none⟩) (Nat.le_succ _) _
  have k4 : Blk (w1.setCell ⟨w.heap.size + 1, 0, none⟩ (.int .u8 p.ev)) (w.heap.size + 1) 53 (pcells ⟨p.ev, q.g⟩) := k4.set (j := 0) (by rw [pcells_len HQ.out]; omega) (.int .u8 p.ev)
  have k3 : Blk (w1.setCell ⟨w.heap.size + 1, 0, none⟩ (.int .u8 p.ev)) w.heap.size 53 (pcells p) := k3.kept (grown_setCell _ _ _ _) (by intro e; injection e with e; omega)
  have hrp := two_rdp (w1.setCell ⟨w.heap.size + 1, 0, none⟩ (.int .u8 p.ev)) HP.out HQQ.out
  rw [show (w1.setCell ⟨w.heap.size + 1, 0, none⟩ (.int .u8 p.ev)).heap.size = w1.heap.size by simp] at hrp
  have HLI := Lib.hid (law_List _ 2 2 [p, ⟨p.ev, q.g⟩] _ rfl hrp)
  clear hrp
  have hW2 := box_below (w1.setCell ⟨w.heap.size + 1, 0, none⟩ (.int .u8 p.ev)) (.cells (pcells p ++ pcells ⟨p.ev, q.g⟩).toArray 53)
  have HBW := Lib.hid (hS.trans (hW2.mono hS.size))
  clear hW2 HB1 hS
  go_wp2_with (first | refine wpList_load_part rfl _ rfl w.heap.size p HP.out (by rfl) k3 ?_ | refine wpList_load_part rfl _ rfl (w.heap.size + 1) ⟨p.ev, q.g⟩ HQQ.out (by rfl) k4 ?_ | refine wpList_two_parts rfl _ _ rfl p ⟨p.ev, q.g⟩ HP.out HQQ.out (by rfl) (by rfl) ?_)
  clear k3 k4 e3 e4 f4
  refine HLI.out.mono ?_
  rintro e w2 ⟨A2, n2, c2, xs, rfl, hm2, hl2, hc1, hc2, hr2, hb2⟩
  have HR2 := Lib.hid hr2
  obtain ⟨ad, na, ca, M, nm, cm, E, ne, ce, A, na', ca', M', nm', cm', E', ne', ce', A', rfl, rfl, hadb, c0, c1, c2', c3, d0, d1, d2, d3, hx, hy, hxs⟩ := two_of_list (a := ptA p) (b := ptA ⟨p.ev, q.g⟩) hm2 hl2 hr2
  have HM2 := Lib.hid hm2
  have HL2 := Lib.hid hl2
  clear hm2 hl2 hr2 hxs
  obtain ⟨sa, hsa⟩ : ∃ s, (ptA p).st = s := ⟨_, rfl⟩
  obtain ⟨sb, hsb⟩ : ∃ s, (ptA ⟨p.ev, q.g⟩).st = s := ⟨_, rfl⟩
  rw [hsa] at c1
  rw [hsb] at d1
  have hA0 : cells8 w2.drew ad A na ca sa M nm cm E ne ce A' na' ca' sb M' nm' cm' E' ne' ce' := ⟨c0, c1, c2', c3, d0, d1, d2, d3⟩
  have hB2 := (HBW.out.trans (hb2.mono HBW.out.size)).trans ((below_dr w2).mono (HBW.out.trans (hb2.mono HBW.out.size)).size)
  have HX0 := Lib.hid ((hx.below (below_dr w2)).more (below_dr w2).size)
  have HY0 := Lib.hid ((hy.below (below_dr w2)).more (below_dr w2).size)
  have HR0 := Lib.hid ((HR2.out.below (below_dr w2)).more (below_dr w2).size)
  have hadd : ad.block < w2.drew.heap.size := hadb
  have HB0 := Lib.hid hB2
  have HADD := Lib.hid hadd
  have HSA := Lib.hid hsa; clear hsa
  have HSB := Lib.hid hsb; clear hsb
  clear hb2 HLI HBW c0 c1 c2' c3 d0 d1 d2 d3 hx hy HR2 hadb hB2 hadd
  go_wp2
  refine wp_region_U (fun W => cells8 W ad A na ca sa M nm cm E ne ce A' na' ca' sb M' nm' cm' E' ne' ce') (fun _ => True) 12 (by kernel_rfl) ?_
  change anyU _ _ _ _ _ _ _ 13 _ _ _
  have hB0 : True := trivial
  generalize hwd : w2.drew = wd at hA0 HX0 HY0 HR0 HADD HB0 ⊢
  have HWD := Lib.hid hwd; clear hwd
  ((refine uTake (i := 0) (v := ?_) rfl (by kernel_rfl) (fun _ _ _ h => h) (by rfl) (fun W hA hB => ?_) ⟨hA0, fun _ => hB0⟩ ?_; rotate_left; (· (clear hB; (try dsimp only at hA); go_simp; try with_reducible rfl)); (try simp only [Act.put, List.setIfInBounds_toArray, List.set_cons_zero, List.set_cons_succ])); (refine uTake (i := 1) (v := ?_) rfl (by kernel_rfl) (fun _ _ _ h => h) (by rfl) (fun W hA hB => ?_) ⟨hA0, fun _ => hB0⟩ ?_; rotate_left; (· (clear hB; (try dsimp only at hA); go_simp; try with_reducible rfl)); (try simp only [Act.put, List.setIfInBounds_toArray, List.set_cons_zero, List.set_cons_succ])))
  ((refine uTake (i := 2) (v := ?_) rfl (by kernel_rfl) (fun _ _ _ h => h) (by rfl) (fun W hA hB => ?_) ⟨hA0, fun _ => hB0⟩ ?_; rotate_left; (· (clear hB; (try dsimp only at hA); obtain ⟨a0, a1, a2, a3, a4, a5, a6, a7⟩ := hA; go_simp; try with_reducible rfl)); (try simp only [Act.put, List.setIfInBounds_toArray, List.set_cons_zero, List.set_cons_succ])))
  ((refine uTake (i := 3) (v := ?_) rfl (by kernel_rfl) (fun _ _ _ h => h) (by rfl) (fun W hA hB => ?_) ⟨hA0, fun _ => hB0⟩ ?_; rotate_left; (· (clear hB; (try dsimp only at hA); go_simp; try with_reducible rfl)); (try simp only [Act.put, List.setIfInBounds_toArray, List.set_cons_zero, List.set_cons_succ])); (refine uTake (i := 4) (v := ?_) rfl (by kernel_rfl) (fun _ _ _ h => h) (by rfl) (fun W hA hB => ?_) ⟨hA0, fun _ => hB0⟩ ?_; rotate_left; (· (clear hB; (try dsimp only at hA); go_simp; try with_reducible rfl)); (try simp only [Act.put, List.setIfInBounds_toArray, List.set_cons_zero, List.set_cons_succ])))
  ((refine uTake (i := 5) (v := ?_) rfl (by kernel_rfl) (fun _ _ _ h => h) (by rfl) (fun W hA hB => ?_) ⟨hA0, fun _ => hB0⟩ ?_; rotate_left; (· (clear hB; (try dsimp only at hA); obtain ⟨a0, a1, a2, a3, a4, a5, a6, a7⟩ := hA; go_simp; try with_reducible rfl)); (try simp only [Act.put, List.setIfInBounds_toArray, List.set_cons_zero, List.set_cons_succ])))
  have HF := Lib.hid (few_of (l := [ptA p, ptA ⟨p.ev, q.g⟩]) (fun z hz => by
    rcases List.mem_cons.1 hz with rfl | hz
    · exact ptA_sm HP.out
    · obtain rfl := List.mem_singleton.1 hz; exact ptA_sm HQQ.out) (by simp))
  obtain ⟨r, T, hrT⟩ := HF.out.syn
  obtain ⟨sr, hsr⟩ : ∃ s, r.st = s := ⟨_, rfl⟩
  have HRT := Lib.hid hrT; clear hrT
  have HSR := Lib.hid hsr; clear hsr
  have hbz := box_below wd (.cells #[.slice none 0 0, .int .i64 0, .slice none 0 0, .slice none 0 0] 29)
  have HB2 := Lib.hid (HB0.out.trans (hbz.mono HB0.out.size))
  have hA2 := cells8_to hA0 hbz HADD.out
  have HX2 := Lib.hid ((HX0.out.below hbz).more hbz.size)
  have HY2 := Lib.hid ((HY0.out.below hbz).more hbz.size)
  have HR2 := Lib.hid ((HR0.out.below hbz).more hbz.size)
  have kZ : Blk (wd.alloc (.cells #[.slice none 0 0, .int .i64 0, .slice none 0 0, .slice none 0 0] 29)) wd.heap.size 29 [.slice none 0 0, .int .i64 0, .slice none 0 0, .slice none 0 0] := Blk.new _ _ _
  have KZ := Lib.hid kZ; clear kZ
  clear hbz
  have HME := Lib.hid (meet_yes A M E A' M' E' na ca nm cm ne ce na' ca' nm' cm' ne' ce' (ptA p) (ptA ⟨p.ev, q.g⟩) r T wd HX0.out HY0.out HF.out HN.out HRT.out)
  have HMF := Lib.hid (meet_yes A M E A' M' E' na ca nm cm ne ce na' ca' nm' cm' ne' ce' (ptA p) (ptA ⟨p.ev, q.g⟩) r T _ HX2.out HY2.out HF.out HN.out HRT.out)
  rw [HSA.out, HSB.out] at HME HMF
  refine uTwo (i := 6) (j := 10) rfl rfl (by kernel_rfl) (fun K hK => ?_) (fun K hK => ?_)
  · go_simp
    go_at_call 22
    refine HME.out.mono ?_
    rintro e w3 ⟨hb3, A3, na3, ca3, M3, nm3, cm3, E3, ne3, ce3, rfl, ha3, hfr3⟩
    rw [HSR.out]
    have HA9 := Lib.hid ((ha3.below (box_below w3 (.cells #[.slice A3 na3 ca3, .int .i64 sr, .slice M3 nm3 cm3, .slice E3 ne3 ce3] 29))).more (box_below w3 (.cells #[.slice A3 na3 ca3, .int .i64 sr, .slice M3 nm3 cm3, .slice E3 ne3 ce3] 29)).size)
    clear ha3 hfr3
    have hA3 := cells8_to hA0 hb3 HADD.out
    have hB3 := HB0.out.trans (hb3.mono HB0.out.size)
    have hX3 := (HX0.out.below hb3).more hb3.size
    have hY3 := (HY0.out.below hb3).more hb3.size
    have hR3 := (HR0.out.below hb3).more hb3.size
    have had3 : ad.block < w3.heap.size := Nat.lt_of_lt_of_le HADD.out hb3.size
    have hb4 := box_below w3 (.cells #[.slice none 0 0, .int .i64 0, .slice none 0 0, .slice none 0 0] 29)
    have hb5 := box_below w3 (.cells #[.slice A3 na3 ca3, .int .i64 sr, .slice M3 nm3 cm3, .slice E3 ne3 ce3] 29)
    have hA4 := cells8_to hA3 hb4 had3
    have hA5 := cells8_to hA3 hb5 had3
    have k9 : Blk (w3.alloc (.cells #[.slice A3 na3 ca3, .int .i64 sr, .slice M3 nm3 cm3, .slice E3 ne3 ce3] 29)) w3.heap.size 29 [.slice A3 na3 ca3, .int .i64 sr, .slice M3 nm3 cm3, .slice E3 ne3 ce3] := Blk.new _ _ _
    have HX9 := Lib.hid ((hX3.below hb5).more hb5.size)
    have HY9 := Lib.hid ((hY3.below hb5).more hb5.size)
    have HR9 := Lib.hid ((hR3.below hb5).more hb5.size)
    have HB9 := Lib.hid (hB3.trans (hb5.mono hB3.size))
    have K9 := Lib.hid k9; clear k9
    clear hb3 hb4 hb5 hX3 hY3 hR3 hB3 had3 hA0 HX0 HY0 HR0 HB0 HADD HX2 HY2 HR2 HB2 hA2 KZ
    (refine hK _ _ ⟨hA3, fun _ => hB0⟩ ?_; clear hK K; (try simp only [Act.put, List.setIfInBounds_toArray, List.set_cons_zero, List.set_cons_succ]))
    have hA0 := hA3
    ((refine uTake (i := 7) (v := ?_) rfl (by kernel_rfl) (fun _ _ _ h => h) (by rfl) (fun W hA hB => ?_) ⟨hA0, fun _ => hB0⟩ ?_; rotate_left; (· (clear hB; (try dsimp only at hA); go_simp; try with_reducible rfl)); (try simp only [Act.put, List.setIfInBounds_toArray, List.set_cons_zero, List.set_cons_succ])); (refine uTake (i := 8) (v := ?_) rfl (by kernel_rfl) (fun _ _ _ h => h) (by rfl) (fun W hA hB => ?_) ⟨hA0, fun _ => hB0⟩ ?_; rotate_left; (· (clear hB; (try dsimp only at hA); go_simp; try with_reducible rfl)); (try simp only [Act.put, List.setIfInBounds_toArray, List.set_cons_zero, List.set_cons_succ])); (refine uTake (i := 9) (v := ?_) rfl (by kernel_rfl) (fun _ _ _ h => h) (by rfl) (fun W hA hB => ?_) ⟨hA0, fun _ => hB0⟩ ?_; rotate_left; (· (clear hB; (try dsimp only at hA); go_simp; try with_reducible rfl)); (try simp only [Act.put, List.setIfInBounds_toArray, List.set_cons_zero, List.set_cons_succ])))
    refine uOne (i := 10) rfl (by kernel_rfl) (fun K hK => ?_)
    go_simp
    (refine hK _ _ ⟨hA4, fun _ => hB0⟩ ?_; clear hK K; (try simp only [Act.put, List.setIfInBounds_toArray, List.set_cons_zero, List.set_cons_succ]))
    refine uOne (i := 11) rfl (by kernel_rfl) (fun K hK => ?_)
    go_simp
    (refine hK _ _ ⟨hA5, fun _ => hB0⟩ ?_; clear hK K; (try simp only [Act.put, List.setIfInBounds_toArray, List.set_cons_zero, List.set_cons_succ]))
    refine uOne (i := 12) rfl (by kernel_rfl) (fun K hK => ?_)
    go_simp
    (refine hK _ _ ⟨hA5, fun _ => hB0⟩ ?_; clear hK K; (try simp only [Act.put, List.setIfInBounds_toArray, List.set_cons_zero, List.set_cons_succ]))
    refine anyU_done (by kernel_rfl) ?_ _
    clear hA0 hA3 hA4
    obtain ⟨w9, hw9⟩ : ∃ w9, w9 = (w3.alloc (.cells #[.slice A3 na3 ca3, .int .i64 sr, .slice M3 nm3 cm3, .slice E3 ne3 ce3] 29)) := ⟨_, rfl⟩
    rw [← hw9] at hA5 HX9 HY9 HR9 HB9 K9 ⊢
    (try rw [← hw9] at HA9)
    have HW9 := Lib.hid hw9; clear hw9
    go_wp2
    refine wp_region_U (fun W => cells8 W ad A na ca sa M nm cm E ne ce A' na' ca' sb M' nm' cm' E' ne' ce') (fun _ => True) 9 (by kernel_rfl) ?_
    change anyU _ _ _ _ _ _ _ 10 _ _ _
    have hA0 : cells8 w9.drew ad A na ca sa M nm cm E ne ce A' na' ca' sb M' nm' cm' E' ne' ce' := hA5
    have hbd := below_dr w9
    have HX := Lib.hid ((HX9.out.below hbd).more hbd.size)
    have HY := Lib.hid ((HY9.out.below hbd).more hbd.size)
    have HR := Lib.hid ((HR9.out.below hbd).more hbd.size)
    have HB := Lib.hid (HB9.out.trans (hbd.mono HB9.out.size))
    have KK := Lib.hid (K9.out.below hbd K9.out.lt)
    (try have HA := Lib.hid ((HA9.out.below hbd).more hbd.size))
    (try clear HA9)
    have HADR := Lib.hid (hbd.size)
    clear hA5 HX9 HY9 HR9 HB9 K9 hbd
    generalize hwt : w9.drew = wt at hA0 HX HY HR HB KK HADR HA ⊢
    have HWT := Lib.hid hwt; clear hwt
    ((refine uTake (i := 0) (v := ?_) rfl (by kernel_rfl) (fun _ _ _ h => h) (by rfl) (fun W hA hB => ?_) ⟨hA0, fun _ => hB0⟩ ?_; rotate_left; (· (clear hB; (try dsimp only at hA); go_simp; try with_reducible rfl)); (try simp only [Act.put, List.setIfInBounds_toArray, List.set_cons_zero, List.set_cons_succ])); (refine uTake (i := 1) (v := ?_) rfl (by kernel_rfl) (fun _ _ _ h => h) (by rfl) (fun W hA hB => ?_) ⟨hA0, fun _ => hB0⟩ ?_; rotate_left; (· (clear hB; (try dsimp only at hA); go_simp; try with_reducible rfl)); (try simp only [Act.put, List.setIfInBounds_toArray, List.set_cons_zero, List.set_cons_succ])); (refine uTake (i := 2) (v := ?_) rfl (by kernel_rfl) (fun _ _ _ h => h) (by rfl) (fun W hA hB => ?_) ⟨hA0, fun _ => hB0⟩ ?_; rotate_left; (· (clear hB; (try dsimp only at hA); go_simp; try with_reducible rfl)); (try simp only [Act.put, List.setIfInBounds_toArray, List.set_cons_zero, List.set_cons_succ])))
    ((refine uTake (i := 3) (v := ?_) rfl (by kernel_rfl) (fun _ _ _ h => h) (by rfl) (fun W hA hB => ?_) ⟨hA0, fun _ => hB0⟩ ?_; rotate_left; (· (clear hB; (try dsimp only at hA); obtain ⟨a0, a1, a2, a3, a4, a5, a6, a7⟩ := hA; go_simp; try with_reducible rfl)); (try simp only [Act.put, List.setIfInBounds_toArray, List.set_cons_zero, List.set_cons_succ])))
    ((refine uTake (i := 4) (v := ?_) rfl (by kernel_rfl) (fun _ _ _ h => h) (by rfl) (fun W hA hB => ?_) ⟨hA0, fun _ => hB0⟩ ?_; rotate_left; (· (clear hB; (try dsimp only at hA); go_simp; try with_reducible rfl)); (try simp only [Act.put, List.setIfInBounds_toArray, List.set_cons_zero, List.set_cons_succ])); (refine uTake (i := 5) (v := ?_) rfl (by kernel_rfl) (fun _ _ _ h => h) (by rfl) (fun W hA hB => ?_) ⟨hA0, fun _ => hB0⟩ ?_; rotate_left; (· (clear hB; (try dsimp only at hA); go_simp; try with_reducible rfl)); (try simp only [Act.put, List.setIfInBounds_toArray, List.set_cons_zero, List.set_cons_succ])); (refine uTake (i := 6) (v := ?_) rfl (by kernel_rfl) (fun _ _ _ h => h) (by rfl) (fun W hA hB => ?_) ⟨hA0, fun _ => hB0⟩ ?_; rotate_left; (· (clear hB; (try dsimp only at hA); go_simp; try with_reducible rfl)); (try simp only [Act.put, List.setIfInBounds_toArray, List.set_cons_zero, List.set_cons_succ])))
    ((refine uTake (i := 7) (v := ?_) rfl (by kernel_rfl) (fun _ _ _ h => h) (by rfl) (fun W hA hB => ?_) ⟨hA0, fun _ => hB0⟩ ?_; rotate_left; (· (clear hB; (try dsimp only at hA); obtain ⟨a0, a1, a2, a3, a4, a5, a6, a7⟩ := hA; go_simp; try with_reducible rfl)); (try simp only [Act.put, List.setIfInBounds_toArray, List.set_cons_zero, List.set_cons_succ])))
    have HSM := Lib.hid (law_same_n A A' ca ca' na na' _ _ true wt HX.out.la HY.out.la HN.out HX.out.ra HX.out.ac HX.out.cA HY.out.ra)
    refine uOne (i := 8) rfl (by kernel_rfl) (fun K hK => ?_)
    go_simp
    go_at_call 21
    refine HSM.out.mono ?_
    rintro e wv ⟨rfl, m, hm⟩
    have hbv : Below wt.heap.size wt wv := by rw [hm]; exact below_drewN (Below.refl _ _) m
    have hAv : cells8 wv ad A na ca sa M nm cm E ne ce A' na' ca' sb M' nm' cm' E' ne' ce' := by rw [hm]; exact hA0
    clear hm
    (refine hK _ _ ⟨hAv, fun _ => hB0⟩ ?_; clear hK K; (try simp only [Act.put, List.setIfInBounds_toArray, List.set_cons_zero, List.set_cons_succ]))
    refine uOne (i := 9) rfl (by kernel_rfl) (fun K hK => ?_)
    go_simp
    (refine hK _ _ ⟨hAv, fun _ => hB0⟩ ?_; clear hK K; (try simp only [Act.put, List.setIfInBounds_toArray, List.set_cons_zero, List.set_cons_succ]))
    refine anyU_done (by kernel_rfl) ?_ _
    clear hAv hA0
    have KV := Lib.hid (KK.out.below hbv KK.out.lt)
    (try have HAV := Lib.hid ((HA.out.below hbv).more hbv.size))
    have HXV := Lib.hid ((HX.out.below hbv).more hbv.size)
    have HYV := Lib.hid ((HY.out.below hbv).more hbv.size)
    have HRV := Lib.hid ((HR.out.below hbv).more hbv.size)
    have HBV := Lib.hid (HB.out.trans (hbv.mono HB.out.size))
    clear KK HX HY HR HB HSM
    have HRS := Lib.hid (ref_Synchronous (some ad) c2 2 xs wv HL2.out HRV.out hc1 hc2 (by omega) (by rw [HM2.out]; exact HF.out.wf) (by rw [HM2.out]; exact HF.out.nm))
    rw [HM2.out, show lstA [p, ⟨p.ev, q.g⟩] = [ptA p, ptA ⟨p.ev, q.g⟩] from rfl, HRT.out] at HRS
    clear hbv
    go_wp2_with fail
    refine HRS.out.mono ?_
    rintro e w5 ⟨hb5, a2, T2, haT2, A5, na5, ca5, M5, nm5, cm5, E5, ne5, ce5, B5, nb5, cb5, ts5, rfl, haO, _, _, _, _, _⟩
    injection haT2 with haT2
    injection haT2 with h1 h2
    subst h1 h2
    rw [HSR.out]
    have hb5a := box_below w5 (.cells #[.slice A5 na5 ca5, .int .i64 sr, .slice M5 nm5 cm5, .slice E5 ne5 ce5] 29)
    have hb5c := hb5.trans (hb5a.mono hb5.size)
    have hB5 := HBV.out.trans (hb5c.mono HBV.out.size)
    have k5 : Blk (w5.alloc (.cells #[.slice A5 na5 ca5, .int .i64 sr, .slice M5 nm5 cm5, .slice E5 ne5 ce5] 29)) w5.heap.size 29 [.slice A5 na5 ca5, .int .i64 sr, .slice M5 nm5 cm5, .slice E5 ne5 ce5] := Blk.new _ _ _
    have k8 := KV.out.below hb5c KV.out.lt
    have hA5' := (HAV.out.below hb5c).more hb5c.size
    have hE5 := (haO.rd.below hb5a).more hb5a.size
    have f30 : (w5.alloc (.cells #[.slice A5 na5 ca5, .int .i64 sr, .slice M5 nm5 cm5, .slice E5 ne5 ce5] 29)).cell? ⟨w3.heap.size, 0, none⟩ = some (.slice A3 na3 ca3) := k8.cell (j := 0) rfl
    have f31 : (w5.alloc (.cells #[.slice A5 na5 ca5, .int .i64 sr, .slice M5 nm5 cm5, .slice E5 ne5 ce5] 29)).cell? ⟨w3.heap.size, 1, none⟩ = some (.int .i64 sr) := k8.cell (j := 1) rfl
    have f32 : (w5.alloc (.cells #[.slice A5 na5 ca5, .int .i64 sr, .slice M5 nm5 cm5, .slice E5 ne5 ce5] 29)).cell? ⟨w3.heap.size, 2, none⟩ = some (.slice M3 nm3 cm3) := k8.cell (j := 2) rfl
    have f33 : (w5.alloc (.cells #[.slice A5 na5 ca5, .int .i64 sr, .slice M5 nm5 cm5, .slice E5 ne5 ce5] 29)).cell? ⟨w3.heap.size, 3, none⟩ = some (.slice E3 ne3 ce3) := k8.cell (j := 3) rfl
    have f50 : (w5.alloc (.cells #[.slice A5 na5 ca5, .int .i64 sr, .slice M5 nm5 cm5, .slice E5 ne5 ce5] 29)).cell? ⟨w5.heap.size, 0, none⟩ = some (.slice A5 na5 ca5) := k5.cell (j := 0) rfl
    have f51 : (w5.alloc (.cells #[.slice A5 na5 ca5, .int .i64 sr, .slice M5 nm5 cm5, .slice E5 ne5 ce5] 29)).cell? ⟨w5.heap.size, 1, none⟩ = some (.int .i64 sr) := k5.cell (j := 1) rfl
    have f52 : (w5.alloc (.cells #[.slice A5 na5 ca5, .int .i64 sr, .slice M5 nm5 cm5, .slice E5 ne5 ce5] 29)).cell? ⟨w5.heap.size, 2, none⟩ = some (.slice M5 nm5 cm5) := k5.cell (j := 2) rfl
    have f53 : (w5.alloc (.cells #[.slice A5 na5 ca5, .int .i64 sr, .slice M5 nm5 cm5, .slice E5 ne5 ce5] 29)).cell? ⟨w5.heap.size, 3, none⟩ = some (.slice E5 ne5 ce5) := k5.cell (j := 3) rfl
    have HQ1 := Lib.hid (automaton_Equal A3 M3 E3 A5 M5 E5 na3 ca3 nm3 cm3 ne3 ce3 na5 ca5 nm5 cm5 ne5 ce5 r r true (w5.alloc (.cells #[.slice A5 na5 ca5, .int .i64 sr, .slice M5 nm5 cm5, .slice E5 ne5 ce5] 29)) (eqA_of rfl) hA5' hE5)
    rw [HSR.out] at HQ1
    have HB5 := Lib.hid hB5; clear hB5
    clear hb5 hb5a hb5c k5 k8 hA5' hE5 haO HRS HBV HAV KV HXV HYV HRV
    go_wp2_with fail
    refine HQ1.out.mono ?_
    rintro e wx ⟨rfl, hbx⟩
    go_wp2
    go_ret
    exact ⟨rfl, HB5.out.trans (hbx.mono HB5.out.size)⟩
  · go_simp
    (refine hK _ _ ⟨hA2, fun _ => hB0⟩ ?_; clear hK K; (try simp only [Act.put, List.setIfInBounds_toArray, List.set_cons_zero, List.set_cons_succ]))
    refine uOne (i := 6) rfl (by kernel_rfl) (fun K hK => ?_)
    go_simp
    go_at_call 22
    refine HMF.out.mono ?_
    rintro e w3 ⟨hb3, A3, na3, ca3, M3, nm3, cm3, E3, ne3, ce3, rfl, ha3, hfr3⟩
    rw [HSR.out]
    have hg3 : w3.grownBy ((((w3.setCell ⟨wd.heap.size, 0, none⟩ (.slice A3 na3 ca3)).setCell ⟨wd.heap.size, 1, none⟩ (.int .i64 sr)).setCell ⟨wd.heap.size, 2, none⟩ (.slice M3 nm3 cm3)).setCell ⟨wd.heap.size, 3, none⟩ (.slice E3 ne3 ce3)) (some wd.heap.size) := (((grown_setCell _ _ _ _).trans (grown_setCell _ _ _ _)).trans (grown_setCell _ _ _ _)).trans (grown_setCell _ _ _ _)
    have HA9 := Lib.hid ((ha3.keepF (r := wd.heap.size) (Fr3.mono hfr3 (by simp)) fun p h1 h2 => World.cell?_of_block (hg3.block _ h1 (by intro e; injection e with e; omega))).more hg3.size)
    clear ha3 hfr3 hg3
    have hb13 := (box_below wd (.cells #[.slice none 0 0, .int .i64 0, .slice none 0 0, .slice none 0 0] 29)).trans (hb3.mono (box_below wd (.cells #[.slice none 0 0, .int .i64 0, .slice none 0 0, .slice none 0 0] 29)).size)
    have hbT : Below wd.heap.size wd ((((w3.setCell ⟨wd.heap.size, 0, none⟩ (.slice A3 na3 ca3)).setCell ⟨wd.heap.size, 1, none⟩ (.int .i64 sr)).setCell ⟨wd.heap.size, 2, none⟩ (.slice M3 nm3 cm3)).setCell ⟨wd.heap.size, 3, none⟩ (.slice E3 ne3 ce3)) := (((hb13.setCell (p := ⟨wd.heap.size, 0, none⟩) (Nat.le_refl _) _).setCell (p := ⟨wd.heap.size, 1, none⟩) (Nat.le_refl _) _).setCell (p := ⟨wd.heap.size, 2, none⟩) (Nat.le_refl _) _).setCell (p := ⟨wd.heap.size, 3, none⟩) (Nat.le_refl _) _
    have kZ3 := KZ.out.below hb3 KZ.out.lt
    have f0 := kZ3.free 0
    have f1 := kZ3.free 1
    have f2 := kZ3.free 2
    have f3 := kZ3.free 3
    have e0 := kZ3.cell (j := 0) rfl
    have e1 := kZ3.cell (j := 1) rfl
    have e2 := kZ3.cell (j := 2) rfl
    have e3 := kZ3.cell (j := 3) rfl
    have l3 : wd.heap.size < w3.heap.size := kZ3.lt
    have k9 : Blk ((((w3.setCell ⟨wd.heap.size, 0, none⟩ (.slice A3 na3 ca3)).setCell ⟨wd.heap.size, 1, none⟩ (.int .i64 sr)).setCell ⟨wd.heap.size, 2, none⟩ (.slice M3 nm3 cm3)).setCell ⟨wd.heap.size, 3, none⟩ (.slice E3 ne3 ce3)) wd.heap.size 29 [.slice A3 na3 ca3, .int .i64 sr, .slice M3 nm3 cm3, .slice E3 ne3 ce3] := (((kZ3.set (j := 0) (by simp) _).set (j := 1) (by simp) _).set (j := 2) (by simp) _).set (j := 3) (by simp) _
    have hA3 := cells8_to hA0 hb13 HADD.out
    have hA5 := cells8_to hA0 hbT HADD.out
    have HX9 := Lib.hid ((HX0.out.below hbT).more hbT.size)
    have HY9 := Lib.hid ((HY0.out.below hbT).more hbT.size)
    have HR9 := Lib.hid ((HR0.out.below hbT).more hbT.size)
    have HB9 := Lib.hid (HB0.out.trans (hbT.mono HB0.out.size))
    have K9 := Lib.hid k9; clear k9
    clear hb3 hbT hb13 kZ3 hA0 HX0 HY0 HR0 HB0 HADD HX2 HY2 HR2 HB2 hA2 KZ
    (refine hK _ _ ⟨hA3, fun _ => hB0⟩ ?_; clear hK K; (try simp only [Act.put, List.setIfInBounds_toArray, List.set_cons_zero, List.set_cons_succ]))
    have hA0 := hA3
    ((refine uTake (i := 7) (v := ?_) rfl (by kernel_rfl) (fun _ _ _ h => h) (by rfl) (fun W hA hB => ?_) ⟨hA0, fun _ => hB0⟩ ?_; rotate_left; (· (clear hB; (try dsimp only at hA); go_simp; try with_reducible rfl)); (try simp only [Act.put, List.setIfInBounds_toArray, List.set_cons_zero, List.set_cons_succ])); (refine uTake (i := 8) (v := ?_) rfl (by kernel_rfl) (fun _ _ _ h => h) (by rfl) (fun W hA hB => ?_) ⟨hA0, fun _ => hB0⟩ ?_; rotate_left; (· (clear hB; (try dsimp only at hA); go_simp; try with_reducible rfl)); (try simp only [Act.put, List.setIfInBounds_toArray, List.set_cons_zero, List.set_cons_succ])); (refine uTake (i := 9) (v := ?_) rfl (by kernel_rfl) (fun _ _ _ h => h) (by rfl) (fun W hA hB => ?_) ⟨hA0, fun _ => hB0⟩ ?_; rotate_left; (· (clear hB; (try dsimp only at hA); go_simp; try with_reducible rfl)); (try simp only [Act.put, List.setIfInBounds_toArray, List.set_cons_zero, List.set_cons_succ])))
    refine uOne (i := 11) rfl (by kernel_rfl) (fun K hK => ?_)
    go_simp
    (refine hK _ _ ⟨hA5, fun _ => hB0⟩ ?_; clear hK K; (try simp only [Act.put, List.setIfInBounds_toArray, List.set_cons_zero, List.set_cons_succ]))
    refine uOne (i := 12) rfl (by kernel_rfl) (fun K hK => ?_)
    go_simp
    (refine hK _ _ ⟨hA5, fun _ => hB0⟩ ?_; clear hK K; (try simp only [Act.put, List.setIfInBounds_toArray, List.set_cons_zero, List.set_cons_succ]))
    refine anyU_done (by kernel_rfl) ?_ _
    clear hA0 hA3 f0 f1 f2 f3 e0 e1 e2 e3
    obtain ⟨w9, hw9⟩ : ∃ w9, w9 = ((((w3.setCell ⟨wd.heap.size, 0, none⟩ (.slice A3 na3 ca3)).setCell ⟨wd.heap.size, 1, none⟩ (.int .i64 sr)).setCell ⟨wd.heap.size, 2, none⟩ (.slice M3 nm3 cm3)).setCell ⟨wd.heap.size, 3, none⟩ (.slice E3 ne3 ce3)) := ⟨_, rfl⟩
    rw [← hw9] at hA5 HX9 HY9 HR9 HB9 K9 ⊢
    (try rw [← hw9] at HA9)
    have HW9 := Lib.hid hw9; clear hw9
    go_wp2
    refine wp_region_U (fun W => cells8 W ad A na ca sa M nm cm E ne ce A' na' ca' sb M' nm' cm' E' ne' ce') (fun _ => True) 9 (by kernel_rfl) ?_
    change anyU _ _ _ _ _ _ _ 10 _ _ _
    have hA0 : cells8 w9.drew ad A na ca sa M nm cm E ne ce A' na' ca' sb M' nm' cm' E' ne' ce' := hA5
    have hbd := below_dr w9
    have HX := Lib.hid ((HX9.out.below hbd).more hbd.size)
    have HY := Lib.hid ((HY9.out.below hbd).more hbd.size)
    have HR := Lib.hid ((HR9.out.below hbd).more hbd.size)
    have HB := Lib.hid (HB9.out.trans (hbd.mono HB9.out.size))
    have KK := Lib.hid (K9.out.below hbd K9.out.lt)
    (try have HA := Lib.hid ((HA9.out.below hbd).more hbd.size))
    (try clear HA9)
    have HADR := Lib.hid (hbd.size)
    clear hA5 HX9 HY9 HR9 HB9 K9 hbd
    generalize hwt : w9.drew = wt at hA0 HX HY HR HB KK HADR HA ⊢
    have HWT := Lib.hid hwt; clear hwt
    ((refine uTake (i := 0) (v := ?_) rfl (by kernel_rfl) (fun _ _ _ h => h) (by rfl) (fun W hA hB => ?_) ⟨hA0, fun _ => hB0⟩ ?_; rotate_left; (· (clear hB; (try dsimp only at hA); go_simp; try with_reducible rfl)); (try simp only [Act.put, List.setIfInBounds_toArray, List.set_cons_zero, List.set_cons_succ])); (refine uTake (i := 1) (v := ?_) rfl (by kernel_rfl) (fun _ _ _ h => h) (by rfl) (fun W hA hB => ?_) ⟨hA0, fun _ => hB0⟩ ?_; rotate_left; (· (clear hB; (try dsimp only at hA); go_simp; try with_reducible rfl)); (try simp only [Act.put, List.setIfInBounds_toArray, List.set_cons_zero, List.set_cons_succ])); (refine uTake (i := 2) (v := ?_) rfl (by kernel_rfl) (fun _ _ _ h => h) (by rfl) (fun W hA hB => ?_) ⟨hA0, fun _ => hB0⟩ ?_; rotate_left; (· (clear hB; (try dsimp only at hA); go_simp; try with_reducible rfl)); (try simp only [Act.put, List.setIfInBounds_toArray, List.set_cons_zero, List.set_cons_succ])))
    ((refine uTake (i := 3) (v := ?_) rfl (by kernel_rfl) (fun _ _ _ h => h) (by rfl) (fun W hA hB => ?_) ⟨hA0, fun _ => hB0⟩ ?_; rotate_left; (· (clear hB; (try dsimp only at hA); obtain ⟨a0, a1, a2, a3, a4, a5, a6, a7⟩ := hA; go_simp; try with_reducible rfl)); (try simp only [Act.put, List.setIfInBounds_toArray, List.set_cons_zero, List.set_cons_succ])))
    ((refine uTake (i := 4) (v := ?_) rfl (by kernel_rfl) (fun _ _ _ h => h) (by rfl) (fun W hA hB => ?_) ⟨hA0, fun _ => hB0⟩ ?_; rotate_left; (· (clear hB; (try dsimp only at hA); go_simp; try with_reducible rfl)); (try simp only [Act.put, List.setIfInBounds_toArray, List.set_cons_zero, List.set_cons_succ])); (refine uTake (i := 5) (v := ?_) rfl (by kernel_rfl) (fun _ _ _ h => h) (by rfl) (fun W hA hB => ?_) ⟨hA0, fun _ => hB0⟩ ?_; rotate_left; (· (clear hB; (try dsimp only at hA); go_simp; try with_reducible rfl)); (try simp only [Act.put, List.setIfInBounds_toArray, List.set_cons_zero, List.set_cons_succ])); (refine uTake (i := 6) (v := ?_) rfl (by kernel_rfl) (fun _ _ _ h => h) (by rfl) (fun W hA hB => ?_) ⟨hA0, fun _ => hB0⟩ ?_; rotate_left; (· (clear hB; (try dsimp only at hA); go_simp; try with_reducible rfl)); (try simp only [Act.put, List.setIfInBounds_toArray, List.set_cons_zero, List.set_cons_succ])))
    ((refine uTake (i := 7) (v := ?_) rfl (by kernel_rfl) (fun _ _ _ h => h) (by rfl) (fun W hA hB => ?_) ⟨hA0, fun _ => hB0⟩ ?_; rotate_left; (· (clear hB; (try dsimp only at hA); obtain ⟨a0, a1, a2, a3, a4, a5, a6, a7⟩ := hA; go_simp; try with_reducible rfl)); (try simp only [Act.put, List.setIfInBounds_toArray, List.set_cons_zero, List.set_cons_succ])))
    have HSM := Lib.hid (law_same_n A A' ca ca' na na' _ _ true wt HX.out.la HY.out.la HN.out HX.out.ra HX.out.ac HX.out.cA HY.out.ra)
    refine uOne (i := 8) rfl (by kernel_rfl) (fun K hK => ?_)
    go_simp
    go_at_call 21
    refine HSM.out.mono ?_
    rintro e wv ⟨rfl, m, hm⟩
    have hbv : Below wt.heap.size wt wv := by rw [hm]; exact below_drewN (Below.refl _ _) m
    have hAv : cells8 wv ad A na ca sa M nm cm E ne ce A' na' ca' sb M' nm' cm' E' ne' ce' := by rw [hm]; exact hA0
    clear hm
    (refine hK _ _ ⟨hAv, fun _ => hB0⟩ ?_; clear hK K; (try simp only [Act.put, List.setIfInBounds_toArray, List.set_cons_zero, List.set_cons_succ]))
    refine uOne (i := 9) rfl (by kernel_rfl) (fun K hK => ?_)
    go_simp
    (refine hK _ _ ⟨hAv, fun _ => hB0⟩ ?_; clear hK K; (try simp only [Act.put, List.setIfInBounds_toArray, List.set_cons_zero, List.set_cons_succ]))
    refine anyU_done (by kernel_rfl) ?_ _
    clear hAv hA0
    have KV := Lib.hid (KK.out.below hbv KK.out.lt)
    (try have HAV := Lib.hid ((HA.out.below hbv).more hbv.size))
    have HXV := Lib.hid ((HX.out.below hbv).more hbv.size)
    have HYV := Lib.hid ((HY.out.below hbv).more hbv.size)
    have HRV := Lib.hid ((HR.out.below hbv).more hbv.size)
    have HBV := Lib.hid (HB.out.trans (hbv.mono HB.out.size))
    clear KK HX HY HR HB HSM
    have HRS := Lib.hid (ref_Synchronous (some ad) c2 2 xs wv HL2.out HRV.out hc1 hc2 (by omega) (by rw [HM2.out]; exact HF.out.wf) (by rw [HM2.out]; exact HF.out.nm))
    rw [HM2.out, show lstA [p, ⟨p.ev, q.g⟩] = [ptA p, ptA ⟨p.ev, q.g⟩] from rfl, HRT.out] at HRS
    clear hbv
    go_wp2_with fail
    refine HRS.out.mono ?_
    rintro e w5 ⟨hb5, a2, T2, haT2, A5, na5, ca5, M5, nm5, cm5, E5, ne5, ce5, B5, nb5, cb5, ts5, rfl, haO, _, _, _, _, _⟩
    injection haT2 with haT2
    injection haT2 with h1 h2
    subst h1 h2
    rw [HSR.out]
    have hb5a := box_below w5 (.cells #[.slice A5 na5 ca5, .int .i64 sr, .slice M5 nm5 cm5, .slice E5 ne5 ce5] 29)
    have hb5c := hb5.trans (hb5a.mono hb5.size)
    have hB5 := HBV.out.trans (hb5c.mono HBV.out.size)
    have k5 : Blk (w5.alloc (.cells #[.slice A5 na5 ca5, .int .i64 sr, .slice M5 nm5 cm5, .slice E5 ne5 ce5] 29)) w5.heap.size 29 [.slice A5 na5 ca5, .int .i64 sr, .slice M5 nm5 cm5, .slice E5 ne5 ce5] := Blk.new _ _ _
    have k8 := KV.out.below hb5c KV.out.lt
    have hA5' := (HAV.out.below hb5c).more hb5c.size
    have hE5 := (haO.rd.below hb5a).more hb5a.size
    have f30 : (w5.alloc (.cells #[.slice A5 na5 ca5, .int .i64 sr, .slice M5 nm5 cm5, .slice E5 ne5 ce5] 29)).cell? ⟨wd.heap.size, 0, none⟩ = some (.slice A3 na3 ca3) := k8.cell (j := 0) rfl
    have f31 : (w5.alloc (.cells #[.slice A5 na5 ca5, .int .i64 sr, .slice M5 nm5 cm5, .slice E5 ne5 ce5] 29)).cell? ⟨wd.heap.size, 1, none⟩ = some (.int .i64 sr) := k8.cell (j := 1) rfl
    have f32 : (w5.alloc (.cells #[.slice A5 na5 ca5, .int .i64 sr, .slice M5 nm5 cm5, .slice E5 ne5 ce5] 29)).cell? ⟨wd.heap.size, 2, none⟩ = some (.slice M3 nm3 cm3) := k8.cell (j := 2) rfl
    have f33 : (w5.alloc (.cells #[.slice A5 na5 ca5, .int .i64 sr, .slice M5 nm5 cm5, .slice E5 ne5 ce5] 29)).cell? ⟨wd.heap.size, 3, none⟩ = some (.slice E3 ne3 ce3) := k8.cell (j := 3) rfl
    have f50 : (w5.alloc (.cells #[.slice A5 na5 ca5, .int .i64 sr, .slice M5 nm5 cm5, .slice E5 ne5 ce5] 29)).cell? ⟨w5.heap.size, 0, none⟩ = some (.slice A5 na5 ca5) := k5.cell (j := 0) rfl
    have f51 : (w5.alloc (.cells #[.slice A5 na5 ca5, .int .i64 sr, .slice M5 nm5 cm5, .slice E5 ne5 ce5] 29)).cell? ⟨w5.heap.size, 1, none⟩ = some (.int .i64 sr) := k5.cell (j := 1) rfl
    have f52 : (w5.alloc (.cells #[.slice A5 na5 ca5, .int .i64 sr, .slice M5 nm5 cm5, .slice E5 ne5 ce5] 29)).cell? ⟨w5.heap.size, 2, none⟩ = some (.slice M5 nm5 cm5) := k5.cell (j := 2) rfl
    have f53 : (w5.alloc (.cells #[.slice A5 na5 ca5, .int .i64 sr, .slice M5 nm5 cm5, .slice E5 ne5 ce5] 29)).cell? ⟨w5.heap.size, 3, none⟩ = some (.slice E5 ne5 ce5) := k5.cell (j := 3) rfl
    have HQ1 := Lib.hid (automaton_Equal A3 M3 E3 A5 M5 E5 na3 ca3 nm3 cm3 ne3 ce3 na5 ca5 nm5 cm5 ne5 ce5 r r true (w5.alloc (.cells #[.slice A5 na5 ca5, .int .i64 sr, .slice M5 nm5 cm5, .slice E5 ne5 ce5] 29)) (eqA_of rfl) hA5' hE5)
    rw [HSR.out] at HQ1
    have HB5 := Lib.hid hB5; clear hB5
    clear hb5 hb5a hb5c k5 k8 hA5' hE5 haO HRS HBV HAV KV HXV HYV HRV
    go_wp2_with fail
    refine HQ1.out.mono ?_
    rintro e wx ⟨rfl, hbx⟩
    go_wp2
    go_ret
    exact ⟨rfl, HB5.out.trans (hbx.mono HB5.out.size)⟩
theorem meets_walk (p q : Pt) (b : Bool) (w : World) (hp : p.ok) (hq : q.ok) :
    Calls Tryd.prog 6 #[.agg (pcells p).toArray, .agg (pcells q).toArray, .bool b] w fun e w' => e = .returned (.bool true) ∧ Below w.heap.size w w' := by
  cases b with
  | true => exact meets_eq p q w hp hq
  | false =>
    cases h : eqB (ptA p).al (ptA q).al with
    | true => exact meets_same p q w hp hq h
    | false => exact meets_diff p q w hp hq h
end Go.Proofs.YtbdliebjalghmaaDoor
