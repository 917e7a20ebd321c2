/- Walks: the law's known. -/
import Derived.Test.YtbdliebjalghmaaDoorMm
namespace Go.Proofs.YtbdliebjalghmaaDoor
open Go.RowKit Go Go.Maps

theorem law_same_n (A B : Option Addr) (c d na nb : Nat) (a b : List Int) (q : Bool) (w : World) (hna : a.length = na) (hnb : b.length = nb) (hq : eqB a b = q) (ha : RdI w w.heap.size A a) (hac : na ≤ c) (hc : c ≤ 9223372036854775807)
    (hb : RdI w w.heap.size B b) : Calls Tryd.prog 21 #[.slice A na c, .slice B nb d] w fun e w' => e = .returned (.bool q) ∧ ∃ n, w' = w.drewN n := by
  subst hna hnb hq; exact law_same A B c d a b w ha hac hc hb
theorem law_sameAll_n (A C : Option Addr) (ca cc na nb : Nat) (xs ys : List SlV) (q : Bool) (w : World) (hna : xs.length = na) (hnb : ys.length = nb) (hq : sameB (xs.map SlV.l) (ys.map SlV.l) = q) (hx : RdS w w.heap.size A xs) (hx1 : na ≤ ca) (hx2 : ca ≤ 9223372036854775807) (hy : RdS w w.heap.size C ys) :
    Calls Tryd.prog 19 #[.slice A na ca, .slice C nb cc] w fun e w' => e = .returned (.bool q) ∧ ∃ n, w' = w.drewN n := by
  subst hna hnb hq; exact law_sameAll A C ca cc xs ys w hx hx1 hx2 hy

set_option maxRecDepth 100000 in
set_option maxHeartbeats 6400000 in
theorem law_known (w : World) : Calls Tryd.prog 13 #[] w fun e w' => e = .returned (.bool true) ∧ Below w.heap.size w w' := by
  have HT0 := Lib.hid (law_two w)
  go_enter Tryd.func13, Tryd.ntmps13
  go_wp2_with fail
  refine HT0.out.mono ?_
  rintro e w1 ⟨hb1, A1, xs1, rfl, hl1, hr1, hm1⟩
  have HS1 := Lib.hid (product_Synchronous A1 2 2 xs1 w1 hl1 hr1 (by omega) (by omega) (by rw [hm1]; exact chkL_two) (by rw [hm1]; simp [twoL]))
  rw [hm1, synR_two] at HS1
  have HB1 := Lib.hid hb1; clear hb1
  clear hr1 hm1 hl1 HT0
  go_wp2_with fail
  refine HS1.out.mono ?_
  rintro e w2 ⟨hb2, A, na, ca, M, nm, cm, E, ne, ce, B, nb, cb, ts, rfl, haR, htS, htn, hnb, hcb, htl, hfr⟩
  have F2 := HB1.out.trans (hb2.mono HB1.out.size)
  have l2 := F2.size
  have b2 := box_below w2 (.cells #[.slice A na ca, .int .i64 4, .slice M nm cm, .slice E ne ce] 29)
  have k2 : Blk (w2.alloc (.cells #[.slice A na ca, .int .i64 4, .slice M nm cm, .slice E ne ce] 29)) w2.heap.size 29 [.slice A na ca, .int .i64 4, .slice M nm cm, .slice E ne ce] := Blk.new _ _ _
  have HT3 := Lib.hid (law_two (w2.alloc (.cells #[.slice A na ca, .int .i64 4, .slice M nm cm, .slice E ne ce] 29)))
  rw [show (knA.st : Int) = 4 from rfl]
  have HA := Lib.hid haR; clear haR
  have HTS := Lib.hid htS; clear htS
  have HTN := Lib.hid htn; clear htn
  have HTL := Lib.hid htl; clear htl
  have F2h := Lib.hid F2; clear F2
  have B2h := Lib.hid b2; clear b2
  have K2 := Lib.hid k2; clear k2
  clear hb2 HB1 HS1 hfr
  go_wp2_with fail
  refine HT3.out.mono ?_
  rintro e w3 ⟨hb3, A3, xs3, rfl, hl3, hr3, hm3⟩
  have G3 := B2h.out.trans (hb3.mono B2h.out.size)
  have hB4 := box_below w3 (.cells #[.int .i64 0, .int .i64 0] 3)
  have HR4 := Lib.hid (refusers_ok A3 2 2 xs3 (some ⟨w3.heap.size, 0, none⟩) 2 2 [0, 0] 2 (w3.alloc (.cells #[.int .i64 0, .int .i64 0] 3)) hl3 ((hr3.below hB4).more hB4.size) (by omega) (by omega) (Blk.rdi (t := 3) (Blk.new w3 _ _)) rfl (by rw [hm3]; kernel_rfl))
  rw [hm3, show rfsG twoL [0, 0] 2 0 = [1] by kernel_rfl] at HR4
  have K3 := Lib.hid (K2.out.below hb3 (by simp))
  have G3h := Lib.hid G3; clear G3
  clear hr3 hm3 hl3 HT3 hb3 K2 B2h
  go_wp2_with fail
  refine HR4.out.mono ?_
  rintro e w4 ⟨v4, rfl, ho4, hb4⟩
  have ho4' : w4.ownsRow (w3.alloc (.cells #[.int .i64 0, .int .i64 0] 3)).heap.size 3 1 v4 1 (iv [1]) := ho4
  clear ho4
  obtain ⟨A4, c4, rfl⟩ := own_shape ho4'
  have hcap4 := own_cap' ho4'
  have hr4 := RdI.of_own ho4'
  have hb4' : Below w3.heap.size w3 w4 := hB4.trans (hb4.mono (by simp))
  have l3 := G3h.out.size
  have G4 := Lib.hid (G3h.out.trans (hb4'.mono l3))
  have K4 := Lib.hid (K3.out.below hb4' K3.out.lt)
  have HC5 := Lib.hid (compose_some none 0 0 3 ⟨[], 1, [0], []⟩ [[]] w4 (fun W _ => by
    have := product_Synchronous none 0 0 [] W rfl RdL.nil (by omega) (by omega) chkL_nil (by simp)
    rwa [show ([] : List AV).map AV.a = [] from rfl, synR_nil] at this))
  have R4 := Lib.hid hr4; clear hr4
  obtain ⟨hcap4, hcap4'⟩ := hcap4
  clear hb4 hb4' ho4' G3h K3 HR4 hB4
  go_wp2_with fail
  refine HC5.out.mono ?_
  rintro e w5 ⟨hb5, A5, na5, ca5, M5, nm5, cm5, E5, ne5, ce5, rfl, haR5⟩
  have l4 := G4.out.size
  have G5 := Lib.hid (G4.out.trans (hb5.mono l4))
  have K5 := Lib.hid (K4.out.below hb5 K4.out.lt)
  have R5 := Lib.hid ((R4.out.below hb5).more hb5.size)
  have l45 := hb5.size
  have l5 := G5.out.size
  have lk := K5.out.lt
  have HA5 := Lib.hid haR5; clear haR5
  have c20 := K5.out.cell (j := 0) rfl
  have c21 := K5.out.cell (j := 1) rfl
  have c22 := K5.out.cell (j := 2) rfl
  have c23 := K5.out.cell (j := 3) rfl
  clear hb5 HC5 K4 R4
  go_wp2_with fail
  refine (law_sameAll_n B (some ⟨w5.heap.size + 5, 0, none⟩) cb 4 nb 4 ts [⟨some ⟨w5.heap.size + 1, 0, none⟩, 2, [0, 0]⟩, ⟨some ⟨w5.heap.size + 2, 0, none⟩, 2, [1, 0]⟩, ⟨some ⟨w5.heap.size + 3, 0, none⟩, 2, [0, 1]⟩, ⟨some ⟨w5.heap.size + 4, 0, none⟩, 2, [1, 1]⟩] true _ HTN.out rfl (by rw [HTL.out]; kernel_rfl) ?_ hnb hcb ?_).mono ?_
  · have hE : ∀ o1 o2 o3 o4 o5 o6 : Obj, Below w5.heap.size w5 ((((((w5.alloc o1).alloc o2).alloc o3).alloc o4).alloc o5).alloc o6) := fun o1 o2 o3 o4 o5 o6 => by (repeat (first | assumption | exact Below.refl _ _ | refine below_drewN ?_ _ | (refine Below.alloc ?_ ?_ _; rotate_left; · first | (simp; done) | (simp; omega))))
    exact ((HTS.out.below G5.out).after (hE _ _ _ _ _ _) l5).more (Nat.le_trans l5 (hE _ _ _ _ _ _).size)
  · refine ⟨Blk.rdv (t := 26) (by (repeat (first | (refine Blk.at_ _ _ _ ?_; simp; done) | (refine Blk.at_ _ _ _ rfl) | refine Blk.al ?_ _))), fun s hs => ?_⟩
    simp only [List.mem_cons, List.not_mem_nil, or_false] at hs
    rcases hs with rfl | rfl | rfl | rfl <;> exact ⟨Blk.rdi (t := 3) (by (repeat (first | (refine Blk.at_ _ _ _ ?_; simp; done) | (refine Blk.at_ _ _ _ rfl) | refine Blk.al ?_ _))), by simp, by simp⟩
  rintro e w6 ⟨rfl, n6, hw6⟩
  have hB6 : Below w5.heap.size w5 w6 := by rw [hw6]; (repeat (first | assumption | exact Below.refl _ _ | refine below_drewN ?_ _ | (refine Below.alloc ?_ ?_ _; rotate_left; · first | (simp; done) | (simp; omega))))
  have K6 := Lib.hid (K5.out.below hB6 K5.out.lt)
  have J6 : Hid (Blk w6 w5.heap.size 29 [.slice A5 na5 ca5, .int .i64 1, .slice M5 nm5 cm5, .slice E5 ne5 ce5]) := Lib.hid (by rw [hw6]; show Blk (World.alloc _ _) _ _ _; (repeat (first | (refine Blk.at_ _ _ _ ?_; simp; done) | (refine Blk.at_ _ _ _ rfl) | refine Blk.al ?_ _)))
  have A6 := Lib.hid ((HA5.out.below hB6).more hB6.size)
  have R6 := Lib.hid ((R5.out.below hB6).more hB6.size)
  have G6 := Lib.hid (G5.out.trans (hB6.mono l5))
  have l6 := hB6.size
  have B26 := Lib.hid (F2h.out)
  clear hw6 c20 c21 c22 c23 K5 R5 HA5 G5
  have c20 := K6.out.cell (j := 0) rfl
  have c21 := K6.out.cell (j := 1) rfl
  have c22 := K6.out.cell (j := 2) rfl
  have c23 := K6.out.cell (j := 3) rfl
  go_wp2_with fail
  have hE6 : ∀ o1 o2 o3 : Obj, Below w6.heap.size w6 (((w6.alloc o1).alloc o2).alloc o3) := fun o1 o2 o3 => by (repeat (first | assumption | exact Below.refl _ _ | refine below_drewN ?_ _ | (refine Below.alloc ?_ ?_ _; rotate_left; · first | (simp; done) | (simp; omega))))
  refine (automaton_Equal A M E (some ⟨w6.heap.size, 0, none⟩) (some ⟨w6.heap.size + 1, 0, none⟩) (some ⟨w6.heap.size + 2, 0, none⟩) na ca nm cm ne ce 3 3 1 1 5 5 knA knA true _ (eqA_of rfl) ?_ ?_).mono ?_
  · exact ((HA.out.below G6.out).after (hE6 _ _ _) (Nat.le_trans l5 l6)).more (Nat.le_trans (Nat.le_trans l5 l6) (hE6 _ _ _).size)
  · exact ⟨rfl, by simp, by simp, Blk.rdi (t := 3) (by (repeat (first | (refine Blk.at_ _ _ _ ?_; simp; done) | (refine Blk.at_ _ _ _ rfl) | refine Blk.al ?_ _))), rfl, by simp, by simp, Blk.rdi (t := 3) (by (repeat (first | (refine Blk.at_ _ _ _ ?_; simp; done) | (refine Blk.at_ _ _ _ rfl) | refine Blk.al ?_ _))), rfl, by simp, by simp, Blk.rdx (t := 43) (by (repeat (first | (refine Blk.at_ _ _ _ ?_; simp; done) | (refine Blk.at_ _ _ _ rfl) | refine Blk.al ?_ _)))⟩
  rintro e w7 ⟨rfl, hb7⟩
  have hB7 : Below w6.heap.size w6 w7 := (hE6 _ _ _).trans (hb7.mono (by simp; omega))
  have J7 := Lib.hid (J6.out.below hB7 J6.out.lt)
  have A7 := Lib.hid ((A6.out.below hB7).more hB7.size)
  have R7 := Lib.hid ((R6.out.below hB7).more hB7.size)
  have G7 := Lib.hid (G6.out.trans (hB7.mono (Nat.le_trans l5 l6)))
  have l7 := hB7.size
  clear hb7 hE6 J6 A6 R6 G6 K6 c20 c21 c22 c23
  have c0 := J7.out.cell (j := 0) rfl
  have c1 := J7.out.cell (j := 1) rfl
  have c2 := J7.out.cell (j := 2) rfl
  have c3 := J7.out.cell (j := 3) rfl
  have lj := J7.out.lt
  go_wp2_with fail
  refine (law_same_n A4 (some ⟨w7.heap.size, 0, none⟩) c4 1 1 1 [1] [1] true _ rfl rfl rfl ?_ hcap4 hcap4' (Blk.rdi (t := 3) (by (repeat (first | (refine Blk.at_ _ _ _ ?_; simp; done) | (refine Blk.at_ _ _ _ rfl) | refine Blk.al ?_ _))))).mono ?_
  · exact (R7.out.below (box_below w7 _)).more (box_below w7 _).size
  rintro e w8 ⟨rfl, n8, hw8⟩
  have hB8 : Below w7.heap.size w7 w8 := by rw [hw8]; (repeat (first | assumption | exact Below.refl _ _ | refine below_drewN ?_ _ | (refine Below.alloc ?_ ?_ _; rotate_left; · first | (simp; done) | (simp; omega))))
  have J8 := Lib.hid (J7.out.below hB8 J7.out.lt)
  have A8 := Lib.hid ((A7.out.below hB8).more hB8.size)
  have G8 := Lib.hid (G7.out.trans (hB8.mono (Nat.le_trans l5 (Nat.le_trans l6 l7))))
  have l8 := hB8.size
  clear hw8 c0 c1 c2 c3 lj J7 A7 R7 G7
  have c0 := J8.out.cell (j := 0) rfl
  have c1 := J8.out.cell (j := 1) rfl
  have c2 := J8.out.cell (j := 2) rfl
  have c3 := J8.out.cell (j := 3) rfl
  have lj := J8.out.lt
  have m1 := A8.out.mc
  have m2 := A8.out.cM
  go_wp2_with fail
  refine (law_same_n M5 (some ⟨w8.heap.size, 0, none⟩) cm5 1 nm5 1 [0] [0] true _ A8.out.lm rfl rfl ?_ m1 m2 (Blk.rdi (t := 3) (by (repeat (first | (refine Blk.at_ _ _ _ ?_; simp; done) | (refine Blk.at_ _ _ _ rfl) | refine Blk.al ?_ _))))).mono ?_
  · exact (A8.out.rm.below (box_below w8 _)).more (box_below w8 _).size
  rintro e w9 ⟨rfl, n9, hw9⟩
  have hB9 : Below w8.heap.size w8 w9 := by rw [hw9]; (repeat (first | assumption | exact Below.refl _ _ | refine below_drewN ?_ _ | (refine Below.alloc ?_ ?_ _; rotate_left; · first | (simp; done) | (simp; omega))))
  have G9 := Lib.hid (F2h.out.trans ((G8.out.trans (hB9.mono (Nat.le_trans l5 (Nat.le_trans l6 (Nat.le_trans l7 l8))))).mono l2))
  clear hw9
  go_wp2
  go_ret
  exact ⟨rfl, G9.out⟩
end Go.Proofs.YtbdliebjalghmaaDoor
