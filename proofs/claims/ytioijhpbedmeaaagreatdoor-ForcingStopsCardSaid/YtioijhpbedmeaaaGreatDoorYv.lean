/- Walks: the statements' known (chapter 45). Printed by wip/mkyv.py. -/
import Derived.Test.YtioijhpbedmeaaaGreatDoorYu
namespace Go.Proofs.YtioijhpbedmeaaaGreatDoor
open Go.RowKit Go Go.Maps

def exQ (b : Bool) : Aut := ⟨[0, 1, 2], if b = true then 2 else 1, [0], if b = true then [⟨0, 0, 1⟩, ⟨1, 0, 1⟩, ⟨1, 2, 1⟩] else []⟩
def exT (b : Bool) : List (List Int) := if b = true then [[0, 0], [0, 1]] else [[0, 0]]
theorem ex_prob (b : Bool) : Prob exP (exS b) (exQ b) (exT b) := by
 cases b with
 | true => exact ⟨chkA_wf (by kernel_rfl), chkA_wf (by kernel_rfl), by simp [exP, exS], by simp [exP], by simp [exS], by kernel_rfl⟩
 | false => exact ⟨chkA_wf (by kernel_rfl), chkA_wf (by kernel_rfl), by simp [exP, exS], by simp [exP], by simp [exS], by kernel_rfl⟩
theorem ex_chk (b : Bool) : chkF exP (exS b) [] [0] 2 = 0 := by cases b <;> kernel_rfl
theorem ex_chk0 (b : Bool) : chkF exP (exS b) [] [] 2 = 0 := by cases b <;> kernel_rfl
theorem ex_ctl1 : ctlE exP (exQ true) (exT true) [] [0] 2 = ([], 0, true) := by kernel_rfl
theorem ex_ctl2 : ctlE exP (exQ false) (exT false) [] [0] 2 = ([], 2, false) := by kernel_rfl
theorem ex_ctl3 : ctlE exP (exQ true) (exT true) [] [] 2 = ([], 2, false) := by kernel_rfl
theorem ex_pre : preE exP (exQ true) (exT true) 2 = [0] := by kernel_rfl
theorem ex_frc : ([0] : List Int).map (frcE (exQ true) [0]) = [[0]] := by kernel_rfl
section
variable {z : SV} {P S q : Aut} {T : List (List Int)} {u f : List Int} {tick : Int} {w : World}
theorem ctl_sv (hp : z.p.a = P) (hs : z.s.a = S) (hu : z.u = u) (hf : z.f = f) (ht : z.tick = tick) (hz : z.ok w w.heap.size) (hP : Prob P S q T) (hc : chkF P S u f tick = 0) (hU : subE u P.al = 0) (hF : subE f P.al = 0) :
  Calls Tryz.prog 13 #[.agg (svc z).toArray] w (RetCtl (ctlE P q T u f tick) w) := by
 subst hp hs hu hf ht; exact controllable_ok z q T w hz hP hc hU hF
theorem pre_sv (hp : z.p.a = P) (hs : z.s.a = S) (hu : z.u = u) (hf : z.f = f) (ht : z.tick = tick) (hz : z.ok w w.heap.size) (hP : Prob P S q T) (hc : chkF P S u f tick = 0) :
  Calls Tryz.prog 20 #[.agg (svc z).toArray] w (RetOE 3 (preE P q T tick) w) := by
 subst hp hs hu hf ht; exact preempted_ok z q T w hz hP hc
theorem frc_sv (hp : z.p.a = P) (hs : z.s.a = S) (hu : z.u = u) (hf : z.f = f) (ht : z.tick = tick) (hz : z.ok w w.heap.size) (hP : Prob P S q T) (hc : chkF P S u f tick = 0) (hF : subE f P.al = 0) :
  Calls Tryz.prog 21 #[.agg (svc z).toArray] w (RetLL ((preE P q T tick).map (frcE q f)) w) := by
 subst hp hs hu hf ht; exact forced_ok z q T w hz hP hc hF
end
set_option maxRecDepth 100000 in
set_option maxHeartbeats 6400000 in
theorem law_known45 (w : World) : Calls Tryz.prog 10 #[] w fun e w' => e = .returned (.bool true) ∧ Below w.heap.size w w' := by
 have HB0 := Lib.hid (Below.refl w.heap.size w)
 go_enter Tryz.func10, Tryz.ntmps10
 have hq := box_below w (.cells #[.int .i64 0] 3)
 have HX := Lib.hid (law_example true (some ⟨w.heap.size, 0, none⟩) 1 1 [0] (w.alloc (.cells #[.int .i64 0] 3)) rfl (Blk.rdi (t := 3) (Blk.new _ _ _)) (Nat.le_refl _) (by omega))
 have HQ := Lib.hid (HB0.out.trans (hq.mono HB0.out.size))
 clear hq
 go_wp2_with fail
 refine HX.out.mono ?_
 rintro e x1 ⟨z1, rfl, hp, hs, hu, hf, ht, hz, hb⟩
 have HE1 := Lib.hid (HQ.out.trans (hb.mono HQ.out.size))
 have HC := Lib.hid (ctl_sv hp hs hu hf ht hz (ex_prob true) (ex_chk true) (by kernel_rfl) (by kernel_rfl))
 rw [ex_ctl1] at HC
 clear hp hs hu hf ht hz hb HX HQ HB0
 go_wp2_with fail
 refine HC.out.mono ?_
 rintro e y1 ⟨v, rfl, ho, hb⟩
 have ho : y1.ownsRow _ 3 1 v 0 (iv []) := ho
 obtain ⟨A1, c1, rfl⟩ := own_shape ho
 dsimp only
 have HF1 := Lib.hid (HE1.out.trans (hb.mono HE1.out.size))
 clear ho hb HC HE1
 have hx := box_below y1 (.cells #[.slice A1 0 c1, .int .i64 0] 42)
 have K1 := Lib.hid (show Blk (y1.alloc (.cells #[.slice A1 0 c1, .int .i64 0] 42)) y1.heap.size 42 [.slice A1 0 c1, .int .i64 0] from Blk.new _ _ [_, _])
 have HG1 := Lib.hid (HF1.out.trans (hx.mono HF1.out.size))
 obtain ⟨w1, hn⟩ : ∃ v, v = y1.alloc (.cells #[.slice A1 0 c1, .int .i64 0] 42) := ⟨_, rfl⟩
 rw [← hn] at K1 HG1
 clear hx
 clear HF1 K1
 go_upto_region 2 with fail
 rw [← hn]
 clear hn
 have hq := box_below w1 (.cells #[.int .i64 0] 3)
 have HX := Lib.hid (law_example true (some ⟨w1.heap.size, 0, none⟩) 1 1 [0] (w1.alloc (.cells #[.int .i64 0] 3)) rfl (Blk.rdi (t := 3) (Blk.new _ _ _)) (Nat.le_refl _) (by omega))
 have HQ := Lib.hid (HG1.out.trans (hq.mono HG1.out.size))
 clear hq
 go_wp2_with fail
 refine HX.out.mono ?_
 rintro e x2 ⟨z2, rfl, hp, hs, hu, hf, ht, hz, hb⟩
 have HE2 := Lib.hid (HQ.out.trans (hb.mono HQ.out.size))
 have HC := Lib.hid (pre_sv hp hs hu hf ht hz (ex_prob true) (ex_chk true))
 rw [ex_pre] at HC
 clear hp hs hu hf ht hz hb HX HQ HG1
 go_wp2_with fail
 refine HC.out.mono ?_
 rintro e y2 ⟨v, rfl, ho, hb⟩
 have ho : y2.ownsRow _ 3 1 v 1 (iv [0]) := ho
 obtain ⟨A2, c2, rfl⟩ := own_shape ho
 have HR2 := Lib.hid (RdI.of_own ho)
 obtain ⟨k21, k22⟩ := own_cap' ho
 have HF2 := Lib.hid (HE2.out.trans (hb.mono HE2.out.size))
 clear ho hb HC HE2
 go_upto_region 3 with fail
 have hq := box_below y2 (.cells #[.int .i64 0] 3)
 have HX := Lib.hid (law_example true (some ⟨y2.heap.size, 0, none⟩) 1 1 [0] (y2.alloc (.cells #[.int .i64 0] 3)) rfl (Blk.rdi (t := 3) (Blk.new _ _ _)) (Nat.le_refl _) (by omega))
 have HQ := Lib.hid (HF2.out.trans (hq.mono HF2.out.size))
 replace HR2 := Lib.hid ((HR2.out.below hq).more hq.size)
 clear hq
 go_wp2_with fail
 refine HX.out.mono ?_
 rintro e x3 ⟨z3, rfl, hp, hs, hu, hf, ht, hz, hb⟩
 replace HR2 := Lib.hid ((HR2.out.below hb).more hb.size)
 have HE3 := Lib.hid (HQ.out.trans (hb.mono HQ.out.size))
 have HC := Lib.hid (frc_sv hp hs hu hf ht hz (ex_prob true) (ex_chk true) (by kernel_rfl))
 rw [ex_pre, ex_frc] at HC
 clear hp hs hu hf ht hz hb HX HQ HF2
 go_wp2_with fail
 refine HC.out.mono ?_
 rintro e y3 ⟨A3, c3, xs, rfl, hxl, hrs, hc31, hc32, hb⟩
 replace HR2 := Lib.hid ((HR2.out.below hb).more hb.size)
 have hrs : RdS y3 y3.heap.size A3 xs := hrs
 have hx3 : ∃ (A : Option Addr) (c : Nat), xs = [⟨A, c, [0]⟩] := by
  match xs, hxl with
  | [⟨A, c, l⟩], h => simp at h; exact ⟨A, c, by rw [h]⟩
 obtain ⟨B3, d3, rfl⟩ := hx3
 have HR3 := Lib.hid hrs
 have HF3 := Lib.hid (HE3.out.trans (hb.mono HE3.out.size))
 clear hb HC HE3 hrs hxl
 go_upto_region 4 with fail
 have hq := box_below y3 (.cells #[.int .i64 0] 3)
 have HX := Lib.hid (law_example false (some ⟨y3.heap.size, 0, none⟩) 1 1 [0] (y3.alloc (.cells #[.int .i64 0] 3)) rfl (Blk.rdi (t := 3) (Blk.new _ _ _)) (Nat.le_refl _) (by omega))
 have HQ := Lib.hid (HF3.out.trans (hq.mono HF3.out.size))
 replace HR2 := Lib.hid ((HR2.out.below hq).more hq.size)
 replace HR3 := Lib.hid ((HR3.out.below hq).more hq.size)
 clear hq
 go_wp2_with fail
 refine HX.out.mono ?_
 rintro e x4 ⟨z4, rfl, hp, hs, hu, hf, ht, hz, hb⟩
 replace HR2 := Lib.hid ((HR2.out.below hb).more hb.size)
 replace HR3 := Lib.hid ((HR3.out.below hb).more hb.size)
 have HE4 := Lib.hid (HQ.out.trans (hb.mono HQ.out.size))
 have HC := Lib.hid (ctl_sv hp hs hu hf ht hz (ex_prob false) (ex_chk false) (by kernel_rfl) (by kernel_rfl))
 rw [ex_ctl2] at HC
 clear hp hs hu hf ht hz hb HX HQ HF3
 go_wp2_with fail
 refine HC.out.mono ?_
 rintro e y4 ⟨v, rfl, ho, hb⟩
 replace HR2 := Lib.hid ((HR2.out.below hb).more hb.size)
 replace HR3 := Lib.hid ((HR3.out.below hb).more hb.size)
 have ho : y4.ownsRow _ 3 1 v 0 (iv []) := ho
 obtain ⟨A4, c4, rfl⟩ := own_shape ho
 dsimp only
 have HF4 := Lib.hid (HE4.out.trans (hb.mono HE4.out.size))
 clear ho hb HC HE4
 have hx := box_below y4 (.cells #[.slice A4 0 c4, .int .i64 2] 42)
 have K4 := Lib.hid (show Blk (y4.alloc (.cells #[.slice A4 0 c4, .int .i64 2] 42)) y4.heap.size 42 [.slice A4 0 c4, .int .i64 2] from Blk.new _ _ [_, _])
 have HG4 := Lib.hid (HF4.out.trans (hx.mono HF4.out.size))
 replace HR2 := Lib.hid ((HR2.out.below hx).more hx.size)
 replace HR3 := Lib.hid ((HR3.out.below hx).more hx.size)
 obtain ⟨w4, hn⟩ : ∃ v, v = y4.alloc (.cells #[.slice A4 0 c4, .int .i64 2] 42) := ⟨_, rfl⟩
 rw [← hn] at K4 HG4 HR2 HR3
 clear hx
 clear HF4
 go_upto_region 5 with fail
 rw [← hn]
 clear hn
 have HX := Lib.hid (law_example true none 0 0 [] w4 rfl RdI.nil (Nat.le_refl _) (by omega))
 have HQ := HG4
 go_wp2_with fail
 refine HX.out.mono ?_
 rintro e x5 ⟨z5, rfl, hp, hs, hu, hf, ht, hz, hb⟩
 replace HR2 := Lib.hid ((HR2.out.below hb).more hb.size)
 replace HR3 := Lib.hid ((HR3.out.below hb).more hb.size)
 replace K4 := Lib.hid (K4.out.below hb K4.out.lt)
 have HE5 := Lib.hid (HQ.out.trans (hb.mono HQ.out.size))
 have HC := Lib.hid (ctl_sv hp hs hu hf ht hz (ex_prob true) (ex_chk0 true) (by kernel_rfl) (by kernel_rfl))
 rw [ex_ctl3] at HC
 clear hp hs hu hf ht hz hb HX HQ HG4
 go_wp2_with fail
 refine HC.out.mono ?_
 rintro e y5 ⟨v, rfl, ho, hb⟩
 replace HR2 := Lib.hid ((HR2.out.below hb).more hb.size)
 replace HR3 := Lib.hid ((HR3.out.below hb).more hb.size)
 replace K4 := Lib.hid (K4.out.below hb K4.out.lt)
 have ho : y5.ownsRow _ 3 1 v 0 (iv []) := ho
 obtain ⟨A5, c5, rfl⟩ := own_shape ho
 dsimp only
 have HF5 := Lib.hid (HE5.out.trans (hb.mono HE5.out.size))
 clear ho hb HC HE5
 have hx := box_below y5 (.cells #[.slice A5 0 c5, .int .i64 2] 42)
 have K5 := Lib.hid (show Blk (y5.alloc (.cells #[.slice A5 0 c5, .int .i64 2] 42)) y5.heap.size 42 [.slice A5 0 c5, .int .i64 2] from Blk.new _ _ [_, _])
 have HG5 := Lib.hid (HF5.out.trans (hx.mono HF5.out.size))
 replace HR2 := Lib.hid ((HR2.out.below hx).more hx.size)
 replace HR3 := Lib.hid ((HR3.out.below hx).more hx.size)
 replace K4 := Lib.hid (K4.out.below hx K4.out.lt)
 obtain ⟨w5, hn⟩ : ∃ v, v = y5.alloc (.cells #[.slice A5 0 c5, .int .i64 2] 42) := ⟨_, rfl⟩
 rw [← hn] at K5 HG5 HR2 HR3 K4
 clear hx
 clear HF5 K5
 go_upto_region 6 with fail
 rw [← hn]
 clear hn
 have hq := box_below w5 (.cells #[.int .i64 0] 3)
 have HEQ := Lib.hid (slices_Equal_n A2 (some ⟨w5.heap.size, 0, none⟩) c2 1 1 1 [0] [0] true (w5.alloc (.cells #[.int .i64 0] 3)) rfl rfl rfl ((HR2.out.below hq).more hq.size) k21 k22 (Blk.rdi (t := 3) (Blk.new _ _ _)))
 have HQ := Lib.hid (HG5.out.trans (hq.mono HG5.out.size))
 replace HR3 := Lib.hid ((HR3.out.below hq).more hq.size)
 replace K4 := Lib.hid (K4.out.below hq K4.out.lt)
 clear hq
 go_wp2_with fail
 refine HEQ.out.mono ?_
 rintro e w6 ⟨rfl, ny, hwy⟩
 have hby := below_drewN (Below.refl (w5.alloc (.cells #[.int .i64 0] 3)).heap.size (w5.alloc (.cells #[.int .i64 0] 3))) ny
 rw [← hwy] at hby
 have HB6 := Lib.hid (HQ.out.trans (hby.mono HQ.out.size))
 replace HR3 := Lib.hid ((HR3.out.below hby).more hby.size)
 replace K4 := Lib.hid (K4.out.below hby K4.out.lt)
 clear hwy hby HEQ
 obtain ⟨ad, s, rfl, hab, hxs, hcell, hrd, hk1, hk2⟩ := HR3.out.at_ (k := 0) (by simp)
 obtain rfl : s = ⟨B3, d3, [0]⟩ := by simpa using hxs.symm
 dsimp only at hcell hrd hk1 hk2
 rw [List.length_singleton] at hcell
 replace hcell := cell_zero hcell
 have g0 := K4.out.cell (j := 0) rfl
 have g1 := K4.out.cell (j := 1) rfl
 have hq := box_below w6 (.cells #[.int .i64 0] 3)
 have HEQ := Lib.hid (slices_Equal_n B3 (some ⟨w6.heap.size, 0, none⟩) d3 1 1 1 [0] [0] true (w6.alloc (.cells #[.int .i64 0] 3)) rfl rfl rfl ((hrd.below hq).more hq.size) hk1 hk2 (Blk.rdi (t := 3) (Blk.new _ _ _)))
 have HQ := Lib.hid (HB6.out.trans (hq.mono HB6.out.size))
 have K4b := Lib.hid (K4.out.below hq K4.out.lt)
 clear hq hrd hxs HR3
 go_wp2_with fail
 refine HEQ.out.mono ?_
 rintro e w7 ⟨rfl, ny, hwy⟩
 have hby := below_drewN (Below.refl (w6.alloc (.cells #[.int .i64 0] 3)).heap.size (w6.alloc (.cells #[.int .i64 0] 3))) ny
 rw [← hwy] at hby
 have HB7 := Lib.hid (HQ.out.trans (hby.mono HQ.out.size))
 have k4 := K4b.out.below hby K4b.out.lt
 have m0 := k4.cell (j := 0) rfl
 have m1 := k4.cell (j := 1) rfl
 clear hwy hby HEQ k4 g0 g1
 go_wp2
 go_ret
 exact ⟨rfl, HB7.out⟩
end Go.Proofs.YtioijhpbedmeaaaGreatDoor
