/- Walks: the law's known. -/
import Derived.Test.YtcchnibgehonoaaDoorDf
import Derived.Test.YtcchnibgehonoaaDoorDe
namespace Go.Proofs.YtcchnibgehonoaaDoor
open Go.RowKit Go Go.Maps
def knP : Aut := ⟨[0, 1], 2, [0], [⟨0, 0, 1⟩, ⟨1, 1, 0⟩]⟩
def knN : Aut := ⟨[1], 1, [], []⟩
def knQ : Aut := ⟨[0, 1], 2, [], [⟨0, 0, 1⟩]⟩
def knU : List (List Int) := [[0, 0], [1, 0]]
theorem kn_prob : Prob knP knN [1] knQ knU :=
 ⟨chkA_wf (by kernel_rfl), chkA_wf (by kernel_rfl), by simp [Inc], by simp, by kernel_rfl, by simp [knP], by simp [knN], by kernel_rfl⟩
theorem kn_chk : chkO knP knN (intS [1] knP.al) knQ knU 2 = ([0], 1, false) := by kernel_rfl
theorem kn_sup : supA knP knN (intS [1] knP.al) knQ knU 2 = ⟨[0, 1], 1, [0], []⟩ := by kernel_rfl
theorem kn_inf : infA knP knN (intS [1] knP.al) knQ = ⟨[0, 1], 3, [0, 1, 2], [⟨0, 0, 1⟩, ⟨1, 1, 2⟩]⟩ := by kernel_rfl
theorem kn_cl : clS knP.ed [0] true 2 [1] = [0, 1] := by kernel_rfl
set_option maxHeartbeats 400000 in
theorem word_Equal_n (A B : Option Addr) (c d na nb : Nat) (a b : List Int) (q : Bool) (w : World) (hna : a.length = na) (hnb : b.length = nb) (hq : eqB a b = q) (ha : RdI w w.heap.size A a) (hac : na ≤ c) (hc : c ≤ 9223372036854775807) (hb : RdI w w.heap.size B b) :
  Calls Tryd.prog 37 #[.slice A na c, .slice B nb d] w fun e w' => e = .returned (.bool q) ∧ ∃ n, w' = w.drewN n := by
 have HE := Lib.hid (slices_Equal_n A B c d na nb a b q w hna hnb hq ha hac hc hb)
 clear hna hnb hq ha hb
 go_enter Tryd.func37, Tryd.ntmps37
 go_wp2_with fail
 refine HE.out.mono ?_
 rintro e w' ⟨rfl, n, rfl⟩
 go_wp2
 go_ret
 exact ⟨rfl, n, rfl⟩
set_option maxRecDepth 100000 in
set_option maxHeartbeats 6400000 in
theorem law_known26 (w : World) : Calls Tryd.prog 11 #[] w fun e w' => e = .returned (.bool true) ∧ Below w.heap.size w w' := by
 obtain ⟨w6, hw6⟩ : ∃ w6, w6 = ((((((w.alloc (.cells #[.int .i64 0, .int .i64 1] 3)).alloc (.cells #[.int .i64 0] 3)).alloc (.cells #[.int .i64 0, .int .i64 0, .int .i64 1, .int .i64 1, .int .i64 1, .int .i64 0] 83)).alloc (.cells #[.slice (some ⟨w.heap.size, 0, none⟩) 2 2, .int .i64 2, .slice (some ⟨w.heap.size + 1, 0, none⟩) 1 1, .slice (some ⟨w.heap.size + 1 + 1, 0, none⟩) 2 2] 25)).alloc (.cells #[.int .i64 1] 3)).alloc (.cells #[.slice (some ⟨w.heap.size + 1 + 1 + 1 + 1, 0, none⟩) 1 1, .int .i64 1, .slice none 0 0, .slice none 0 0] 25)) := ⟨_, rfl⟩
 have hA : AutR w6 w6.heap.size (some ⟨w.heap.size, 0, none⟩) 2 2 (some ⟨w.heap.size + 1, 0, none⟩) 1 1 (some ⟨w.heap.size + 1 + 1, 0, none⟩) 2 2 knP := by rw [hw6]; exact ⟨rfl, by simp, by simp, Blk.rdi (t := 3) (by (repeat (first | (refine Blk.at_ _ _ _ ?_; simp; done) | (refine Blk.at_ _ _ _ rfl) | refine Blk.al ?_ _))), rfl, by simp, by simp, Blk.rdi (t := 3) (by (repeat (first | (refine Blk.at_ _ _ _ ?_; simp; done) | (refine Blk.at_ _ _ _ rfl) | refine Blk.al ?_ _))), rfl, by simp, by simp, Blk.rdx (t := 83) (by (repeat (first | (refine Blk.at_ _ _ _ ?_; simp; done) | (refine Blk.at_ _ _ _ rfl) | refine Blk.al ?_ _)))⟩
 have hN : AutR w6 w6.heap.size (some ⟨w.heap.size + 1 + 1 + 1 + 1, 0, none⟩) 1 1 none 0 0 none 0 0 knN := by rw [hw6]; exact ⟨rfl, by simp, by simp, Blk.rdi (t := 3) (by (repeat (first | (refine Blk.at_ _ _ _ ?_; simp; done) | (refine Blk.at_ _ _ _ rfl) | refine Blk.al ?_ _))), rfl, by simp, by simp, RdI.nil, rfl, by simp, by simp, RdX.nil⟩
 have kA : Blk w6 (w.heap.size + 1 + 1 + 1) 25 [.slice (some ⟨w.heap.size, 0, none⟩) 2 2, .int .i64 2, .slice (some ⟨w.heap.size + 1, 0, none⟩) 1 1, .slice (some ⟨w.heap.size + 1 + 1, 0, none⟩) 2 2] := by rw [hw6]; (repeat (first | (refine Blk.at_ _ _ _ ?_; simp; done) | (refine Blk.at_ _ _ _ rfl) | refine Blk.al ?_ _))
 have kB : Blk w6 (w.heap.size + 1 + 1 + 1 + 1 + 1) 25 [.slice (some ⟨w.heap.size + 1 + 1 + 1 + 1, 0, none⟩) 1 1, .int .i64 1, .slice none 0 0, .slice none 0 0] := by rw [hw6]; (repeat (first | (refine Blk.at_ _ _ _ ?_; simp; done) | (refine Blk.at_ _ _ _ rfl) | refine Blk.al ?_ _))
 have hb6 : Below w.heap.size w w6 := by rw [hw6]; (repeat (first | assumption | exact Below.refl _ _ | refine below_drewN ?_ _ | (refine Below.alloc ?_ ?_ _; rotate_left; · first | (simp; done) | (simp; omega))))
 have HA := Lib.hid hA; clear hA
 have HN := Lib.hid hN; clear hN
 have KA := Lib.hid kA; clear kA
 have KB := Lib.hid kB; clear kB
 have HB6 := Lib.hid hb6; clear hb6
 have HW6 := Lib.hid hw6; clear hw6
 go_enter Tryd.func11, Tryd.ntmps11
 go_upto_region 3 with fail
 rw [← HW6.out]
 have HBA := Lib.hid (Below.refl w6.heap.size w6)
 have hq := box_below w6 (.cells #[.int .i64 1] 3)
 have hQ := HBA.out.trans (hq.mono HBA.out.size)
 have HC := Lib.hid (check_ok (some ⟨w.heap.size, 0, none⟩) (some ⟨w.heap.size + 1, 0, none⟩) (some ⟨w.heap.size + 1 + 1, 0, none⟩) (some ⟨w.heap.size + 1 + 1 + 1 + 1, 0, none⟩) none none 2 2 1 1 2 2 1 1 0 0 0 0 knP knN (some ⟨w6.heap.size, 0, none⟩) 1 1 [1] (w6.alloc (.cells #[.int .i64 1] 3)) ((HA.out.below hQ).more hQ.size) ((HN.out.below hQ).more hQ.size) rfl (Blk.rdi (t := 3) (Blk.new _ _ _)) (Nat.le_refl _) (by omega) knQ knU kn_prob 2 rfl)
 rw [kn_chk] at HC
 have HQ := Lib.hid hq
 have kAw := KA.out.below HBA.out KA.out.lt
 have kBw := KB.out.below HBA.out KB.out.lt
 have a0 := kAw.cell (j := 0) rfl
 have a1 := kAw.cell (j := 1) rfl
 have a2 := kAw.cell (j := 2) rfl
 have a3 := kAw.cell (j := 3) rfl
 have la := kAw.lt
 have b0 := kBw.cell (j := 0) rfl
 have b1 := kBw.cell (j := 1) rfl
 have b2 := kBw.cell (j := 2) rfl
 have b3 := kBw.cell (j := 3) rfl
 have lb := kBw.lt
 clear hq hQ kAw kBw
 go_wp2_with fail
 refine HC.out.mono ?_
 rintro e w7 ⟨v7, he7, ho7, hb7⟩
 have he7 : e = .returned (.tuple #[v7, .int .i64 1, .bool false, .int .i64 0]) := he7
 subst he7
 have ho7 : w7.ownsRow _ 3 1 v7 1 (iv [0]) := ho7
 obtain ⟨A7, c7, rfl⟩ := own_shape ho7
 have HR7 := Lib.hid (RdI.of_own ho7)
 obtain ⟨hc7, hc7'⟩ := own_cap' ho7
 clear a0 a1 a2 a3 b0 b1 b2 b3 la lb HC
 have hs := HQ.out.trans (hb7.mono HQ.out.size)
 have HB7 := Lib.hid (HBA.out.trans (hs.mono HBA.out.size))
 clear hs ho7 hb7 HQ HBA
 have hq := box_below w7 (.cells #[.int .i64 1] 3)
 have hQ := HB7.out.trans (hq.mono HB7.out.size)
 have HC := Lib.hid (supremal_ok (some ⟨w.heap.size, 0, none⟩) (some ⟨w.heap.size + 1, 0, none⟩) (some ⟨w.heap.size + 1 + 1, 0, none⟩) (some ⟨w.heap.size + 1 + 1 + 1 + 1, 0, none⟩) none none 2 2 1 1 2 2 1 1 0 0 0 0 knP knN (some ⟨w7.heap.size, 0, none⟩) 1 1 [1] (w7.alloc (.cells #[.int .i64 1] 3)) ((HA.out.below hQ).more hQ.size) ((HN.out.below hQ).more hQ.size) rfl (Blk.rdi (t := 3) (Blk.new _ _ _)) (Nat.le_refl _) (by omega) knQ knU kn_prob 2 rfl)
 rw [kn_sup] at HC
 have HQ := Lib.hid hq
 have kAw := KA.out.below HB7.out KA.out.lt
 have kBw := KB.out.below HB7.out KB.out.lt
 have a0 := kAw.cell (j := 0) rfl
 have a1 := kAw.cell (j := 1) rfl
 have a2 := kAw.cell (j := 2) rfl
 have a3 := kAw.cell (j := 3) rfl
 have la := kAw.lt
 have b0 := kBw.cell (j := 0) rfl
 have b1 := kBw.cell (j := 1) rfl
 have b2 := kBw.cell (j := 2) rfl
 have b3 := kBw.cell (j := 3) rfl
 have lb := kBw.lt
 clear hq hQ kAw kBw
 go_wp2_with fail
 refine HC.out.mono ?_
 rintro e w8 ⟨A8, na8, ca8, M8, nm8, cm8, E8, ne8, ce8, rfl, ho8, hb8⟩
 obtain rfl : 2 = na8 := ho8.la
 obtain rfl : 0 = ne8 := ho8.le
 dsimp only
 clear a0 a1 a2 a3 b0 b1 b2 b3 la lb HC
 have hs := HQ.out.trans (hb8.mono HQ.out.size)
 have HB8 := Lib.hid (HB7.out.trans (hs.mono HB7.out.size))
 have hx := box_below w8 (.cells #[.slice A8 2 ca8, .int .i64 1, .slice M8 nm8 cm8, .slice E8 0 ce8] 25)
 have K8 := Lib.hid (show Blk (w8.alloc (.cells #[.slice A8 2 ca8, .int .i64 1, .slice M8 nm8 cm8, .slice E8 0 ce8] 25)) w8.heap.size 25 [.slice A8 2 ca8, .int .i64 1, .slice M8 nm8 cm8, .slice E8 0 ce8] from Blk.new _ _ [_, _, _, _])
 have HB8b := Lib.hid (HB8.out.trans (hx.mono HB8.out.size))
 have HR8 := Lib.hid ((((HR7.out.below hs).more hs.size).below hx).more hx.size)
 clear hs ho8 hb8 hx HQ HB8 HR7 HB7
 go_upto_region 5 with fail
 obtain ⟨w8b, hw8b⟩ : ∃ w8b, w8b = w8.alloc (.cells #[.slice A8 2 ca8, .int .i64 1, .slice M8 nm8 cm8, .slice E8 0 ce8] 25) := ⟨_, rfl⟩
 rw [← hw8b] at K8 HB8b HR8 ⊢
 clear hw8b
 have hq := box_below w8b (.cells #[.int .i64 1] 3)
 have hQ := HB8b.out.trans (hq.mono HB8b.out.size)
 have HC := Lib.hid (infimal_ok (some ⟨w.heap.size, 0, none⟩) (some ⟨w.heap.size + 1, 0, none⟩) (some ⟨w.heap.size + 1 + 1, 0, none⟩) (some ⟨w.heap.size + 1 + 1 + 1 + 1, 0, none⟩) none none 2 2 1 1 2 2 1 1 0 0 0 0 knP knN (some ⟨w8b.heap.size, 0, none⟩) 1 1 [1] (w8b.alloc (.cells #[.int .i64 1] 3)) ((HA.out.below hQ).more hQ.size) ((HN.out.below hQ).more hQ.size) rfl (Blk.rdi (t := 3) (Blk.new _ _ _)) (Nat.le_refl _) (by omega) knQ knU kn_prob 2 rfl (fun _ => ⟨by simp [knP], by simp [knN]⟩))
 rw [kn_inf] at HC
 have HQ := Lib.hid hq
 have kAw := KA.out.below HB8b.out KA.out.lt
 have kBw := KB.out.below HB8b.out KB.out.lt
 have a0 := kAw.cell (j := 0) rfl
 have a1 := kAw.cell (j := 1) rfl
 have a2 := kAw.cell (j := 2) rfl
 have a3 := kAw.cell (j := 3) rfl
 have la := kAw.lt
 have b0 := kBw.cell (j := 0) rfl
 have b1 := kBw.cell (j := 1) rfl
 have b2 := kBw.cell (j := 2) rfl
 have b3 := kBw.cell (j := 3) rfl
 have lb := kBw.lt
 clear hq hQ kAw kBw
 go_wp2_with fail
 refine HC.out.mono ?_
 rintro e w9 ⟨A9, na9, ca9, M9, nm9, cm9, E9, ne9, ce9, rfl, ho9, hb9⟩
 obtain rfl : 2 = na9 := ho9.la
 obtain rfl : 2 = ne9 := ho9.le
 dsimp only
 clear a0 a1 a2 a3 b0 b1 b2 b3 la lb HC
 have hs := HQ.out.trans (hb9.mono HQ.out.size)
 have HB9 := Lib.hid (HB8b.out.trans (hs.mono HB8b.out.size))
 have hx := box_below w9 (.cells #[.slice A9 2 ca9, .int .i64 3, .slice M9 nm9 cm9, .slice E9 2 ce9] 25)
 have K9 := Lib.hid (show Blk (w9.alloc (.cells #[.slice A9 2 ca9, .int .i64 3, .slice M9 nm9 cm9, .slice E9 2 ce9] 25)) w9.heap.size 25 [.slice A9 2 ca9, .int .i64 3, .slice M9 nm9 cm9, .slice E9 2 ce9] from Blk.new _ _ [_, _, _, _])
 have HB9b := Lib.hid (HB9.out.trans (hx.mono HB9.out.size))
 have K8c := Lib.hid ((K8.out.below hs K8.out.lt).below hx (K8.out.below hs K8.out.lt).lt)
 have HR9 := Lib.hid ((((HR8.out.below hs).more hs.size).below hx).more hx.size)
 clear hs ho9 hb9 hx HQ HB9 K8 HR8 HB8b
 go_upto_region 6 with fail
 obtain ⟨w9b, hw9b⟩ : ∃ w9b, w9b = w9.alloc (.cells #[.slice A9 2 ca9, .int .i64 3, .slice M9 nm9 cm9, .slice E9 2 ce9] 25) := ⟨_, rfl⟩
 rw [← hw9b] at K9 K8c HB9b HR9 ⊢
 clear hw9b
 have hq : Below w9b.heap.size w9b ((w9b.alloc (.cells #[.int .i64 1] 3)).alloc (.cells #[.int .i64 0] 3)) := by (repeat (first | assumption | exact Below.refl _ _ | refine below_drewN ?_ _ | (refine Below.alloc ?_ ?_ _; rotate_left; · first | (simp; done) | (simp; omega))))
 have hQ := HB9b.out.trans (hq.mono HB9b.out.size)
 have HC := Lib.hid (backward_ok (some ⟨w.heap.size, 0, none⟩) (some ⟨w.heap.size + 1, 0, none⟩) (some ⟨w.heap.size + 1 + 1, 0, none⟩) 2 2 1 1 2 2 knP (some ⟨w9b.heap.size, 0, none⟩) 1 1 [1] (some ⟨w9b.heap.size + 1, 0, none⟩) 1 1 [0] 2 ((w9b.alloc (.cells #[.int .i64 1] 3)).alloc (.cells #[.int .i64 0] 3)) ((HA.out.below hQ).more hQ.size) rfl rfl (Blk.rdi (t := 3) (by (repeat (first | (refine Blk.at_ _ _ _ ?_; simp; done) | (refine Blk.at_ _ _ _ rfl) | refine Blk.al ?_ _)))) (by omega) (by omega) rfl (Blk.rdi (t := 3) (by (repeat (first | (refine Blk.at_ _ _ _ ?_; simp; done) | (refine Blk.at_ _ _ _ rfl) | refine Blk.al ?_ _)))) (by omega) (by omega) (by kernel_rfl))
 rw [kn_cl] at HC
 have HQ := Lib.hid hq
 have kAw := KA.out.below HB9b.out KA.out.lt
 have a0 := kAw.cell (j := 0) rfl
 have a1 := kAw.cell (j := 1) rfl
 have a2 := kAw.cell (j := 2) rfl
 have a3 := kAw.cell (j := 3) rfl
 have la := kAw.lt
 clear hq hQ kAw
 go_wp2_with fail
 refine HC.out.mono ?_
 rintro e wx ⟨vx, rfl, hox, hbx⟩
 have hox : wx.ownsRow _ 3 1 vx 2 (iv [0, 1]) := hox
 obtain ⟨AX, cX, rfl⟩ := own_shape hox
 have hs := HQ.out.trans (hbx.mono HQ.out.size)
 have HBX := Lib.hid (HB9b.out.trans (hs.mono HB9b.out.size))
 have k8 := K8c.out.below hs K8c.out.lt
 have k9 := K9.out.below hs K9.out.lt
 have HRX := Lib.hid ((HR9.out.below hs).more hs.size)
 have hbe := box_below wx (.cells #[.int .i64 0] 3)
 have HE := Lib.hid (word_Equal_n A7 (some ⟨wx.heap.size, 0, none⟩) c7 1 1 1 [0] [0] true (wx.alloc (.cells #[.int .i64 0] 3)) rfl rfl rfl ((HRX.out.below hbe).more hbe.size) hc7 hc7' (Blk.rdi (t := 3) (Blk.new _ _ _)))
 have HBE := Lib.hid (HBX.out.trans (hbe.mono HBX.out.size))
 have K8x := Lib.hid (k8.below hbe k8.lt)
 have K9x := Lib.hid (k9.below hbe k9.lt)
 clear hox hbx hs k8 k9 hbe a0 a1 a2 a3 la HC HQ K8c K9 HR9
 go_wp2_with fail
 refine HE.out.mono ?_
 rintro e wy ⟨rfl, ny, hwy⟩
 have hby := below_drewN (Below.refl (wx.alloc (.cells #[.int .i64 0] 3)).heap.size (wx.alloc (.cells #[.int .i64 0] 3))) ny
 rw [← hwy] at hby
 have k8 := K8x.out.below hby K8x.out.lt
 have k9 := K9x.out.below hby K9x.out.lt
 have HBY := Lib.hid (HB6.out.trans ((HBE.out.trans (hby.mono HBE.out.size)).mono HB6.out.size))
 have s0 := k8.cell (j := 0) rfl
 have s1 := k8.cell (j := 1) rfl
 have s3 := k8.cell (j := 3) rfl
 have i1 := k9.cell (j := 1) rfl
 have i3 := k9.cell (j := 3) rfl
 have l8 := k8.lt
 have l9 := k9.lt
 clear hwy hby k8 k9 HE
 go_wp2
 go_ret
 exact ⟨rfl, HBY.out⟩
end Go.Proofs.YtcchnibgehonoaaDoor
