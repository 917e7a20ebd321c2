/- Walks: the error paths of diagnosability.Live, Quiet, Twin, Excuse. -/
import Derived.Test.YtddhaidimadliaaKe
namespace Go.Proofs.Ytddhaidimadliaa
open Go.RowKit Go

set_option maxRecDepth 100000 in
set_option maxHeartbeats 3200000 in
theorem dm_Live_err (z : DV) (r : Int) (w : World) (h : z.ok w w.heap.size) (hr : dmE z = r) (h0 : r ≠ 0) :
  Calls Try.prog 11 #[.agg (dvc z).toArray] w fun e w' => e = .returned (.tuple #[.slice none 0 0, .bool false, .int .i64 r]) ∧ Below w.heap.size w w' := by
 obtain ⟨⟨A, na, ca, M, nm, cm, E, ne, ce, a⟩, V, nv, cv, l⟩ := z
 have hb1 := box_below w (.cells #[.slice A na ca, .int .i64 a.st, .slice M nm cm, .slice E ne ce, .slice V nv cv] 37)
 obtain ⟨w1, hw1⟩ : ∃ w1, w1 = w.alloc (.cells #[.slice A na ca, .int .i64 a.st, .slice M nm cm, .slice E ne ce, .slice V nv cv] 37) := ⟨_, rfl⟩
 have kx : Blk w1 w.heap.size 37 [.slice A na ca, .int .i64 a.st, .slice M nm cm, .slice E ne ce, .slice V nv cv] := by rw [hw1]; exact Blk.new _ _ [_, _, _, _, _]
 rw [← hw1] at hb1
 have hok1 := (h.below hb1).more hb1.size
 have HC := Lib.hid (dm_Check _ r w1 hok1 hr)
 unfold dvc at HC ⊢
 dsimp only at HC ⊢
 obtain ⟨sv, hsv⟩ : ∃ s, a.st = s := ⟨_, rfl⟩
 rw [hsv] at hw1 HC kx ⊢
 have a0 := kx.cell (j := 0) rfl
 have a1 := kx.cell (j := 1) rfl
 have a2 := kx.cell (j := 2) rfl
 have a3 := kx.cell (j := 3) rfl
 have a4 := kx.cell (j := 4) rfl
 have b0 : (r != 0) = true := by simpa using h0
 have HW1 := Lib.hid hw1; clear hw1
 have HB1 := Lib.hid hb1; clear hb1
 clear hsv hr h0 h kx hok1
 go_enter Try.func11, Try.ntmps11
 go_wp2_with fail
 rw [← HW1.out]
 refine HC.out.mono ?_
 rintro e w2 ⟨rfl, hb2⟩
 have HB2 := Lib.hid (HB1.out.trans (hb2.mono HB1.out.size))
 clear a0 a1 a2 a3 a4 HC hb2
 go_wp2
 refine bodyPost_ret (v := .tuple #[.slice none 0 0, .bool false, .int .i64 r]) (by simp [results, Try.results11, go_sem]) rfl ?_
 exact ⟨rfl, HB2.out⟩
set_option maxRecDepth 100000 in
set_option maxHeartbeats 3200000 in
theorem dm_Quiet_err (z : DV) (r : Int) (w : World) (h : z.ok w w.heap.size) (hr : dmE z = r) (h0 : r ≠ 0) :
  Calls Try.prog 17 #[.agg (dvc z).toArray] w fun e w' => e = .returned (.tuple #[.slice none 0 0, .slice none 0 0, .bool false, .int .i64 r]) ∧ Below w.heap.size w w' := by
 obtain ⟨⟨A, na, ca, M, nm, cm, E, ne, ce, a⟩, V, nv, cv, l⟩ := z
 have hb1 := box_below w (.cells #[.slice A na ca, .int .i64 a.st, .slice M nm cm, .slice E ne ce, .slice V nv cv] 37)
 obtain ⟨w1, hw1⟩ : ∃ w1, w1 = w.alloc (.cells #[.slice A na ca, .int .i64 a.st, .slice M nm cm, .slice E ne ce, .slice V nv cv] 37) := ⟨_, rfl⟩
 have kx : Blk w1 w.heap.size 37 [.slice A na ca, .int .i64 a.st, .slice M nm cm, .slice E ne ce, .slice V nv cv] := by rw [hw1]; exact Blk.new _ _ [_, _, _, _, _]
 rw [← hw1] at hb1
 have hok1 := (h.below hb1).more hb1.size
 have HC := Lib.hid (dm_Check _ r w1 hok1 hr)
 unfold dvc at HC ⊢
 dsimp only at HC ⊢
 obtain ⟨sv, hsv⟩ : ∃ s, a.st = s := ⟨_, rfl⟩
 rw [hsv] at hw1 HC kx ⊢
 have a0 := kx.cell (j := 0) rfl
 have a1 := kx.cell (j := 1) rfl
 have a2 := kx.cell (j := 2) rfl
 have a3 := kx.cell (j := 3) rfl
 have a4 := kx.cell (j := 4) rfl
 have b0 : (r != 0) = true := by simpa using h0
 have HW1 := Lib.hid hw1; clear hw1
 have HB1 := Lib.hid hb1; clear hb1
 clear hsv hr h0 h kx hok1
 go_enter Try.func17, Try.ntmps17
 go_wp2_with fail
 rw [← HW1.out]
 refine HC.out.mono ?_
 rintro e w2 ⟨rfl, hb2⟩
 have HB2 := Lib.hid (HB1.out.trans (hb2.mono HB1.out.size))
 clear a0 a1 a2 a3 a4 HC hb2
 go_wp2
 refine bodyPost_ret (v := .tuple #[.slice none 0 0, .slice none 0 0, .bool false, .int .i64 r]) (by simp [results, Try.results17, go_sem]) rfl ?_
 exact ⟨rfl, HB2.out⟩
set_option maxRecDepth 100000 in
set_option maxHeartbeats 3200000 in
theorem dm_Twin_err (z : DV) (c : Int) (r : Int) (w : World) (h : z.ok w w.heap.size) (hr : clsE z c = r) (h0 : r ≠ 0) :
  Calls Try.prog 20 #[.agg (dvc z).toArray, .int .i64 c] w fun e w' => e = .returned (.tuple #[.slice none 0 0, .slice none 0 0, .int .i64 r]) ∧ Below w.heap.size w w' := by
 obtain ⟨⟨A, na, ca, M, nm, cm, E, ne, ce, a⟩, V, nv, cv, l⟩ := z
 have hb1 := box_below w (.cells #[.slice A na ca, .int .i64 a.st, .slice M nm cm, .slice E ne ce, .slice V nv cv] 37)
 obtain ⟨w1, hw1⟩ : ∃ w1, w1 = w.alloc (.cells #[.slice A na ca, .int .i64 a.st, .slice M nm cm, .slice E ne ce, .slice V nv cv] 37) := ⟨_, rfl⟩
 have kx : Blk w1 w.heap.size 37 [.slice A na ca, .int .i64 a.st, .slice M nm cm, .slice E ne ce, .slice V nv cv] := by rw [hw1]; exact Blk.new _ _ [_, _, _, _, _]
 rw [← hw1] at hb1
 have hok1 := (h.below hb1).more hb1.size
 have HC := Lib.hid (dm_classed _ c r w1 hok1 hr)
 unfold dvc at HC ⊢
 dsimp only at HC ⊢
 obtain ⟨sv, hsv⟩ : ∃ s, a.st = s := ⟨_, rfl⟩
 rw [hsv] at hw1 HC kx ⊢
 have a0 := kx.cell (j := 0) rfl
 have a1 := kx.cell (j := 1) rfl
 have a2 := kx.cell (j := 2) rfl
 have a3 := kx.cell (j := 3) rfl
 have a4 := kx.cell (j := 4) rfl
 have b0 : (r != 0) = true := by simpa using h0
 have HW1 := Lib.hid hw1; clear hw1
 have HB1 := Lib.hid hb1; clear hb1
 clear hsv hr h0 h kx hok1
 go_enter Try.func20, Try.ntmps20
 go_wp2_with fail
 rw [← HW1.out]
 refine HC.out.mono ?_
 rintro e w2 ⟨rfl, hb2⟩
 have HB2 := Lib.hid (HB1.out.trans (hb2.mono HB1.out.size))
 clear a0 a1 a2 a3 a4 HC hb2
 go_wp2
 refine bodyPost_ret (v := .tuple #[.slice none 0 0, .slice none 0 0, .int .i64 r]) (by simp [results, Try.results20, go_sem]) rfl ?_
 exact ⟨rfl, HB2.out⟩
set_option maxRecDepth 100000 in
set_option maxHeartbeats 3200000 in
theorem dm_Excuse_err (z : DV) (c : Int) (y : IV) (r : Int) (w : World) (h : z.ok w w.heap.size) (hr : clsE z c = r) (h0 : r ≠ 0) :
  Calls Try.prog 28 #[.agg (dvc z).toArray, .int .i64 c, y.v] w fun e w' => e = .returned (.tuple #[.slice none 0 0, .bool false, .int .i64 r]) ∧ Below w.heap.size w w' := by
 obtain ⟨⟨A, na, ca, M, nm, cm, E, ne, ce, a⟩, V, nv, cv, l⟩ := z
 have hb1 := box_below w (.cells #[.slice A na ca, .int .i64 a.st, .slice M nm cm, .slice E ne ce, .slice V nv cv] 37)
 obtain ⟨w1, hw1⟩ : ∃ w1, w1 = w.alloc (.cells #[.slice A na ca, .int .i64 a.st, .slice M nm cm, .slice E ne ce, .slice V nv cv] 37) := ⟨_, rfl⟩
 have kx : Blk w1 w.heap.size 37 [.slice A na ca, .int .i64 a.st, .slice M nm cm, .slice E ne ce, .slice V nv cv] := by rw [hw1]; exact Blk.new _ _ [_, _, _, _, _]
 rw [← hw1] at hb1
 have hok1 := (h.below hb1).more hb1.size
 have HC := Lib.hid (dm_classed _ c r w1 hok1 hr)
 unfold dvc at HC ⊢
 dsimp only [IV.v] at HC ⊢
 obtain ⟨sv, hsv⟩ : ∃ s, a.st = s := ⟨_, rfl⟩
 rw [hsv] at hw1 HC kx ⊢
 have a0 := kx.cell (j := 0) rfl
 have a1 := kx.cell (j := 1) rfl
 have a2 := kx.cell (j := 2) rfl
 have a3 := kx.cell (j := 3) rfl
 have a4 := kx.cell (j := 4) rfl
 have b0 : (r != 0) = true := by simpa using h0
 have HW1 := Lib.hid hw1; clear hw1
 have HB1 := Lib.hid hb1; clear hb1
 clear hsv hr h0 h kx hok1
 go_enter Try.func28, Try.ntmps28
 go_wp2_with fail
 rw [← HW1.out]
 refine HC.out.mono ?_
 rintro e w2 ⟨rfl, hb2⟩
 have HB2 := Lib.hid (HB1.out.trans (hb2.mono HB1.out.size))
 clear a0 a1 a2 a3 a4 HC hb2
 go_wp2
 refine bodyPost_ret (v := .tuple #[.slice none 0 0, .bool false, .int .i64 r]) (by simp [results, Try.results28, go_sem]) rfl ?_
 exact ⟨rfl, HB2.out⟩
end Go.Proofs.Ytddhaidimadliaa
