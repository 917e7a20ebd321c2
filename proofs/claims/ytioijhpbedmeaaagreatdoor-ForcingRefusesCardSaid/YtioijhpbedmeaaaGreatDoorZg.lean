/- The law ForcingRefuses: its walk. Printed by wip/mkz.py. -/
import Derived.Test.YtioijhpbedmeaaaGreatDoorZe
import Derived.Deep.Cut
namespace Go.Proofs.YtioijhpbedmeaaaGreatDoor
open Go.RowKit Go Go.Maps
set_option maxRecDepth 100000 in
set_option maxHeartbeats 3200000 in
theorem refuses_walk (z : SV) (w : World) (h : z.ok w w.heap.size) :
    Calls Tryz.prog 9 #[.agg (svc z).toArray] w fun e w' => e = .returned (.bool true) ∧ Below w.heap.size w w' := by
  obtain ⟨w1, hw1⟩ : ∃ w1, w1 = w.alloc (.cells (svc z).toArray 35) := ⟨_, rfl⟩
  have hb1 := box_below w (.cells (svc z).toArray 35)
  have vs : VarS w1 w.heap.size z := by rw [hw1]; exact VarS.new h
  rw [← hw1] at hb1
  obtain ⟨bs, hbs⟩ : ∃ b, w.heap.size = b := ⟨_, rfl⟩
  have HC := Lib.hid (law_known45 w1)
  obtain ⟨r, hr⟩ : ∃ r, chkF z.p.a z.s.a z.u z.f z.tick = r := ⟨_, rfl⟩
  have HB1 := Lib.hid hb1; clear hb1
  have VS := Lib.hid vs; clear vs
  have HW1 := Lib.hid hw1; clear hw1
  have HR := Lib.hid hr; clear hr
  clear h
  go_enter Tryz.func9, Tryz.ntmps9
  go_wp2_with fail
  rw [← HW1.out]
  refine HC.out.mono ?_
  rintro e w2 ⟨rfl, hb⟩
  have HB2 := Lib.hid (HB1.out.trans (hb.mono HB1.out.size))
  rw [hbs] at VS
  replace VS := Lib.hid (VS.out.below hb)
  clear HC hb HB1 HW1 hbs
  have c0 := VS.out.blk.cell (j := 0) rfl
  have c1 := VS.out.blk.cell (j := 1) rfl
  have c2 := VS.out.blk.cell (j := 2) rfl
  have c3 := VS.out.blk.cell (j := 3) rfl
  have c4 := VS.out.blk.cell (j := 4) rfl
  have c5 := VS.out.blk.cell (j := 5) rfl
  have c6 := VS.out.blk.cell (j := 6) rfl
  have c7 := VS.out.blk.cell (j := 7) rfl
  have c8 := VS.out.blk.cell (j := 8) rfl
  have c9 := VS.out.blk.cell (j := 9) rfl
  have c10 := VS.out.blk.cell (j := 10) rfl
  have HC := Lib.hid (law_few45 z.p.A z.p.na z.p.ca z.p.M z.p.nm z.p.cm z.p.E z.p.ne z.p.ce z.p.a.st w2)
  go_wp2_with fail
  refine HC.out.mono ?_
  rintro e w3 ⟨r1, rfl, hb⟩
  have HB3 := Lib.hid (HB2.out.trans (hb.mono HB2.out.size))
  replace VS := Lib.hid (VS.out.below hb)
  clear HC hb HB2 c0 c1 c2 c3 c4 c5 c6 c7 c8 c9 c10
  have c0 := VS.out.blk.cell (j := 0) rfl
  have c1 := VS.out.blk.cell (j := 1) rfl
  have c2 := VS.out.blk.cell (j := 2) rfl
  have c3 := VS.out.blk.cell (j := 3) rfl
  have c4 := VS.out.blk.cell (j := 4) rfl
  have c5 := VS.out.blk.cell (j := 5) rfl
  have c6 := VS.out.blk.cell (j := 6) rfl
  have c7 := VS.out.blk.cell (j := 7) rfl
  have c8 := VS.out.blk.cell (j := 8) rfl
  have c9 := VS.out.blk.cell (j := 9) rfl
  have c10 := VS.out.blk.cell (j := 10) rfl
  cases r1 with
  | false =>
    have HC := Lib.hid (law_known45 w3)
    go_wp2_with fail
    refine HC.out.mono ?_
    rintro e wz ⟨rfl, hb⟩
    go_wp2
    go_ret
    exact ⟨rfl, HB3.out.trans (hb.mono HB3.out.size)⟩
  | true =>
    have HC := Lib.hid (law_few45 z.s.A z.s.na z.s.ca z.s.M z.s.nm z.s.cm z.s.E z.s.ne z.s.ce z.s.a.st w3)
    go_wp2_with fail
    refine HC.out.mono ?_
    rintro e w4 ⟨r2, rfl, hb⟩
    have HB4 := Lib.hid (HB3.out.trans (hb.mono HB3.out.size))
    replace VS := Lib.hid (VS.out.below hb)
    clear HC hb HB3 c0 c1 c2 c3 c4 c5 c6 c7 c8 c9 c10
    have c0 := VS.out.blk.cell (j := 0) rfl
    have c1 := VS.out.blk.cell (j := 1) rfl
    have c2 := VS.out.blk.cell (j := 2) rfl
    have c3 := VS.out.blk.cell (j := 3) rfl
    have c4 := VS.out.blk.cell (j := 4) rfl
    have c5 := VS.out.blk.cell (j := 5) rfl
    have c6 := VS.out.blk.cell (j := 6) rfl
    have c7 := VS.out.blk.cell (j := 7) rfl
    have c8 := VS.out.blk.cell (j := 8) rfl
    have c9 := VS.out.blk.cell (j := 9) rfl
    have c10 := VS.out.blk.cell (j := 10) rfl
    cases r2 with
    | false =>
      have HC := Lib.hid (law_known45 w4)
      go_wp2_with fail
      refine HC.out.mono ?_
      rintro e wz ⟨rfl, hb⟩
      go_wp2
      go_ret
      exact ⟨rfl, HB4.out.trans (hb.mono HB4.out.size)⟩
    | true =>
      by_cases h40 : (40 : Int) < (z.nu : Int)
      · skip
        have HC := Lib.hid (law_known45 w4)
        go_wp2_with fail
        refine HC.out.mono ?_
        rintro e wz ⟨rfl, hb⟩
        go_wp2
        go_ret
        exact ⟨rfl, HB4.out.trans (hb.mono HB4.out.size)⟩
      by_cases h41 : (40 : Int) < (z.nf : Int)
      · skip
        have HC := Lib.hid (law_known45 w4)
        go_wp2_with fail
        refine HC.out.mono ?_
        rintro e wz ⟨rfl, hb⟩
        go_wp2
        go_ret
        exact ⟨rfl, HB4.out.trans (hb.mono HB4.out.size)⟩
      have HC := Lib.hid (law_check45 z r w4 VS.out.ok HR.out)
      go_upto_region 3 with fail
      clear c0 c1 c2 c3 c4 c5 c6 c7 c8 c9 c10
      go_wp2_with (first | refine wpList_load_sys rfl _ rfl bs z (by rfl) VS.out ?_ | fail)
      refine HC.out.mono ?_
      rintro e w5 ⟨rfl, hb⟩
      clear HC h40 h41
      have HB5 := Lib.hid (HB4.out.trans (hb.mono HB4.out.size))
      replace VS := Lib.hid (VS.out.below hb)
      clear hb HB4
      have HC := Lib.hid (forcing_Check z r w5 VS.out.ok HR.out)
      go_wp2_with (first | refine wpList_load_sys rfl _ rfl bs z (by rfl) VS.out ?_ | fail)
      refine HC.out.mono ?_
      rintro e w6 ⟨rfl, hb⟩
      clear HC
      have HB6 := Lib.hid (HB5.out.trans (hb.mono HB5.out.size))
      replace VS := Lib.hid (VS.out.below hb)
      clear hb HB5
      have d0 : (r != r) = false := by simp
      by_cases hz : r = 0
      · subst hz
        go_wp2
        go_ret
        exact ⟨rfl, HB6.out⟩
      have d1 : (r == 0) = false := by simpa using hz
      have HZ := Lib.hid hz
      clear hz
      have HC := Lib.hid (loop_bad z r w6 VS.out.ok HR.out HZ.out)
      go_wp2_with (first | refine wpList_load_sys rfl _ rfl bs z (by rfl) VS.out ?_ | fail)
      refine HC.out.mono ?_
      rintro e v7 ⟨rfl, hb⟩
      clear HC
      have HBv7 := Lib.hid (HB6.out.trans (hb.mono HB6.out.size))
      replace VS := Lib.hid (VS.out.below hb)
      clear hb HB6
      have K7 := Lib.hid (show Blk (v7.alloc (.cells #[.slice none 0 0, .int .i64 0, .slice none 0 0, .slice none 0 0] 33)) v7.heap.size 33 [.slice none 0 0, .int .i64 0, .slice none 0 0, .slice none 0 0] from Blk.new _ _ [_, _, _, _])
      have hx := box_below v7 (.cells #[.slice none 0 0, .int .i64 0, .slice none 0 0, .slice none 0 0] 33)
      have HB7 := Lib.hid (HBv7.out.trans (hx.mono HBv7.out.size))
      replace VS := Lib.hid (VS.out.below hx)
      clear hx HBv7
      go_upto_region 9 with fail
      obtain ⟨b7, hn⟩ : ∃ b, v7.heap.size = b := ⟨_, rfl⟩
      rw [hn] at K7 ⊢
      generalize v7.alloc (.cells #[.slice none 0 0, .int .i64 0, .slice none 0 0, .slice none 0 0] 33) = x7 at K7 HB7 VS ⊢
      clear hn
      have HC := Lib.hid (controllable_bad z r x7 VS.out.ok HR.out HZ.out)
      go_wp2_with (first | refine wpList_load_sys rfl _ rfl bs z (by rfl) VS.out ?_ | fail)
      refine HC.out.mono ?_
      rintro e v8 ⟨rfl, hb⟩
      clear HC
      have HBv8 := Lib.hid (HB7.out.trans (hb.mono HB7.out.size))
      replace VS := Lib.hid (VS.out.below hb)
      replace K7 := Lib.hid (K7.out.below hb K7.out.lt)
      clear hb HB7
      have K8 := Lib.hid (show Blk (v8.alloc (.cells #[.slice none 0 0, .int .i64 0] 42)) v8.heap.size 42 [.slice none 0 0, .int .i64 0] from Blk.new _ _ [_, _])
      have hx := box_below v8 (.cells #[.slice none 0 0, .int .i64 0] 42)
      have HB8 := Lib.hid (HBv8.out.trans (hx.mono HBv8.out.size))
      replace VS := Lib.hid (VS.out.below hx)
      replace K7 := Lib.hid (K7.out.below hx K7.out.lt)
      clear hx HBv8
      go_upto_region 10 with fail
      obtain ⟨b8, hn⟩ : ∃ b, v8.heap.size = b := ⟨_, rfl⟩
      rw [hn] at K8 ⊢
      generalize v8.alloc (.cells #[.slice none 0 0, .int .i64 0] 42) = x8 at K8 HB8 VS K7 ⊢
      clear hn
      have HC := Lib.hid (verify_bad z r none 0 0 0 x8 VS.out.ok HR.out HZ.out)
      go_wp2_with (first | refine wpList_load_sys rfl _ rfl bs z (by rfl) VS.out ?_ | fail)
      refine HC.out.mono ?_
      rintro e v9 ⟨rfl, hb⟩
      clear HC
      have HB9 := Lib.hid (HB8.out.trans (hb.mono HB8.out.size))
      replace VS := Lib.hid (VS.out.below hb)
      replace K7 := Lib.hid (K7.out.below hb K7.out.lt)
      replace K8 := Lib.hid (K8.out.below hb K8.out.lt)
      clear hb HB8
      have HC := Lib.hid (preempted_bad z r v9 VS.out.ok HR.out HZ.out)
      go_wp2_with (first | refine wpList_load_sys rfl _ rfl bs z (by rfl) VS.out ?_ | fail)
      refine HC.out.mono ?_
      rintro e va ⟨rfl, hb⟩
      clear HC
      have HBa := Lib.hid (HB9.out.trans (hb.mono HB9.out.size))
      replace VS := Lib.hid (VS.out.below hb)
      replace K7 := Lib.hid (K7.out.below hb K7.out.lt)
      replace K8 := Lib.hid (K8.out.below hb K8.out.lt)
      clear hb HB9
      have HC := Lib.hid (forced_bad z r va VS.out.ok HR.out HZ.out)
      go_wp2_with (first | refine wpList_load_sys rfl _ rfl bs z (by rfl) VS.out ?_ | fail)
      refine HC.out.mono ?_
      rintro e vb ⟨rfl, hb⟩
      clear HC
      have HBb := Lib.hid (HBa.out.trans (hb.mono HBa.out.size))
      replace VS := Lib.hid (VS.out.below hb)
      replace K7 := Lib.hid (K7.out.below hb K7.out.lt)
      replace K8 := Lib.hid (K8.out.below hb K8.out.lt)
      clear hb HBa
      have HC := Lib.hid (stops_bad z r vb VS.out.ok HR.out HZ.out)
      go_wp2_with (first | refine wpList_load_sys rfl _ rfl bs z (by rfl) VS.out ?_ | fail)
      refine HC.out.mono ?_
      rintro e vc ⟨rfl, hb⟩
      clear HC
      have HBc := Lib.hid (HBb.out.trans (hb.mono HBb.out.size))
      replace VS := Lib.hid (VS.out.below hb)
      replace K7 := Lib.hid (K7.out.below hb K7.out.lt)
      replace K8 := Lib.hid (K8.out.below hb K8.out.lt)
      clear hb HBb
      have d2 : (r == r) = true := by simp
      have k1 := K7.out.cell (j := 1) rfl
      have k0 := K8.out.cell (j := 0) rfl
      go_wp2
      go_ret
      exact ⟨rfl, HBc.out⟩
end Go.Proofs.YtioijhpbedmeaaaGreatDoor
