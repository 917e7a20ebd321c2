/- The law ForcingLoops: its walk. Printed by wip/mkz.py. -/
import Derived.Test.YtioijhpbedmeaaaGreatDoorYw
import Derived.Deep.Cut
namespace Go.Proofs.YtioijhpbedmeaaaGreatDoor
open Go.RowKit Go Go.Maps
set_option maxRecDepth 100000 in
set_option maxHeartbeats 1600000 in
theorem loops_walk (x : Sk) (w : World) (hok : x.ok) :
    Calls Tryz.prog 4 #[.agg (skcells x).toArray] w fun e w' => e = .returned (.bool true) ∧ Below w.heap.size w w' := by
  have hb1 := box_below w (.cells (skcells x).toArray 28)
  obtain ⟨w1, hw1⟩ : ∃ w1, w1 = (w.alloc (.cells (skcells x).toArray 28)) := ⟨_, rfl⟩
  have kx : Blk w1 w.heap.size 28 (skcells x) := by rw [hw1]; exact Blk.new _ _ _
  rw [← hw1] at hb1
  have HC := Lib.hid (law_known45 w1)
  have HW1 := Lib.hid hw1; clear hw1
  have HB1 := Lib.hid hb1; clear hb1
  have KX := Lib.hid kx; clear kx
  have HOK := Lib.hid hok; clear hok
  go_enter Tryz.func4, Tryz.ntmps4
  go_wp2_with fail
  rw [← HW1.out]
  refine HC.out.mono ?_
  rintro e w2 ⟨rfl, hb⟩
  have HB2 := Lib.hid (HB1.out.trans (hb.mono HB1.out.size))
  have hk2 := KX.out.below hb KX.out.lt
  have HMK := Lib.hid (law_MakeS x w2 HOK.out)
  clear HC hb KX HB1 HW1
  go_wp2_with (first | refine wpList_load_sk rfl _ rfl w.heap.size x HOK.out (by rfl) hk2 ?_ | fail)
  clear hk2
  refine HMK.out.mono ?_
  rintro e w3 ⟨z, rfl, hp, hs, hu, hf, ht, hz, hb⟩
  obtain ⟨q, T, hS, hP⟩ := SysR.of HOK.out hz hp hs hu hf ht
  have vs := VarS.new hz
  have hbx := box_below w3 (.cells #[.slice z.p.A z.p.na z.p.ca, .int .i64 z.p.a.st, .slice z.p.M z.p.nm z.p.cm, .slice z.p.E z.p.ne z.p.ce, .slice z.s.A z.s.na z.s.ca, .int .i64 z.s.a.st, .slice z.s.M z.s.nm z.s.cm, .slice z.s.E z.s.ne z.s.ce, .slice z.U z.nu z.cu, .slice z.F z.nf z.cf, .int .i64 z.tick] 35)
  have HB4 := Lib.hid (HB2.out.trans ((hb.trans (hbx.mono hb.size)).mono HB2.out.size))
  have HS := Lib.hid hS; clear hS
  clear hp hs hu hf ht hz hb hbx HMK HB2 hP
  unfold svc
  go_upto_region 4 with fail
  obtain ⟨bs, hbs⟩ : ∃ b, w3.heap.size = b := ⟨_, rfl⟩
  rw [hbs] at vs ⊢
  generalize w3.alloc (.cells #[.slice z.p.A z.p.na z.p.ca, .int .i64 z.p.a.st, .slice z.p.M z.p.nm z.p.cm, .slice z.p.E z.p.ne z.p.ce, .slice z.s.A z.s.na z.s.ca, .int .i64 z.s.a.st, .slice z.s.M z.s.nm z.s.cm, .slice z.s.E z.s.ne z.s.ce, .slice z.U z.nu z.cu, .slice z.F z.nf z.cf, .int .i64 z.tick] 35) = w4 at vs HB4 ⊢
  clear hbs
  have VS := Lib.hid vs; clear vs
  have HTL := Lib.hid (show ∀ t ∈ T, t.length = 2 from HS.out.prob.len2)
  have HC := Lib.hid (HS.out.loop VS.out.ok)
  go_wp2_with (first | refine wpList_load_sys rfl _ rfl bs z (by rfl) VS.out ?_ | fail)
  refine HC.out.mono ?_
  rintro e v4 ⟨y4, B4, nb4, cb4, rfl, hya, hy, hT, tl, t1, t2, hb⟩
  have HT4 := Lib.hid hT
  have HTL4 := Lib.hid (And.intro tl (And.intro t1 t2))
  have HYA4 := Lib.hid hya
  clear hT tl t1 t2 hya HC
  have HBv4 := Lib.hid (HB4.out.trans (hb.mono HB4.out.size))
  replace VS := Lib.hid (VS.out.below hb)
  clear hb HB4
  have VY4 := Lib.hid (VarA.new hy)
  have hx := box_below v4 (.cells #[.slice y4.A y4.na y4.ca, .int .i64 y4.a.st, .slice y4.M y4.nm y4.cm, .slice y4.E y4.ne y4.ce] 33)
  clear hy
  have HBx4 := Lib.hid (HBv4.out.trans (hx.mono HBv4.out.size))
  replace VS := Lib.hid (VS.out.below hx)
  replace HT4 := Lib.hid ((HT4.out.below hx).more hx.size)
  clear hx HBv4
  go_upto_region 5 with fail
  obtain ⟨b4, hn⟩ : ∃ b, v4.heap.size = b := ⟨_, rfl⟩
  rw [hn] at VY4 ⊢
  generalize v4.alloc (.cells #[.slice y4.A y4.na y4.ca, .int .i64 y4.a.st, .slice y4.M y4.nm y4.cm, .slice y4.E y4.ne y4.ce] 33) = x4 at VY4 HBx4 VS HT4 ⊢
  clear hn
  have HC := Lib.hid (HS.out.lloop VS.out.ok)
  go_wp2_with (first | refine wpList_load_sys rfl _ rfl bs z (by rfl) VS.out ?_ | fail)
  refine HC.out.mono ?_
  rintro e v5 ⟨y5, B5, nb5, cb5, C5, cc5, ws5, rfl, hya, hy, hT, tl, t1, t2, hC, hwl, u1, u2, hb⟩
  have HT5 := Lib.hid hT
  have HTL5 := Lib.hid (And.intro tl (And.intro t1 t2))
  have HW5 := Lib.hid hC
  have HWL5 := Lib.hid (And.intro hwl (And.intro u1 u2))
  have HYA5 := Lib.hid hya
  clear hT tl t1 t2 hC hwl u1 u2 hya HC
  have HBv5 := Lib.hid (HBx4.out.trans (hb.mono HBx4.out.size))
  replace VS := Lib.hid (VS.out.below hb)
  replace HT4 := Lib.hid ((HT4.out.below hb).more hb.size)
  replace VY4 := Lib.hid (VY4.out.below hb)
  clear hb HBx4
  have VY5 := Lib.hid (VarA.new hy)
  have hx := box_below v5 (.cells #[.slice y5.A y5.na y5.ca, .int .i64 y5.a.st, .slice y5.M y5.nm y5.cm, .slice y5.E y5.ne y5.ce] 33)
  clear hy
  have HBx5 := Lib.hid (HBv5.out.trans (hx.mono HBv5.out.size))
  replace VS := Lib.hid (VS.out.below hx)
  replace HT4 := Lib.hid ((HT4.out.below hx).more hx.size)
  replace VY4 := Lib.hid (VY4.out.below hx)
  replace HT5 := Lib.hid ((HT5.out.below hx).more hx.size)
  replace HW5 := Lib.hid ((HW5.out.below hx).more hx.size)
  clear hx HBv5
  go_upto_region 6 with fail
  obtain ⟨b5, hn⟩ : ∃ b, v5.heap.size = b := ⟨_, rfl⟩
  rw [hn] at VY5 ⊢
  generalize v5.alloc (.cells #[.slice y5.A y5.na y5.ca, .int .i64 y5.a.st, .slice y5.M y5.nm y5.cm, .slice y5.E y5.ne y5.ce] 33) = x5 at VY5 HBx5 VS HT4 VY4 HT5 HW5 ⊢
  clear hn
  have HC := Lib.hid (eqV true VY4.out.ok VY5.out.ok (by rw [HYA4.out, HYA5.out]; exact eqA_of rfl))
  have p0 := VY4.out.c0
  have p1 := VY4.out.c1
  have p2 := VY4.out.c2
  have p3 := VY4.out.c3
  have q0 := VY5.out.c0
  have q1 := VY5.out.c1
  have q2 := VY5.out.c2
  have q3 := VY5.out.c3
  go_wp2_with fail
  refine HC.out.mono ?_
  rintro e w9 ⟨rfl, hb⟩
  clear HC p0 p1 p2 p3 q0 q1 q2 q3
  have HB9 := Lib.hid (HBx5.out.trans (hb.mono HBx5.out.size))
  replace VS := Lib.hid (VS.out.below hb)
  replace HT4 := Lib.hid ((HT4.out.below hb).more hb.size)
  replace VY4 := Lib.hid (VY4.out.below hb)
  replace HT5 := Lib.hid ((HT5.out.below hb).more hb.size)
  replace HW5 := Lib.hid ((HW5.out.below hb).more hb.size)
  replace VY5 := Lib.hid (VY5.out.below hb)
  clear hb HBx5
  have HC := Lib.hid (slices_EqualP B4 B5 cb4 cb5 nb4 nb5 T T true w9 HTL4.out.1 HTL5.out.1 (eqP_of rfl) HT4.out HTL.out HTL.out HT5.out HTL4.out.2.1 HTL4.out.2.2)
  go_wp2_with fail
  refine HC.out.mono ?_
  rintro e wa ⟨rfl, n9, rfl⟩
  go_wp2
  go_ret
  exact ⟨rfl, below_drewN HB9.out _⟩
end Go.Proofs.YtioijhpbedmeaaaGreatDoor
