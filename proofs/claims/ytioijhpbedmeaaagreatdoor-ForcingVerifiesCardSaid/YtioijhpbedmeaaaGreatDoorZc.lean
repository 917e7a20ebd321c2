/- The law ForcingVerifies: its walk. Printed by wip/mkz.py. -/
import Derived.Test.YtioijhpbedmeaaaGreatDoorYw
import Derived.Deep.Cut
namespace Go.Proofs.YtioijhpbedmeaaaGreatDoor
open Go.RowKit Go Go.Maps
theorem runE_snoc {q : Aut} {v : Int} : ∀ (l : List Int) (s : Int), runE q s (l ++ [v]) = if 0 ≤ runE q s l then nxt q (runE q s l) v else runE q s l
  | [], s => by
    show runE q s [v] = _
    unfold runE runE
    rfl
  | u :: l, s => by
    show runE q s (u :: (l ++ [v])) = _
    unfold runE
    by_cases h : 0 ≤ s
    · rw [if_pos h, if_pos h]; exact runE_snoc l _
    · rw [if_neg h, if_neg h]; exact runE_snoc l _
theorem runE_lt {q : Aut} (hq : WF q) {s : Int} (h1 : s < q.st) : ∀ (l : List Int), 0 ≤ runE q s l → runE q s l < q.st := by
  intro l
  by_cases h0 : 0 ≤ s
  · intro h
    obtain ⟨g1, g2⟩ := runE_goS (q := q) l s h0
    cases hg : goS (stA q) s l with
    | none => have := g2 hg; omega
    | some t => rw [g1 t hg]; exact (goS_rng hq l s t h0 h1 hg).2
  · intro h; rw [runE_neg l s (by omega)] at h; omega
set_option maxRecDepth 100000 in
set_option maxHeartbeats 1600000 in
theorem verifies_walk (x : Sk) (V : Option Addr) (nw cw : Nat) (ws : List Int) (ev : Int) (w : World) (hok : x.ok) (hlw : ws.length = nw) (hV : RdI w w.heap.size V ws) (hv1 : nw ≤ cw) (hv2 : cw ≤ 9223372036854775807) :
    Calls Tryz.prog 7 #[.agg (skcells x).toArray, .agg #[.slice V nw cw, .int .i64 ev]] w fun e w' => e = .returned (.bool true) ∧ Below w.heap.size w w' := by
  have hb1 := (box_below w (.cells (skcells x).toArray 28)).alloc (by simp) (.cells #[.slice V nw cw, .int .i64 ev] 42)
  obtain ⟨w1, hw1⟩ : ∃ w1, w1 = ((w.alloc (.cells (skcells x).toArray 28)).alloc (.cells #[.slice V nw cw, .int .i64 ev] 42)) := ⟨_, rfl⟩
  have kx : Blk w1 w.heap.size 28 (skcells x) := by rw [hw1]; exact (Blk.new _ _ _).al _
  have kw : Blk w1 (w.heap.size + 1) 42 [.slice V nw cw, .int .i64 ev] := by rw [hw1]; exact Blk.at_ _ _ [_, _] (by simp)
  rw [← hw1] at hb1
  have HC := Lib.hid (law_known45 w1)
  have HV := Lib.hid ((hV.below hb1).more hb1.size)
  have HLW := Lib.hid hlw
  have HW1 := Lib.hid hw1; clear hw1
  have HB1 := Lib.hid hb1; clear hb1
  have KX := Lib.hid kx; clear kx
  have KW := Lib.hid kw; clear kw
  have HOK := Lib.hid hok; clear hok
  clear hV hlw
  go_enter Tryz.func7, Tryz.ntmps7
  go_wp2_with fail
  rw [← HW1.out]
  refine HC.out.mono ?_
  rintro e w2 ⟨rfl, hb⟩
  have HB2 := Lib.hid (HB1.out.trans (hb.mono HB1.out.size))
  have hk2 := KX.out.below hb KX.out.lt
  replace KW := Lib.hid (KW.out.below hb KW.out.lt)
  replace HV := Lib.hid ((HV.out.below hb).more hb.size)
  have HMK := Lib.hid (law_MakeS x w2 HOK.out)
  clear HC hb KX HB1 HW1
  have k0 := KW.out.cell (j := 0) rfl
  by_cases h10 : 10 < nw
  · skip
    have b1 : (10 : Int) < (nw : Int) := by omega
    have HC := Lib.hid (law_known45 w2)
    clear HMK hk2
    go_wp2_with fail
    refine HC.out.mono ?_
    rintro e w3 ⟨rfl, hb⟩
    go_wp2
    go_ret
    exact ⟨rfl, HB2.out.trans (hb.mono HB2.out.size)⟩
  have b1 : ¬ (10 : Int) < (nw : Int) := by omega
  go_wp2_with (first | refine wpList_load_sk rfl _ rfl w.heap.size x HOK.out (by rfl) hk2 ?_ | fail)
  clear hk2 k0 b1
  refine HMK.out.mono ?_
  rintro e w3 ⟨z, rfl, hp, hs, hu, hf, ht, hz, hb⟩
  obtain ⟨q, T, hS, hP⟩ := SysR.of HOK.out hz hp hs hu hf ht
  have vs := VarS.new hz
  have hbx := box_below w3 (.cells #[.slice z.p.A z.p.na z.p.ca, .int .i64 z.p.a.st, .slice z.p.M z.p.nm z.p.cm, .slice z.p.E z.p.ne z.p.ce, .slice z.s.A z.s.na z.s.ca, .int .i64 z.s.a.st, .slice z.s.M z.s.nm z.s.cm, .slice z.s.E z.s.ne z.s.ce, .slice z.U z.nu z.cu, .slice z.F z.nf z.cf, .int .i64 z.tick] 35)
  have hb3 := hb.trans (hbx.mono hb.size)
  have HB4 := Lib.hid (HB2.out.trans (hb3.mono HB2.out.size))
  replace KW := Lib.hid (KW.out.below hb3 KW.out.lt)
  replace HV := Lib.hid ((HV.out.below hb3).more hb3.size)
  have HS := Lib.hid hS; clear hS
  clear hp hs hu hf ht hz hb hbx hb3 HMK HB2 hP
  unfold svc
  go_upto_region 4 with fail
  obtain ⟨bs, hbs⟩ : ∃ b, w3.heap.size = b := ⟨_, rfl⟩
  rw [hbs] at vs ⊢
  generalize w3.alloc (.cells #[.slice z.p.A z.p.na z.p.ca, .int .i64 z.p.a.st, .slice z.p.M z.p.nm z.p.cm, .slice z.p.E z.p.ne z.p.ce, .slice z.s.A z.s.na z.s.ca, .int .i64 z.s.a.st, .slice z.s.M z.s.nm z.s.cm, .slice z.s.E z.s.ne z.s.ce, .slice z.U z.nu z.cu, .slice z.F z.nf z.cf, .int .i64 z.tick] 35) = w4 at vs HB4 KW HV ⊢
  clear hbs
  have VS := Lib.hid vs; clear vs
  have HC := Lib.hid (HS.out.lloop VS.out.ok)
  go_wp2_with (first | refine wpList_load_sys rfl _ rfl bs z (by rfl) VS.out ?_ | fail)
  refine HC.out.mono ?_
  rintro e v5 ⟨y5, B5, nb5, cb5, C5, cc5, ws5, rfl, hya, hy, hT, tl, t1, t2, hC, hwl, u1, u2, hb⟩
  have HT5 := Lib.hid hT
  have HTL5 := Lib.hid (And.intro tl (And.intro t1 t2))
  have HW5 := Lib.hid hC
  have HWL5 := Lib.hid (And.intro hwl (And.intro u1 u2))
  have HYA5 := Lib.hid hya
  clear hT tl t1 t2 hC hwl u1 u2 hya HC
  have HBv5 := Lib.hid (HB4.out.trans (hb.mono HB4.out.size))
  replace VS := Lib.hid (VS.out.below hb)
  replace KW := Lib.hid (KW.out.below hb KW.out.lt)
  replace HV := Lib.hid ((HV.out.below hb).more hb.size)
  clear hb HB4
  have VY5 := Lib.hid (VarA.new hy)
  have hx := box_below v5 (.cells #[.slice y5.A y5.na y5.ca, .int .i64 y5.a.st, .slice y5.M y5.nm y5.cm, .slice y5.E y5.ne y5.ce] 33)
  clear hy
  have HBx5 := Lib.hid (HBv5.out.trans (hx.mono HBv5.out.size))
  replace VS := Lib.hid (VS.out.below hx)
  replace KW := Lib.hid (KW.out.below hx KW.out.lt)
  replace HV := Lib.hid ((HV.out.below hx).more hx.size)
  replace HT5 := Lib.hid ((HT5.out.below hx).more hx.size)
  replace HW5 := Lib.hid ((HW5.out.below hx).more hx.size)
  clear hx HBv5
  go_upto_region 5 with fail
  obtain ⟨b5, hn⟩ : ∃ b, v5.heap.size = b := ⟨_, rfl⟩
  rw [hn] at VY5 ⊢
  generalize v5.alloc (.cells #[.slice y5.A y5.na y5.ca, .int .i64 y5.a.st, .slice y5.M y5.nm y5.cm, .slice y5.E y5.ne y5.ce] 33) = x5 at VY5 HBx5 VS KW HV HT5 HW5 ⊢
  clear hn
  have HST := Lib.hid (show y5.a.st = (nb5 : Int) by rw [HYA5.out, HS.out.prob.tups.1, HTL5.out.1])
  have hnb : nb5 ≤ 3600 := by have := HTL5.out.1; have := HS.out.prob.len; omega
  have HQS := Lib.hid (show q.st = (nb5 : Int) by rw [← HYA5.out]; exact HST.out)
  have q1 := VY5.out.c1
  rw [HST.out] at q1
  have k0 := KW.out.cell (j := 0) rfl
  have HBG := Lib.hid (show min (nb5 : Int) 1 - 1 = begE q by unfold begE; rw [HQS.out])
  obtain ⟨a0, ha0⟩ : ∃ a, begE q = a := ⟨_, rfl⟩
  have hbg := HBG.out
  rw [ha0] at hbg
  have ha1 : -1 ≤ a0 ∧ a0 ≤ 0 := by omega
  have HA0 := Lib.hid ha0; clear ha0
  have HZ := Lib.hid (Below.refl x5.heap.size x5)
  go_wp2
  clear q1 k0 hbg
  go_loopw [9, 11, 37] (fun s9 s11 s37 wr => ∃ (j : Nat) (v11 : Value), s9 = .int .i64 (runE q a0 (ws.take j)) ∧ s11 = v11 ∧ s37 = .int .i64 j ∧ j ≤ nw ∧ Hid (Below x5.heap.size x5 wr)) (fun _ _ s37 _ => nw - (intOf s37).toNat)
  case atStart => exact ⟨0, _, by rw [List.take_zero]; show _ = Value.int .i64 a0; simp, rfl, rfl, Nat.zero_le _, HZ⟩
  case round =>
    clear HZ
    obtain ⟨j, v11, rfl, rfl, rfl, hj, HBR⟩ := hrel
    obtain ⟨at_, hat⟩ : ∃ a, runE q a0 (ws.take j) = a := ⟨_, rfl⟩
    rw [hat]
    have HAT := Lib.hid hat; clear hat
    by_cases hlt : j < nw
    · skip
      obtain ⟨ad, v, hAV, hbv, hv, hcv⟩ := (HV.out.below HBR.out).at_ (k := j) (by rw [HLW.out]; exact hlt)
      rw [hAV]
      have HTK := Lib.hid (show runE q a0 (ws.take (j + 1)) = if 0 ≤ at_ then nxt q at_ v else at_ by rw [take_snoc' hv, runE_snoc, HAT.out])
      clear hAV hbv hv
      have b1 : (j : Int) < (nw : Int) := by omega
      have b0 : ¬ (j : Int) < 0 := by omega
      by_cases h0 : 0 ≤ at_
      · skip
        have VY := Lib.hid (VY5.out.below HBR.out)
        have p0 := VY.out.c0
        have p1 := VY.out.c1
        have p2 := VY.out.c2
        have p3 := VY.out.c3
        have HC := Lib.hid (law_step y5.A y5.na y5.ca y5.M y5.nm y5.cm y5.E y5.ne y5.ce y5.a at_ v wr VY.out.ok)
        rw [HYA5.out] at HC
        rw [HYA5.out] at p1
        go_wp2_with fail
        refine HC.out.mono ?_
        rintro e wk ⟨rfl, hb⟩
        have HB7 := Lib.hid (HBR.out.trans (hb.mono HBR.out.size))
        have HTK2 := Lib.hid (show nxt q at_ v = runE q a0 (ws.take (j + 1)) by rw [HTK.out, if_pos h0])
        rw [HTK2.out]
        clear HC p0 p1 p2 p3 hb hcv VY
        go_wp2
        go_roundw
        case rel => exact ⟨j + 1, _, rfl, rfl, by go_num, by omega, HB7⟩
        case measure => simp [intOf]; omega
      · skip
        have HTK2 := Lib.hid (show at_ = runE q a0 (ws.take (j + 1)) by rw [HTK.out, if_neg h0])
        go_wp2
        go_roundw
        case rel => exact ⟨j + 1, _, by rw [← HTK2.out], rfl, by go_num, by omega, HBR⟩
        case measure => simp [intOf]; omega
    · skip
      obtain rfl : j = nw := by omega
      have b1 : ¬ (j : Int) < (j : Int) := by omega
      rw [List.take_of_length_le (by rw [HLW.out]; exact Nat.le_refl _)] at HAT
      obtain ⟨t, ht⟩ : ∃ t, wrgB z.p.a q T z.u z.f z.tick at_ ev = t := ⟨_, rfl⟩
      have HVR := Lib.hid (show verE z.p.a q T z.u z.f z.tick ws ev = if decide (0 ≤ at_) && t then 0 else 24 by rw [ver_run (by rw [HQS.out]; omega) HS.out.prob.wp, HA0.out, HAT.out, ht])
      have HT := Lib.hid ht; clear ht
      have VSr := Lib.hid (VS.out.below HBR.out)
      have VY := Lib.hid (VY5.out.below HBR.out)
      have kw := KW.out.below HBR.out KW.out.lt
      have k0 := kw.cell (j := 0) rfl
      have k1 := kw.cell (j := 1) rfl
      have HCV := Lib.hid (fun (W : World) (hb : Below x5.heap.size x5 W) => HS.out.ver (V := V) (nw := j) (cw := cw) (ws := ws) (ev := ev) (VS.out.below hb).ok HLW.out ((HV.out.below hb).more hb.size) hv1 hv2)
      rw [HVR.out] at HCV
      by_cases h0 : 0 ≤ at_
      · skip
        obtain ⟨i, rfl⟩ : ∃ i : Nat, at_ = (i : Int) := ⟨at_.toNat, by omega⟩
        have hin : i < nb5 := by
          have h1 := runE_lt HS.out.prob.pwf (s := a0) (by rw [HQS.out]; have := HBG.out; have := HA0.out; omega) ws (by rw [HAT.out]; exact h0)
          rw [HAT.out, HQS.out] at h1; omega
        have HC := Lib.hid (HS.out.wrong (cb := cb5) VSr.out.ok ev VY.out.ok HYA5.out ((HT5.out.below HBR.out).more HBR.out.size) HTL5.out.1 hin t HT.out)
        have p0 := VY.out.c0
        have p1 := VY.out.c1
        have p2 := VY.out.c2
        have p3 := VY.out.c3
        go_wp2_with (first | refine wpList_load_sysG (by rfl) _ rfl bs z (by rfl) VSr.out ?_; (try simp only [Act.put, List.setIfInBounds_toArray, List.set_cons_zero, List.set_cons_succ]) | fail)
        refine HC.out.mono ?_
        rintro e wk ⟨rfl, hb⟩
        have HB7 := Lib.hid (HBR.out.trans (hb.mono HBR.out.size))
        have kw2 := kw.below hb kw.lt
        have VSk := Lib.hid (VSr.out.below hb)
        clear HC p0 p1 p2 p3 VY VSr hb k0 k1
        have k0 := kw2.cell (j := 0) rfl
        have k1 := kw2.cell (j := 1) rfl
        have HC := Lib.hid (HCV.out wk HB7.out)
        cases t with
        | true =>
          rw [show (if decide (0 ≤ (i : Int)) && true then (0 : Int) else 24) = 0 by simp] at HC
          go_wp2_with (first | refine wpList_load_sys rfl _ rfl bs z (by rfl) VSk.out ?_ | fail)
          refine HC.out.mono ?_
          rintro e wg ⟨rfl, hb⟩
          go_wp2
          go_ret
          exact ⟨rfl, HBx5.out.trans ((HB7.out.trans (hb.mono HB7.out.size)).mono HBx5.out.size)⟩
        | false =>
          rw [show (if decide (0 ≤ (i : Int)) && false then (0 : Int) else 24) = 24 by simp] at HC
          go_wp2_with (first | refine wpList_load_sys rfl _ rfl bs z (by rfl) VSk.out ?_ | fail)
          refine HC.out.mono ?_
          rintro e wg ⟨rfl, hb⟩
          go_wp2
          go_ret
          exact ⟨rfl, HBx5.out.trans ((HB7.out.trans (hb.mono HB7.out.size)).mono HBx5.out.size)⟩
      · skip
        have HC := Lib.hid (HCV.out wr HBR.out)
        rw [show (if decide (0 ≤ at_) && t then (0 : Int) else 24) = 24 by simp [h0]] at HC
        go_wp2_with (first | refine wpList_load_sys rfl _ rfl bs z (by rfl) VSr.out ?_ | fail)
        refine HC.out.mono ?_
        rintro e wg ⟨rfl, hb⟩
        go_wp2
        go_ret
        exact ⟨rfl, HBx5.out.trans ((HBR.out.trans (hb.mono HBR.out.size)).mono HBx5.out.size)⟩
end Go.Proofs.YtioijhpbedmeaaaGreatDoor
