/- The law ForcingDecides: its walk. Printed by wip/mkz.py. -/
import Derived.Test.YtioijhpbedmeaaaGreatDoorYw
import Derived.Deep.Cut
namespace Go.Proofs.YtioijhpbedmeaaaGreatDoor
open Go.RowKit Go Go.Maps
set_option linter.unusedVariables false
/-- the law's variable want -/
def WtR (b : Nat) (W : World) (c : List Int × Int × Bool) : Prop := ∃ (A : Option Addr) (cap : Nat), Blk W b 42 [.slice A c.1.length cap, .int .i64 c.2.1] ∧ RdI W b A c.1 ∧ c.1.length ≤ cap ∧ cap ≤ 9223372036854775807
theorem WtR.below {b : Nat} {W W' : World} {c : List Int × Int × Bool} (h : WtR b W c) (hb : Below W.heap.size W W') : WtR b W' c := by
  obtain ⟨A, cap, h1, h2, h3, h4⟩ := h
  exact ⟨A, cap, h1.below hb h1.lt, h2.below (hb.mono (Nat.le_of_lt h1.lt)), h3, h4⟩
def seaZ (z : SV) (q : Aut) (T : List (List Int)) (i : Nat) : List Int × Int × Bool := seaS (wdsOf T.length q.ed) z.p.a q T z.u z.f z.tick q.al i
def seaI (z : SV) (q : Aut) (T : List (List Int)) (i : Nat) (l : List Int) (c : List Int × Int × Bool) : List Int × Int × Bool := seaE (wdsOf T.length q.ed) z.p.a q T z.u z.f z.tick i l c
theorem seaI_snoc {z : SV} {q : Aut} {T : List (List Int)} {i : Nat} {v : Int} : ∀ (l : List Int) (c : List Int × Int × Bool), seaI z q T i (l ++ [v]) c = if (seaI z q T i l c).2.2 && wrgB z.p.a q T z.u z.f z.tick i v then ((wdsOf T.length q.ed).getD i [], v, false) else seaI z q T i l c
  | [], _ => rfl
  | _ :: l, _ => seaI_snoc l _
set_option maxRecDepth 100000 in
set_option maxHeartbeats 1600000 in
theorem decides_walk (x : Sk) (w : World) (hok : x.ok) :
    Calls Tryz.prog 6 #[.agg (skcells x).toArray] w fun e w' => e = .returned (.bool true) ∧ Below w.heap.size w w' := by
  have hb1 := box_below w (.cells (skcells x).toArray 28)
  obtain ⟨w1, hw1⟩ : ∃ w1, w1 = (w.alloc (.cells (skcells x).toArray 28)) := ⟨_, rfl⟩
  have kx : Blk w1 w.heap.size 28 (skcells x) := by rw [hw1]; exact Blk.new _ _ _
  rw [← hw1] at hb1
  have HC := Lib.hid (law_known45 w1)
  have HW1 := Lib.hid hw1; clear hw1
  have HB1 := Lib.hid hb1; clear hb1
  have KX := Lib.hid kx; clear kx
  have HOK := Lib.hid hok; clear hok
  go_enter Tryz.func6, Tryz.ntmps6
  go_wp2_with fail
  rw [← HW1.out]
  refine HC.out.mono ?_
  rintro e w2 ⟨rfl, hb⟩
  have HB2 := Lib.hid (HB1.out.trans (hb.mono HB1.out.size))
  have hk2 := KX.out.below hb KX.out.lt
  have HMK := Lib.hid (law_MakeS x w2 HOK.out)
  clear HC hb KX HB1 HW1
  go_wp2_with (first | refine wpList_load_sk rfl _ rfl w.heap.size x HOK.out (by rfl) hk2 ?_ | fail)
  clear hk2
  refine HMK.out.mono ?_
  rintro e w3 ⟨z, rfl, hp, hs, hu, hf, ht, hz, hb⟩
  obtain ⟨q, T, hS, hP⟩ := SysR.of HOK.out hz hp hs hu hf ht
  have vs := VarS.new hz
  have hbx := box_below w3 (.cells #[.slice z.p.A z.p.na z.p.ca, .int .i64 z.p.a.st, .slice z.p.M z.p.nm z.p.cm, .slice z.p.E z.p.ne z.p.ce, .slice z.s.A z.s.na z.s.ca, .int .i64 z.s.a.st, .slice z.s.M z.s.nm z.s.cm, .slice z.s.E z.s.ne z.s.ce, .slice z.U z.nu z.cu, .slice z.F z.nf z.cf, .int .i64 z.tick] 35)
  have HB4 := Lib.hid (HB2.out.trans ((hb.trans (hbx.mono hb.size)).mono HB2.out.size))
  have HS := Lib.hid hS; clear hS
  clear hp hs hu hf ht hz hb hbx HMK HB2 hP
  unfold svc
  go_upto_region 4 with fail
  obtain ⟨bs, hbs⟩ : ∃ b, w3.heap.size = b := ⟨_, rfl⟩
  rw [hbs] at vs ⊢
  generalize w3.alloc (.cells #[.slice z.p.A z.p.na z.p.ca, .int .i64 z.p.a.st, .slice z.p.M z.p.nm z.p.cm, .slice z.p.E z.p.ne z.p.ce, .slice z.s.A z.s.na z.s.ca, .int .i64 z.s.a.st, .slice z.s.M z.s.nm z.s.cm, .slice z.s.E z.s.ne z.s.ce, .slice z.U z.nu z.cu, .slice z.F z.nf z.cf, .int .i64 z.tick] 35) = w4 at vs HB4 ⊢
  clear hbs
  have VS := Lib.hid vs; clear vs
  have HTL := Lib.hid (show ∀ t ∈ T, t.length = 2 from HS.out.prob.len2)
  have HCV := Lib.hid (fun h => ctl_ver (U := z.u) (F := z.f) (tick := z.tick) HS.out.prob h)
  have HSC := Lib.hid (sea_ctl (U := z.u) (F := z.f) (tick := z.tick) HS.out.prob)
  have HCT := Lib.hid (HS.out.ctl VS.out.ok)
  obtain ⟨c9, hc9⟩ : ∃ c, ctlE z.p.a q T z.u z.f z.tick = c := ⟨_, rfl⟩
  rw [hc9] at HCV HSC HCT
  clear hc9
  obtain ⟨cw, cev, cb9⟩ := c9
  dsimp only at HCV HSC HCT
  obtain ⟨nw, hnw⟩ : ∃ n, cw.length = n := ⟨_, rfl⟩
  have HNW := Lib.hid hnw; clear hnw
  go_wp2_with (first | refine wpList_load_sys rfl _ rfl bs z (by rfl) VS.out ?_ | fail)
  refine HCT.out.mono ?_
  rintro e v4 ⟨vw, rfl, ho, hb⟩
  dsimp only at ho
  rw [HNW.out] at ho
  obtain ⟨WA, wc, rfl⟩ := own_shape ho
  have HWA := Lib.hid (RdI.of_own ho)
  have HWC := Lib.hid (own_cap' ho)
  clear ho HCT
  have HBv4 := Lib.hid (HB4.out.trans (hb.mono HB4.out.size))
  replace VS := Lib.hid (VS.out.below hb)
  clear hb HB4
  have K4 := Lib.hid (show Blk (v4.alloc (.cells #[.slice WA nw wc, .int .i64 cev] 42)) v4.heap.size 42 [.slice WA nw wc, .int .i64 cev] from Blk.new _ _ [_, _])
  have hx := box_below v4 (.cells #[.slice WA nw wc, .int .i64 cev] 42)
  have HBx4 := Lib.hid (HBv4.out.trans (hx.mono HBv4.out.size))
  replace VS := Lib.hid (VS.out.below hx)
  replace HWA := Lib.hid ((HWA.out.below hx).more hx.size)
  clear hx HBv4
  go_upto_region 5 with fail
  obtain ⟨b4, hn⟩ : ∃ b, v4.heap.size = b := ⟨_, rfl⟩
  rw [hn] at K4 ⊢
  generalize v4.alloc (.cells #[.slice WA nw wc, .int .i64 cev] 42) = x4 at K4 HBx4 VS HWA ⊢
  clear hn
  have HC := Lib.hid (HS.out.lloop VS.out.ok)
  go_wp2_with (first | refine wpList_load_sys rfl _ rfl bs z (by rfl) VS.out ?_ | fail)
  refine HC.out.mono ?_
  rintro e v5 ⟨y5, B5, nb5, cb5, C5, cc5, ws5, rfl, hya, hy, hT, tl, t1, t2, hC, hwl, u1, u2, hb⟩
  have HT5 := Lib.hid hT
  have HTL5 := Lib.hid (And.intro tl (And.intro t1 t2))
  have HW5 := Lib.hid hC
  have HWL5 := Lib.hid (And.intro hwl (And.intro u1 u2))
  have HYA5 := Lib.hid hya
  clear hT tl t1 t2 hC hwl u1 u2 hya HC
  have HBv5 := Lib.hid (HBx4.out.trans (hb.mono HBx4.out.size))
  replace VS := Lib.hid (VS.out.below hb)
  replace HWA := Lib.hid ((HWA.out.below hb).more hb.size)
  replace K4 := Lib.hid (K4.out.below hb K4.out.lt)
  clear hb HBx4
  have VY5 := Lib.hid (VarA.new hy)
  have hx := box_below v5 (.cells #[.slice y5.A y5.na y5.ca, .int .i64 y5.a.st, .slice y5.M y5.nm y5.cm, .slice y5.E y5.ne y5.ce] 33)
  clear hy
  have HBx5 := Lib.hid (HBv5.out.trans (hx.mono HBv5.out.size))
  replace VS := Lib.hid (VS.out.below hx)
  replace HWA := Lib.hid ((HWA.out.below hx).more hx.size)
  replace K4 := Lib.hid (K4.out.below hx K4.out.lt)
  replace HT5 := Lib.hid ((HT5.out.below hx).more hx.size)
  replace HW5 := Lib.hid ((HW5.out.below hx).more hx.size)
  clear hx HBv5
  go_upto_region 6 with fail
  obtain ⟨b5, hn⟩ : ∃ b, v5.heap.size = b := ⟨_, rfl⟩
  rw [hn] at VY5 ⊢
  generalize v5.alloc (.cells #[.slice y5.A y5.na y5.ca, .int .i64 y5.a.st, .slice y5.M y5.nm y5.cm, .slice y5.E y5.ne y5.ce] 33) = x5 at VY5 HBx5 VS HWA K4 HT5 HW5 ⊢
  clear hn
  have hnb : nb5 ≤ 3600 := by have := HTL5.out.1; have := HS.out.prob.len; omega
  have hna : y5.na ≤ 32 := by have := VY5.out.ok.la; have h2 := HS.out.prob.pwf.al_le; rw [HYA5.out] at this; omega
  have HST := Lib.hid (show y5.a.st = (nb5 : Int) by rw [HYA5.out, HS.out.prob.tups.1, HTL5.out.1])
  have HBZ := Lib.hid (Below.refl x5.heap.size x5)
  have hx := box_below x5 (.cells #[.slice none 0 0, .int .i64 0] 42)
  have HB6 := Lib.hid (show Below x5.heap.size x5 (x5.alloc (.cells #[.slice none 0 0, .int .i64 0] 42)) from hx)
  have HWT := Lib.hid (show WtR x5.heap.size (x5.alloc (.cells #[.slice none 0 0, .int .i64 0] 42)) ([], 0, true) from ⟨none, 0, Blk.new _ _ [_, _], RdI.nil, Nat.le_refl _, by omega⟩)
  clear hx HBZ
  go_upto_region 8 with fail
  generalize x5.alloc (.cells #[.slice none 0 0, .int .i64 0] 42) = x6 at HB6 HWT ⊢
  have q1 := (VY5.out.below HB6.out).c1
  rw [HST.out] at q1
  go_wp2
  clear q1
  go_loopw [11, 12, 14, 33] (fun s11 s12 s14 s33 wr => ∃ (i : Nat) (v12 v14 : Value) (c : List Int × Int × Bool), s11 = .bool c.2.2 ∧ s12 = v12 ∧ s14 = v14 ∧ s33 = .int .i64 i ∧ i ≤ nb5 ∧ Hid (WtR x5.heap.size wr c) ∧ Hid (Below x5.heap.size x5 wr) ∧ Hid (c = seaZ z q T i)) (fun _ _ _ s33 _ => nb5 - (intOf s33).toNat)
  case atStart => exact ⟨0, _, _, ([], 0, true), rfl, rfl, rfl, rfl, Nat.zero_le _, HWT, HB6, Lib.hid rfl⟩
  case round =>
    clear HWT HB6
    obtain ⟨i, v12, v14, c, rfl, rfl, rfl, rfl, hi, HWT, HB6, HSE⟩ := hrel
    by_cases hlt : i < nb5
    · skip
      obtain ⟨ac, sl, hAC, hac, hsl, hcl, hrd, kk1, kk2⟩ := HW5.out.at_ (k := i) (by have := congrArg List.length HWL5.out.1; rw [List.length_map, wdsOf_len] at this; rw [this]; exact hlt)
      rw [hAC]
      have HSQ := Lib.hid (And.intro hac (And.intro hsl (And.intro hcl (And.intro hrd (And.intro kk1 kk2)))))
      clear hAC hac hsl hcl hrd kk1 kk2
      have b1 : (i : Int) < (nb5 : Int) := by omega
      have q0 := (VY5.out.below HB6.out).c0
      go_wp2
      clear q0 b1
      obtain ⟨wo, rfl⟩ : ∃ wo : World, wo = wr := ⟨_, rfl⟩
      have HLT := Lib.hid hlt
      go_loopw [11, 14, 39] (fun s11 s14 s39 wr => ∃ (j : Nat) (v14 : Value) (d : List Int × Int × Bool), s11 = .bool d.2.2 ∧ s14 = v14 ∧ s39 = .int .i64 j ∧ j ≤ y5.na ∧ Hid (WtR x5.heap.size wr d) ∧ Hid (Below x5.heap.size x5 wr) ∧ Hid (d = seaI z q T i (q.al.take j) c)) (fun _ _ s39 _ => y5.na - (intOf s39).toNat)
      case atStart => exact ⟨0, _, c, rfl, rfl, rfl, Nat.zero_le _, HWT, HB6, Lib.hid rfl⟩
      case round =>
        clear HWT HB6
        obtain ⟨j, v14, d, rfl, rfl, rfl, hj, HWT, HB6, HSD⟩ := hrel
        by_cases hjl : j < y5.na
        · skip
          have VY := Lib.hid (VY5.out.below HB6.out)
          obtain ⟨ad, v, hAV, hbv, hv, hcv⟩ := VY.out.ok.ra.at_ (k := j) (by rw [VY.out.ok.la]; exact hjl)
          have HV := Lib.hid (show q.al[j]? = some v by rw [← HYA5.out]; exact hv)
          have b1 : (j : Int) < (y5.na : Int) := by omega
          have b0 : ¬ (j : Int) < 0 := by omega
          rw [hAV]
          clear hv hbv hAV
          obtain ⟨dw, de, db⟩ := d
          dsimp only
          have HTK := Lib.hid (show q.al.take (j + 1) = q.al.take j ++ [v] from take_snoc' HV.out)
          cases db with
          | false =>
            have HSD2 := Lib.hid (show (dw, de, false) = seaI z q T i (q.al.take (j + 1)) c by rw [HTK.out, seaI_snoc, ← HSD.out]; rfl)
            go_wp2
            go_roundw
            case rel => exact ⟨j + 1, _, (dw, de, false), rfl, rfl, by go_num, by omega, HWT, HB6, HSD2⟩
            case measure => simp [intOf]; omega
          | true =>
            have VSr := Lib.hid (VS.out.below HB6.out)
            obtain ⟨t, ht⟩ : ∃ t, wrgB z.p.a q T z.u z.f z.tick i v = t := ⟨_, rfl⟩
            have HC := Lib.hid (HS.out.wrong (cb := cb5) VSr.out.ok v VY.out.ok HYA5.out ((HT5.out.below HB6.out).more HB6.out.size) HTL5.out.1 HLT.out t ht)
            have HTT := Lib.hid ht; clear ht
            have p0 := VY.out.c0
            have p1 := VY.out.c1
            have p2 := VY.out.c2
            have p3 := VY.out.c3
            go_wp2_with (first | refine wpList_load_sysG (by rfl) _ rfl bs z (by rfl) VSr.out ?_; (try simp only [Act.put, List.setIfInBounds_toArray, List.set_cons_zero, List.set_cons_succ]) | fail)
            refine HC.out.mono ?_
            rintro e wk ⟨rfl, hb⟩
            clear HC p0 p1 p2 p3 VSr hcv
            have HWT2 := Lib.hid (HWT.out.below hb)
            have HB7 := Lib.hid (HB6.out.trans (hb.mono HB6.out.size))
            clear hb
            cases t with
            | false =>
              have HSD2 := Lib.hid (show (dw, de, true) = seaI z q T i (q.al.take (j + 1)) c by rw [HTK.out, seaI_snoc, ← HSD.out]; simp only [HTT.out]; rfl)
              go_wp2
              go_roundw
              case rel => exact ⟨j + 1, _, (dw, de, true), rfl, rfl, by go_num, by omega, HWT2, HB7, HSD2⟩
              case measure => simp [intOf]; omega
            | true =>
              have HSD2 := Lib.hid (show ((wdsOf T.length q.ed).getD i [], v, false) = seaI z q T i (q.al.take (j + 1)) c by rw [HTK.out, seaI_snoc, ← HSD.out]; simp only [HTT.out]; rfl)
              have hsl2 : (wdsOf T.length q.ed).getD i [] = sl.l := by
                have h1 : (ws5.map SlV.l)[i]? = some sl.l := by rw [List.getElem?_map, HSQ.out.2.1]; rfl
                rw [HWL5.out.1] at h1
                rw [List.getD_eq_getElem?_getD, HTL5.out.1, h1]; rfl
              rw [hsl2] at HSD2
              have hcell := (HB7.out.cell (p := ac.add i) (by rw [block_of_add]; exact HSQ.out.1)).trans HSQ.out.2.2.1
              have g0 : ¬ (i : Int) < 0 := by omega
              have g1 : (i : Int) < (nb5 : Int) := by have := HLT.out; omega
              obtain ⟨WB, wcb, hk, _⟩ := HWT2.out
              have e0 := hk.cell (j := 0) rfl
              have e1 := hk.cell (j := 1) rfl
              have f0 := hk.free 0
              have f1 := hk.free 1
              have hl := hk.lt
              have HK2 := Lib.hid ((hk.set (j := 0) (by simp) (.slice sl.A sl.l.length sl.c)).set (j := 1) (by simp) (.int .i64 v))
              have HB8 := Lib.hid ((HB7.out.setCell (p := ⟨x5.heap.size, 0, none⟩) (Nat.le_refl _) (.slice sl.A sl.l.length sl.c)).setCell (p := ⟨x5.heap.size, 1, none⟩) (Nat.le_refl _) (.int .i64 v))
              have HB9 := Lib.hid (((Below.refl x5.heap.size wk).setCell (p := ⟨x5.heap.size, 0, none⟩) (Nat.le_refl _) (.slice sl.A sl.l.length sl.c)).setCell (p := ⟨x5.heap.size, 1, none⟩) (Nat.le_refl _) (.int .i64 v))
              have HWT3 := Lib.hid (show WtR x5.heap.size _ (sl.l, v, false) from ⟨sl.A, sl.c, HK2.out, HSQ.out.2.2.2.1.below HB8.out, HSQ.out.2.2.2.2.1, HSQ.out.2.2.2.2.2⟩)
              clear hk hsl2 HK2 HB9 HWT2
              go_wp2
              go_roundw
              case rel => exact ⟨j + 1, _, (sl.l, v, false), rfl, rfl, by go_num, by omega, HWT3, HB8, HSD2⟩
              case measure => simp [intOf]; omega
        · skip
          obtain rfl : j = y5.na := by omega
          have b1 : ¬ (y5.na : Int) < (y5.na : Int) := by omega
          have HSE2 := Lib.hid (show d = seaZ z q T (i + 1) by
            have h1 := (VY5.out.ok).la
            rw [HYA5.out] at h1
            rw [HSD.out, List.take_of_length_le (by omega), HSE.out]; rfl)
          go_wp2
          go_roundw
          case rel => exact ⟨i + 1, _, _, d, rfl, rfl, rfl, by go_num, by omega, HWT, HB6, HSE2⟩
          case measure => simp [intOf]; omega
    · skip
      obtain rfl : i = nb5 := by omega
      have b1 : ¬ (i : Int) < (i : Int) := by omega
      have hcc : c = (cw, cev, cb9) := by
        rw [HSE.out, ← HSC.out, ← HTL5.out.1]; rfl
      subst hcc
      dsimp only
      obtain ⟨WB, wcb, hk, hr, h1, h2⟩ := HWT.out
      dsimp only at hk hr h1 h2
      rw [HNW.out] at hk h1
      have k4 := K4.out.below HB6.out K4.out.lt
      have HE := Lib.hid (slices_Equal_n WA WB wc wcb nw nw cw cw true wr HNW.out HNW.out (eqB_of rfl) ((HWA.out.below HB6.out).more HB6.out.size) HWC.out.1 HWC.out.2 (hr.more (Nat.le_of_lt hk.lt)))
      have e0 := hk.cell (j := 0) rfl
      have e1 := hk.cell (j := 1) rfl
      have k0 := k4.cell (j := 0) rfl
      have k1 := k4.cell (j := 1) rfl
      clear hk hr h1 h2
      have d1 : (cev != cev) = false := by simp
      cases cb9 with
      | true =>
        go_wp2_with fail
        refine HE.out.mono ?_
        rintro e wf ⟨rfl, nf9, rfl⟩
        go_wp2
        go_ret
        exact ⟨rfl, below_drewN (HBx5.out.trans (HB6.out.mono HBx5.out.size)) _⟩
      | false =>
        go_wp2_with fail
        refine HE.out.mono ?_
        rintro e wf ⟨rfl, nf9, hwf⟩
        have hbf := below_drewN (Below.refl wr.heap.size wr) nf9
        rw [← hwf] at hbf
        clear hwf e0 e1 k0 k1 HE
        have HBF := Lib.hid (HB6.out.trans (hbf.mono HB6.out.size))
        have VSf := Lib.hid (VS.out.below HBF.out)
        have k5 := k4.below hbf k4.lt
        have k0 := k5.cell (j := 0) rfl
        have k1 := k5.cell (j := 1) rfl
        clear k4 hbf k5
        have HC := Lib.hid (HS.out.ver VSf.out.ok (V := WA) (nw := nw) (cw := wc) (ws := cw) (ev := cev) HNW.out ((HWA.out.below HBF.out).more HBF.out.size) HWC.out.1 HWC.out.2)
        rw [HCV.out (by first | rfl | trivial)] at HC
        go_wp2_with (first | refine wpList_load_sysG (by rfl) _ rfl bs z (by rfl) VSf.out ?_; (try simp only [Act.put, List.setIfInBounds_toArray, List.set_cons_zero, List.set_cons_succ]) | fail)
        refine HC.out.mono ?_
        rintro e wg ⟨rfl, hb⟩
        go_wp2
        go_ret
        exact ⟨rfl, HBx5.out.trans ((HBF.out.trans (hb.mono HBF.out.size)).mono HBx5.out.size)⟩
end Go.Proofs.YtioijhpbedmeaaaGreatDoor
