/- Walks: ref06.Synchronous. -/
import Derived.Test.YtbdliebjalghmaaDoorGj
namespace Go.Proofs.YtbdliebjalghmaaDoor
open Go.RowKit Go

theorem AutO.set4 {w w' : World} {b r : Nat} {A M E : Option Addr} {na ca nm cm ne ce : Nat} {a : Aut} (h : AutO w (r + 1) A na ca M nm cm E ne ce a) (hg : w.grownBy w' (some r)) (hb : b ≤ r) : AutO w' b A na ca M nm cm E ne ce a :=
  (h.low hg (Nat.lt_succ_self _)).down (by omega)
theorem rds_of_own {w : World} {b n nt tc : Nat} {TA : Option Addr} {ts : List SlV} {mv : Value} (ho : w.ownsRow b 26 1 (.slice TA nt tc) nt (ts.map SlV.v)) (ht : ∀ x ∈ ts, w.ownsRow b 3 1 x.v n (iv x.l) ∧ x.l.length = n ∧ (x.v.ownBlock = none ∨ x.v.ownBlock ≠ mv.ownBlock)) : RdS w w.heap.size TA ts :=
  ⟨RdV.of_own ho, fun x hx => by
    obtain ⟨h1, h2, _⟩ := ht x hx
    unfold SlV.v at h1
    rw [h2] at h1
    obtain ⟨c1, c2⟩ := cap_of_own h1
    exact ⟨RdI.of_own h1, by rw [h2]; exact c1, c2⟩⟩
theorem RdL.dr {w : World} {A : Option Addr} {xs : List AV} (h : RdL w w.heap.size A xs) : RdL w.drew w.drew.heap.size A xs := h.keep (fun _ _ => rfl)


set_option maxRecDepth 100000 in
set_option maxHeartbeats 6400000 in
theorem ref_Synchronous (L : Option Addr) (c n : Nat) (xs : List AV) (w : World) (hl : xs.length = n) (h : RdL w w.heap.size L xs) (hc1 : n ≤ c) (hc2 : c ≤ 9223372036854775807) (hn : n ≤ 12) (hw : ∀ a ∈ xs.map AV.a, WF a)
    (hnm : noSt (xs.map AV.a) = false → ¬ Many 4096 (stp (xs.map AV.a)) (evs (xs.map AV.a)) (ini (xs.map AV.a))) :
    Calls Tryd.prog 17 #[.slice L n c] w (RetSR (synR (xs.map AV.a)) w) := by
  have hB := box_below w (.cells #[.slice none 0 0, .int .i64 0, .slice none 0 0, .slice none 0 0] 29)
  have hrs : Blk (w.alloc (.cells #[.slice none 0 0, .int .i64 0, .slice none 0 0, .slice none 0 0] 29)) w.heap.size 29 [.slice none 0 0, .int .i64 0, .slice none 0 0, .slice none 0 0] := Blk.new _ _ _
  have HAL := Lib.hid (ref_Alphabet6 L c n xs _ hl ((h.below hB).more hB.size) hc1 hc2 hw)
  have hnv := evs_le hw
  have HL := Lib.hid hl; clear hl
  have HH := Lib.hid h; clear h
  have HW := Lib.hid hw; clear hw
  have HNM := Lib.hid hnm; clear hnm
  have HB := Lib.hid hB; clear hB
  have HRS0 := Lib.hid hrs; clear hrs
  go_enter Tryd.func17, Tryd.ntmps17
  go_wp2_with fail
  refine HAL.out.mono ?_
  rintro e w1 ⟨v1, rfl, ho1, hb1⟩
  obtain ⟨V, cv, rfl⟩ := own_shape ho1
  obtain ⟨nv, hnv2⟩ : ∃ nv, (evs (xs.map AV.a)).length = nv := ⟨_, rfl⟩
  rw [hnv2] at ho1 hnv ⊢
  have HB0 := Lib.hid (HB.out.trans (hb1.mono HB.out.size))
  have HRS1 := Lib.hid (HRS0.out.below hb1 HRS0.out.lt)
  have hz01 : w.heap.size < w1.heap.size := HRS1.out.lt
  have HOV := Lib.hid (own_base (base := w.heap.size + 1) ho1 (by simp))
  have HLV := Lib.hid hnv2; clear hnv2
  have hb2 := HB0.out.alloc HB0.out.size (.cells #[.slice V nv cv, .int .i64 0, .slice none 0 0, .slice none 0 0] 29)
  have HI := Lib.hid (ref_Initial L c n xs _ HL.out ((HH.out.below hb2).more hb2.size) hc1 hc2 (by omega))
  clear hb2 HAL HRS0 ho1 hb1 HB
  go_wp2_with fail
  refine HI.out.mono ?_
  cases hns : noSt (xs.map AV.a) with
  | true =>
    simp only [if_true, Bool.not_true]
    rintro e w2 ⟨v2, rfl, ho2, hb2⟩
    obtain ⟨A2, c2, rfl⟩ := own_shape ho2
    have hbld := (Bld.start w1 (.slice V nv cv) (.int .i64 0)).quiet hb2
    have hres : synR (xs.map AV.a) = some (⟨evs (xs.map AV.a), 0, [], []⟩, []) := by unfold synR; rw [if_pos hns]
    have hrs := HRS1.out.below hbld.bel HRS1.out.lt
    have hB := HB0.out.trans (hbld.bel.mono HB0.out.size)
    have f0 := hrs.free 0
    have f1 := hrs.free 1
    have f2 := hrs.free 2
    have f3 := hrs.free 3
    have e0 := hrs.cell (j := 0) rfl
    have e1 := hrs.cell (j := 1) rfl
    have e2 := hrs.cell (j := 2) rfl
    have e3 := hrs.cell (j := 3) rfl
    have l0 : w.heap.size < w2.heap.size := hrs.lt
    have o0 : w2.cell? ⟨w1.heap.size, 0, none⟩ = some (.slice V nv cv) := hbld.blk.cell (j := 0) rfl
    have o1 : w2.cell? ⟨w1.heap.size, 1, none⟩ = some (.int .i64 0) := hbld.blk.cell (j := 1) rfl
    have o2 : w2.cell? ⟨w1.heap.size, 2, none⟩ = some (.slice none 0 0) := hbld.blk.cell (j := 2) rfl
    have o3 : w2.cell? ⟨w1.heap.size, 3, none⟩ = some (.slice none 0 0) := hbld.blk.cell (j := 3) rfl
    have HO := Lib.hid (hbld.fin (st := 0) HLV.out HOV.out (by omega))
    have HRES := Lib.hid hres; clear hres
    have HHB := Lib.hid hB; clear hB
    clear hbld ho2 hb2 HI
    go_wp2
    have hb3 := (((hrs.set (j := 0) (by simp) (.slice V nv cv)).set (j := 1) (by simp) (.int .i64 0)).set (j := 2) (by simp) (.slice none 0 0)).set (j := 3) (by simp) (.slice none 0 0)
    have z0 := hb3.cell (j := 0) rfl
    have z1 := hb3.cell (j := 1) rfl
    have z2 := hb3.cell (j := 2) rfl
    have z3 := hb3.cell (j := 3) rfl
    refine bodyPost_ret (v := .tuple #[.agg #[.slice V nv cv, .int .i64 0, .slice none 0 0, .slice none 0 0], .slice none 0 0]) (by simp [results, Tryd.results17, go_sem, z0, z1, z2, z3]) rfl ?_
    have hg5 : w2.grownBy ((((w2.setCell ⟨w.heap.size, 0, none⟩ (.slice V nv cv)).setCell ⟨w.heap.size, 1, none⟩ (.int .i64 0)).setCell ⟨w.heap.size, 2, none⟩ (.slice none 0 0)).setCell ⟨w.heap.size, 3, none⟩ (.slice none 0 0)) (some w.heap.size) := (((grown_setCell _ _ _ _).trans (grown_setCell _ _ _ _)).trans (grown_setCell _ _ _ _)).trans (grown_setCell _ _ _ _)
    exact ⟨HHB.out.grown hg5 HHB.out.size (fun j hj => by injection hj with hj; omega), _, _, HRES.out, V, nv, cv, none, 0, 0, none, 0, 0, none, 0, 0, [], rfl, HO.out.set4 hg5 (Nat.le_refl _), RdS.nil, rfl, Nat.le_refl _, by omega, rfl⟩
  | false =>
    simp only [Bool.false_eq_true, if_false, Bool.not_false]
    rintro e w2 ⟨v2, rfl, ho2, hb2⟩
    obtain ⟨A2, c2, rfl⟩ := own_shape ho2
    have hin : (ini (xs.map AV.a)).length = n := by unfold ini; rw [List.length_replicate, List.length_map, HL.out]
    rw [hin] at ho2 ⊢
    have ho2' := own_base (base := w1.heap.size + 1) ho2 (by simp)
    have HS := Lib.hid (RSy.start w1 (.slice V nv cv) hb2 ho2' hin)
    have HBI := Lib.hid (BInv.begin (C := 4096) (st := stp (xs.map AV.a)) (V := evs (xs.map AV.a)) (x0 := ini (xs.map AV.a)) (by omega))
    have HRS := Lib.hid (show bsR 4096 (stp (xs.map AV.a)) (evs (xs.map AV.a)) (4097 - 0) 0 ⟨[ini (xs.map AV.a)], []⟩ = synS (xs.map AV.a) from rfl)
    have hsr : synR (xs.map AV.a) = (synS (xs.map AV.a)).map (fun s => (autOf (evs (xs.map AV.a)) (mkT (xs.map AV.a)) s, s.ts)) := by unfold synR; rw [if_neg (by rw [hns]; simp)]
    have hnm := HNM.out hns
    have HSR := Lib.hid hsr; clear hsr
    have HNM2 := Lib.hid hnm; clear hnm
    have HNS := Lib.hid hns; clear hns
    clear ho2 hb2 ho2' hin HI HNM
    go_wp2
    go_loopw [7, 8] (fun s7 s8 wr => ∃ (i nt km ke : Nat) (tv mv ev : Value) (ts : List SlV) (s : Bs (List Int)) (mk : List Int), s8 = .int .i64 i ∧ s7 = tv ∧ i ≤ nt ∧ nt ≤ 4096 ∧ km ≤ i ∧ ke ≤ i * 32 ∧ Hid (RSy w1 wr n (.slice V nv cv) mv ev tv km ke nt ts s mk) ∧
      Hid (mk = mksN (mkT (xs.map AV.a)) s.ts i) ∧ Hid (BInv 4096 (stp (xs.map AV.a)) (evs (xs.map AV.a)) (ini (xs.map AV.a)) i s) ∧ Hid (bsR 4096 (stp (xs.map AV.a)) (evs (xs.map AV.a)) (4097 - i) i s = synS (xs.map AV.a))) (fun _ s8 _ => 4097 - (intOf s8).toNat)
    case atStart => exact ⟨0, 1, 0, 0, _, _, _, _, _, _, rfl, rfl, by omega, by omega, by omega, by omega, HS, Lib.hid rfl, HBI, HRS⟩
    case round =>
      clear HS HBI HRS
      obtain ⟨i, nt, km, ke, tv, mv, ev, ts, s, mk, rfl, rfl, hin', hnt, hkm, hke, HS, HMK, HBI, HRS⟩ := hrel
      obtain ⟨TA, tc, rfl⟩ := own_shape HS.out.own
      obtain ⟨MA, mc, rfl⟩ := own_shape HS.out.bld.mrk
      obtain ⟨EA, ec, rfl⟩ := own_shape HS.out.bld.edg
      have hBw := HB0.out.trans (HS.out.bld.bel.mono HB0.out.size)
      have hsz := hBw.size
      have hLr := (HH.out.below hBw).more hsz
      have b0 : wr.cell? ⟨w1.heap.size, 0, none⟩ = some (.slice V nv cv) := HS.out.bld.blk.cell (j := 0) rfl
      have hsz3 : w1.heap.size < wr.heap.size := HS.out.bld.lt
      by_cases hlt : i < nt
      · obtain ⟨hrd, hcap1, hcap2⟩ := HS.out.rds
        obtain ⟨td, x, hTe, htb, hx, htc, hxr, hxc1, hxc2⟩ := hrd.at_ (k := i) (by rw [HS.out.tn]; exact hlt)
        subst hTe
        have hxt : s.ts[i]? = some x.l := by rw [← HS.out.tsl, List.getElem?_map, hx]; rfl
        have hxl : x.l.length = n := (HS.out.tup _ (List.mem_of_getElem? hx)).2.1
        obtain ⟨XA, xc, t⟩ := x
        simp only at htc hxr hxc1 hxc2 hxt hxl
        rw [hxl] at htc hxc1
        have b1 : (i : Int) < (nt : Int) := by omega
        obtain ⟨q, hq⟩ : ∃ q, mkT (xs.map AV.a) t = q := ⟨_, rfl⟩
        have HMRK := Lib.hid (ref_Marked L c n xs XA xc t q wr HL.out hLr hc1 hc2 hxl hxr hxc1 hxc2 hq)
        have htT := rch_tup HW.out HNS.out (HBI.out.rch t (List.mem_of_getElem? hxt))
        obtain ⟨wo, rfl⟩ : ∃ wo : World, wo = wr := ⟨_, rfl⟩
        have HQ := Lib.hid hq; clear hq
        have HX := Lib.hid hx; clear hx
        have HXT := Lib.hid hxt; clear hxt
        have HXL := Lib.hid hxl; clear hxl
        have HTT := Lib.hid htT; clear htT
        clear hrd hxr hBw hsz hLr
        go_wp2_with fail
        refine HMRK.out.mono ?_
        rintro e w7 ⟨rfl, p, rfl⟩
        have HS7 := Lib.hid (HS.out.quiet (below_drewN (Below.refl _ _) p))
        clear HS HMRK htc b0
        cases q with
        | true =>
          have HMK2 := Lib.hid (show mk ++ [(i : Int)] = mksN (mkT (xs.map AV.a)) s.ts (i + 1) by rw [mksN_yes HXT.out HQ.out, HMK.out])
          have g2 : (wo.drewN p).cell? ⟨w1.heap.size, 2, none⟩ = some (.slice MA km mc) := HS7.out.bld.blk.cell (j := 2) rfl
          have hbs : w1.heap.size + 1 ≤ (wo.drewN p).heap.size := HS7.out.bld.lt
          go_wp2_with (at_builtin; refine wpList_pushA _ [.int .i64 (i : Int)] rfl (.tmp 39) (.tmp 41) 26 rfl (w1.heap.size + 1) 3 (.int .i64 0) 1 8 Tryd.underlying26 int_info rfl (by decide) rfl (.slice MA km mc) km _ rfl HS7.out.bld.mrk rfl (fun u hu => by simp at hu; subst hu; rfl) (by omega) (by omega) hbs ?_; intro MA2 mc2 w8 ho8 hg8 hl8; have B8 := HS7.out.bld.blk.kept hg8 (own_lt_ne HS7.out.bld.mrk (Nat.lt_succ_self _)); have e8 : w8.cell? ⟨w1.heap.size, 2, none⟩ = some (.slice MA km mc) := B8.cell (j := 2) rfl; have f8 : w8.frozen? ⟨w1.heap.size, 2, none⟩ = false := B8.free 2; have l8 : w1.heap.size < w8.heap.size := B8.lt; have HS8 := Lib.hid (HS7.out.mark (i := (i : Int)) ho8 hg8 hl8); clear B8 ho8 hg8 hl8)
          have HRS2 := Lib.hid (show bsC 4096 (stp (xs.map AV.a)) (evs (xs.map AV.a)) (4096 - i) i (bsF 4096 (stp (xs.map AV.a)) i t ((evs (xs.map AV.a)).drop 0) s) = synS (xs.map AV.a) by
            have := HRS.out
            rw [show 4097 - i = 4096 - i + 1 by omega] at this
            rw [← this, bsR_bsC HXT.out])
          have HFI := Lib.hid (show FInv 4096 (stp (xs.map AV.a)) (evs (xs.map AV.a)) (ini (xs.map AV.a)) i t ((evs (xs.map AV.a)).take 0) s from HBI.out.enter HXT.out)
          have HPR := Lib.hid (List.prefix_refl s.ts)
          go_loopw [7, 9] (fun s7 s9 wr => ∃ (j nu kf : Nat) (tv ev : Value) (us : List SlV) (z : Bs (List Int)), s9 = .int .i64 j ∧ s7 = tv ∧ j ≤ nv ∧ i < nu ∧ nu ≤ 4096 ∧ kf ≤ i * 32 + j ∧ Hid (RSy w1 wr n (.slice V nv cv) (.slice MA2 (km + 1) mc2) ev tv (km + 1) kf nu us z (mk ++ [(i : Int)])) ∧ Hid (s.ts <+: z.ts) ∧
            Hid (FInv 4096 (stp (xs.map AV.a)) (evs (xs.map AV.a)) (ini (xs.map AV.a)) i t ((evs (xs.map AV.a)).take j) z) ∧ Hid (bsC 4096 (stp (xs.map AV.a)) (evs (xs.map AV.a)) (4096 - i) i (bsF 4096 (stp (xs.map AV.a)) i t ((evs (xs.map AV.a)).drop j) z) = synS (xs.map AV.a))) (fun _ s9 _ => nv - (intOf s9).toNat)
          case atStart => exact ⟨0, nt, ke, _, _, ts, s, rfl, rfl, Nat.zero_le _, hlt, hnt, by omega, HS8, HPR, HFI, HRS2⟩
          case round =>
            clear HRS2 HFI HPR HS8
            obtain ⟨j, nu, kf, tv, ev, us, z, rfl, rfl, hjv, hinu, hnu, hkf, HZ, HPR, HFI, HRZ⟩ := hrel
            obtain ⟨TB, tb, rfl⟩ := own_shape HZ.out.own
            obtain ⟨EB, eb, rfl⟩ := own_shape HZ.out.bld.edg
            have hBw := HB0.out.trans (HZ.out.bld.bel.mono HB0.out.size)
            have hsz := hBw.size
            have hLr := (HH.out.below hBw).more hsz
            have b0 : wr.cell? ⟨w1.heap.size, 0, none⟩ = some (.slice V nv cv) := HZ.out.bld.blk.cell (j := 0) rfl
            have hsz3 : w1.heap.size < wr.heap.size := HZ.out.bld.lt
            by_cases hjl : j < nv
            · obtain ⟨vd, v, hVe, hvb, hve, hvc0⟩ := (RdI.of_own HOV.out).at_ (k := j) (by have := HLV.out; omega)
              have hvc : wr.cell? (vd.add j) = some (.int .i64 v) := (HZ.out.bld.bel.cell (p := vd.add j) (by rw [block_of_add]; exact hvb)).trans hvc0
              subst hVe
              obtain ⟨hrd, hcap1, hcap2⟩ := HZ.out.rds
              obtain ⟨td, x, hTe, htb, hx, htc, hxr, hxc1, hxc2⟩ := hrd.at_ (k := i) (by rw [HZ.out.tn]; exact hinu)
              subst hTe
              have hxt2 : x.l = t := by
                have h1 := HFI.out.at_
                rw [← HZ.out.tsl, List.getElem?_map, hx] at h1
                simpa using h1
              obtain ⟨XB, xb, t2⟩ := x
              have hxt3 : t2 = t := hxt2
              subst hxt3
              have hxl : t2.length = n := (HZ.out.tup _ (List.mem_of_getElem? hx)).2.1
              simp only at htc hxr hxc1 hxc2
              rw [hxl] at htc hxc1
              have bj : (j : Int) < (nv : Int) := by omega
              have bi : (i : Int) < (nu : Int) := by omega
              have hvm := List.mem_of_getElem? hve
              obtain ⟨r, hr⟩ : ∃ r, stp (xs.map AV.a) t2 v = r := ⟨_, rfl⟩
              have hA0 : wr.drew.cell? (td.add i) = some (.slice XB n xb) ∧ wr.drew.cell? ⟨w1.heap.size, 0, none⟩ = some (.slice (some vd) nv cv) ∧ wr.drew.cell? (vd.add j) = some (.int .i64 v) := ⟨htc, b0, hvc⟩
              have hB0 : True := trivial
              have HZd := Lib.hid (HZ.out.quiet (below_dr wr))
              have HSTEP := Lib.hid (ref_Step6 L c n xs XB xb t2 v wr.drew HL.out hLr.dr (by omega) hxl (by exact hxr) hxc1 hxc2)
              rw [hr] at HSTEP
              have htdb : (td.add i).block < wr.drew.heap.size := by rw [block_of_add]; exact htb
              have hv1 : (vd.add j).block < w1.heap.size := by rw [block_of_add]; exact hvb
              have hszd : w1.heap.size < wr.drew.heap.size := hsz3
              have HVE := Lib.hid hve; clear hve
              have HVM := Lib.hid hvm; clear hvm
              have HR := Lib.hid hr; clear hr
              have HX := Lib.hid hx; clear hx
              have HXL := Lib.hid hxl; clear hxl
              go_wp2
              refine wp_region_U (fun W => W.cell? (td.add i) = some (.slice XB n xb) ∧ W.cell? ⟨w1.heap.size, 0, none⟩ = some (.slice (some vd) nv cv) ∧ W.cell? (vd.add j) = some (.int .i64 v)) (fun _ => True) 15 (by kernel_rfl) ?_
              change anyU _ _ _ _ _ _ _ 16 _ _ _
              clear htc hvc b0 hrd hxr hLr hBw hsz HZ hsz3 htb hvb hxt2
              generalize hwd : wr.drew = wd at hA0 HZd HSTEP htdb hszd ⊢
              have HWD := Lib.hid hwd; clear hwd
              ((refine uTake (i := 0) (v := ?_) rfl (by kernel_rfl) (fun _ _ _ h => h) (by rfl) (fun W hA hB => ?_) ⟨hA0, fun _ => hB0⟩ ?_; rotate_left; (· (clear hB; (try dsimp only at hA); go_simp; try with_reducible rfl)); (try simp only [Act.put, List.setIfInBounds_toArray, List.set_cons_zero, List.set_cons_succ])); (refine uTake (i := 1) (v := ?_) rfl (by kernel_rfl) (fun _ _ _ h => h) (by rfl) (fun W hA hB => ?_) ⟨hA0, fun _ => hB0⟩ ?_; rotate_left; (· (clear hB; (try dsimp only at hA); go_simp; try with_reducible rfl)); (try simp only [Act.put, List.setIfInBounds_toArray, List.set_cons_zero, List.set_cons_succ])); (refine uTake (i := 2) (v := ?_) rfl (by kernel_rfl) (fun _ _ _ h => h) (by rfl) (fun W hA hB => ?_) ⟨hA0, fun _ => hB0⟩ ?_; rotate_left; (· (clear hB; (try dsimp only at hA); go_simp; try with_reducible rfl)); (try simp only [Act.put, List.setIfInBounds_toArray, List.set_cons_zero, List.set_cons_succ])); (refine uTake (i := 3) (v := ?_) rfl (by kernel_rfl) (fun _ _ _ h => h) (by rfl) (fun W hA hB => ?_) ⟨hA0, fun _ => hB0⟩ ?_; rotate_left; (· (clear hB; (try dsimp only at hA); go_simp; try with_reducible rfl)); (try simp only [Act.put, List.setIfInBounds_toArray, List.set_cons_zero, List.set_cons_succ])); (refine uTake (i := 4) (v := ?_) rfl (by kernel_rfl) (fun _ _ _ h => h) (by rfl) (fun W hA hB => ?_) ⟨hA0, fun _ => hB0⟩ ?_; rotate_left; (· (clear hB; (try dsimp only at hA); go_simp; try with_reducible rfl)); (try simp only [Act.put, List.setIfInBounds_toArray, List.set_cons_zero, List.set_cons_succ])); (refine uTake (i := 5) (v := ?_) rfl (by kernel_rfl) (fun _ _ _ h => h) (by rfl) (fun W hA hB => ?_) ⟨hA0, fun _ => hB0⟩ ?_; rotate_left; (· (clear hB; (try dsimp only at hA); go_simp; try with_reducible rfl)); (try simp only [Act.put, List.setIfInBounds_toArray, List.set_cons_zero, List.set_cons_succ])); (refine uTake (i := 6) (v := ?_) rfl (by kernel_rfl) (fun _ _ _ h => h) (by rfl) (fun W hA hB => ?_) ⟨hA0, fun _ => hB0⟩ ?_; rotate_left; (· (clear hB; (try dsimp only at hA); go_simp; try with_reducible rfl)); (try simp only [Act.put, List.setIfInBounds_toArray, List.set_cons_zero, List.set_cons_succ])); (refine uTake (i := 7) (v := ?_) rfl (by kernel_rfl) (fun _ _ _ h => h) (by rfl) (fun W hA hB => ?_) ⟨hA0, fun _ => hB0⟩ ?_; rotate_left; (· (clear hB; (try dsimp only at hA); go_simp; try with_reducible rfl)); (try simp only [Act.put, List.setIfInBounds_toArray, List.set_cons_zero, List.set_cons_succ])); (refine uTake (i := 8) (v := ?_) rfl (by kernel_rfl) (fun _ _ _ h => h) (by rfl) (fun W hA hB => ?_) ⟨hA0, fun _ => hB0⟩ ?_; rotate_left; (· (clear hB; (try dsimp only at hA); go_simp; try with_reducible rfl)); (try simp only [Act.put, List.setIfInBounds_toArray, List.set_cons_zero, List.set_cons_succ])); (refine uTake (i := 9) (v := ?_) rfl (by kernel_rfl) (fun _ _ _ h => h) (by rfl) (fun W hA hB => ?_) ⟨hA0, fun _ => hB0⟩ ?_; rotate_left; (· (clear hB; (try dsimp only at hA); go_simp; try with_reducible rfl)); (try simp only [Act.put, List.setIfInBounds_toArray, List.set_cons_zero, List.set_cons_succ])))
              refine uOne (i := 10) rfl (by kernel_rfl) (fun K hK => ?_)
              go_simp
              go_at_call 27
              refine HSTEP.out.mono ?_
              rintro e wA ⟨vA, rfl, hoA, hbA⟩
              have hA1 : wA.cell? (td.add i) = some (.slice XB n xb) ∧ wA.cell? ⟨w1.heap.size, 0, none⟩ = some (.slice (some vd) nv cv) ∧ wA.cell? (vd.add j) = some (.int .i64 v) := ⟨(hbA.cell htdb).trans hA0.1, (hbA.cell (p := ⟨w1.heap.size, 0, none⟩) hszd).trans hA0.2.1, (hbA.cell (Nat.lt_trans hv1 hszd)).trans hA0.2.2⟩
              have HZA := Lib.hid (HZd.out.quiet hbA)
              have HOF := Lib.hid hoA
              have hne := fresh_ne hoA (Nat.le_refl _) HZd.out.bld.mrk
              have HOA := Lib.hid (own_base (base := w1.heap.size + 1) hoA (by omega))
              have hszA : w1.heap.size + 1 ≤ wA.heap.size := by have := hbA.size; omega
              clear hoA HSTEP HZd hA0 htdb
              have HNE := Lib.hid hne; clear hne
              (refine hK _ _ ⟨hA1, fun _ => hB0⟩ ?_; clear hK K; (try simp only [Act.put, List.setIfInBounds_toArray, List.set_cons_zero, List.set_cons_succ]))
              replace hA0 := hA1
              clear hA1
              ((refine uTake (i := 11) (v := ?_) rfl (by kernel_rfl) (fun _ _ _ h => h) (by rfl) (fun W hA hB => ?_) ⟨hA0, fun _ => hB0⟩ ?_; rotate_left; (· (clear hB; (try dsimp only at hA); go_simp; try with_reducible rfl)); (try simp only [Act.put, List.setIfInBounds_toArray, List.set_cons_zero, List.set_cons_succ])); (refine uTake (i := 12) (v := ?_) rfl (by kernel_rfl) (fun _ _ _ h => h) (by rfl) (fun W hA hB => ?_) ⟨hA0, fun _ => hB0⟩ ?_; rotate_left; (· (clear hB; (try dsimp only at hA); go_simp; try with_reducible rfl)); (try simp only [Act.put, List.setIfInBounds_toArray, List.set_cons_zero, List.set_cons_succ])); (refine uTake (i := 13) (v := ?_) rfl (by kernel_rfl) (fun _ _ _ h => h) (by rfl) (fun W hA hB => ?_) ⟨hA0, fun _ => hB0⟩ ?_; rotate_left; (· (clear hB; (try dsimp only at hA); go_simp; try with_reducible rfl)); (try simp only [Act.put, List.setIfInBounds_toArray, List.set_cons_zero, List.set_cons_succ])); (refine uTake (i := 14) (v := ?_) rfl (by kernel_rfl) (fun _ _ _ h => h) (by rfl) (fun W hA hB => ?_) ⟨hA0, fun _ => hB0⟩ ?_; rotate_left; (· (clear hB; (try dsimp only at hA); go_simp; try with_reducible rfl)); (try simp only [Act.put, List.setIfInBounds_toArray, List.set_cons_zero, List.set_cons_succ])))
              refine uOne (i := 15) rfl (by kernel_rfl) (fun K hK => ?_)
              go_simp
              (refine hK _ _ ⟨hA0, fun _ => hB0⟩ ?_; clear hK K; (try simp only [Act.put, List.setIfInBounds_toArray, List.set_cons_zero, List.set_cons_succ]))
              refine anyU_done (by kernel_rfl) ?_ _
              clear hA0
              cases r with
              | none =>
                have HF2 : Hid (FInv 4096 (stp (xs.map AV.a)) (evs (xs.map AV.a)) (ini (xs.map AV.a)) i t2 ((evs (xs.map AV.a)).take (j + 1)) z) := by
                  rcases HFI.out.step HVM.out with ⟨s1, q1, q2, q3⟩ | ⟨q1, _⟩
                  · rw [bsE_none HR.out] at q1
                    injection q1 with q1; subst q1
                    rw [take_snoc' HVE.out]; exact Lib.hid q2
                  · rw [bsE_none HR.out] at q1; cases q1
                have HRZ2 := Lib.hid (HRZ.out.symm.trans (by rw [bsF_go HVE.out (bsE_none HR.out)]) : synS (xs.map AV.a) = bsC 4096 (stp (xs.map AV.a)) (evs (xs.map AV.a)) (4096 - i) i (bsF 4096 (stp (xs.map AV.a)) i t2 ((evs (xs.map AV.a)).drop (j + 1)) z))
                go_wp2
                go_roundw
                case rel => exact ⟨j + 1, nu, kf, _, _, us, z, by go_num, rfl, by omega, hinu, hnu, by omega, HZA, HPR, HF2, Lib.hid HRZ2.out.symm⟩
                case measure => simp [intOf]; omega
              | some u =>
                have hTu := stp_tup HW.out HTT.out HR.out
                have hul : u.length = n := by rw [hTu.len, List.length_map, HL.out]
                have hoU : wA.ownsRow (w1.heap.size + 1) 3 1 vA n (iv u) := by
                  have := HOA.out
                  rw [show ((some u).getD [] : List Int) = u from rfl, hul] at this; exact this
                obtain ⟨UA, uc, rfl⟩ := own_shape hoU
                obtain ⟨hrdA, hcA1, hcA2⟩ := HZA.out.rds
                have HFD := Lib.hid (ref_Find6 (some td) UA tb nu uc n us u wA HZA.out.tn hrdA hcA1 hcA2 hul (RdI.of_own hoU))
                rw [HZA.out.tsl] at HFD
                have HUL := Lib.hid hul; clear hul
                have HOU := Lib.hid hoU; clear hoU
                have HTU := Lib.hid hTu; clear hTu
                clear hrdA HOA HOF
                by_cases hmem : u ∈ z.ts
                · obtain ⟨y, hy1, hy2⟩ := idx_yes hmem
                  have hbe : bsE 4096 (stp (xs.map AV.a)) i t2 z v = some ⟨z.ts, z.es ++ [⟨i, v, y⟩]⟩ := by rw [bsE_old HR.out (by rw [hy1]; omega), hy1]
                  rw [hy1] at HFD
                  have HBE := Lib.hid hbe; clear hbe
                  clear hy1 hy2 hmem
                  have HF2 : Hid (FInv 4096 (stp (xs.map AV.a)) (evs (xs.map AV.a)) (ini (xs.map AV.a)) i t2 ((evs (xs.map AV.a)).take (j + 1)) ⟨z.ts, z.es ++ [⟨i, v, y⟩]⟩) := by
                    rcases HFI.out.step HVM.out with ⟨s1, q1, q2, q3⟩ | ⟨q1, _⟩
                    · rw [HBE.out] at q1
                      injection q1 with q1; subst q1
                      rw [take_snoc' HVE.out]; exact Lib.hid q2
                    · rw [HBE.out] at q1; cases q1
                  have HRZ2 := Lib.hid (HRZ.out.symm.trans (by rw [bsF_go HVE.out HBE.out]) : synS (xs.map AV.a) = bsC 4096 (stp (xs.map AV.a)) (evs (xs.map AV.a)) (4096 - i) i (bsF 4096 (stp (xs.map AV.a)) i t2 ((evs (xs.map AV.a)).drop (j + 1)) ⟨z.ts, z.es ++ [⟨i, v, y⟩]⟩))
                  have e1 : decide ((y : Int) < 0) = false := decide_eq_false (by omega)
                  go_wp2_with fail
                  refine HFD.out.mono ?_
                  rintro e wB ⟨rfl, m, rfl⟩
                  have HZB := Lib.hid (HZA.out.quiet (below_drewN (Below.refl _ _) m))
                  clear HZA HFD HOU
                  have f3 : (wA.drewN m).cell? ⟨w1.heap.size, 3, none⟩ = some (.slice EB kf eb) := HZB.out.bld.blk.cell (j := 3) rfl
                  have b0 : (wA.drewN m).cell? ⟨w1.heap.size, 0, none⟩ = some (.slice (some vd) nv cv) := HZB.out.bld.blk.cell (j := 0) rfl
                  have hvc : (wA.drewN m).cell? (vd.add j) = some (.int .i64 v) := (HZB.out.bld.bel.cell hv1).trans hvc0
                  have hA0 : ((wA.drewN m)).drew.cell? ⟨w1.heap.size, 0, none⟩ = some (.slice (some vd) nv cv) ∧ ((wA.drewN m)).drew.cell? (vd.add j) = some (.int .i64 v) := ⟨b0, hvc⟩
                  have hB0 : ((wA.drewN m)).drew.cell? ⟨w1.heap.size, 3, none⟩ = some (.slice EB kf eb) := f3
                  have HE2 := Lib.hid (HZB.out.quiet (below_dr _))
                  have hszE : w1.heap.size + 1 ≤ ((wA.drewN m)).drew.heap.size := HZB.out.bld.lt
                  go_wp2
                  refine wp_region_U (fun W => W.cell? ⟨w1.heap.size, 0, none⟩ = some (.slice (some vd) nv cv) ∧ W.cell? (vd.add j) = some (.int .i64 v)) (fun W => W.cell? ⟨w1.heap.size, 3, none⟩ = some (.slice EB kf eb)) 11 (by kernel_rfl) ?_
                  change anyU _ _ _ _ _ _ _ 14 _ _ _
                  clear f3 b0 hvc HZB
                  generalize hwe : ((wA.drewN m)).drew = we at hA0 hB0 HE2 hszE ⊢
                  have HWE := Lib.hid hwe; clear hwe
                  ((refine uTake (i := 0) (v := ?_) rfl (by kernel_rfl) (fun _ _ _ h => h) (by rfl) (fun W hA hB => ?_) ⟨hA0, fun _ => hB0⟩ ?_; rotate_left; (· (clear hB; (try dsimp only at hA); go_simp; try with_reducible rfl)); (try simp only [Act.put, List.setIfInBounds_toArray, List.set_cons_zero, List.set_cons_succ])))
                  ((refine uTake (i := 1) (v := ?_) rfl (by kernel_rfl) (fun _ _ _ h => h) (by rfl) (fun W hA hB => ?_) ⟨hA0, fun _ => hB0⟩ ?_; rotate_left; (· (replace hB := hB (by kernel_rfl); (try dsimp only at hA hB); go_simp; try with_reducible rfl)); (try simp only [Act.put, List.setIfInBounds_toArray, List.set_cons_zero, List.set_cons_succ])))
                  ((refine uTake (i := 2) (v := ?_) rfl (by kernel_rfl) (fun _ _ _ h => h) (by rfl) (fun W hA hB => ?_) ⟨hA0, fun _ => hB0⟩ ?_; rotate_left; (· (clear hB; (try dsimp only at hA); go_simp; try with_reducible rfl)); (try simp only [Act.put, List.setIfInBounds_toArray, List.set_cons_zero, List.set_cons_succ])); (refine uTake (i := 3) (v := ?_) rfl (by kernel_rfl) (fun _ _ _ h => h) (by rfl) (fun W hA hB => ?_) ⟨hA0, fun _ => hB0⟩ ?_; rotate_left; (· (clear hB; (try dsimp only at hA); go_simp; try with_reducible rfl)); (try simp only [Act.put, List.setIfInBounds_toArray, List.set_cons_zero, List.set_cons_succ])); (refine uTake (i := 4) (v := ?_) rfl (by kernel_rfl) (fun _ _ _ h => h) (by rfl) (fun W hA hB => ?_) ⟨hA0, fun _ => hB0⟩ ?_; rotate_left; (· (clear hB; (try dsimp only at hA); go_simp; try with_reducible rfl)); (try simp only [Act.put, List.setIfInBounds_toArray, List.set_cons_zero, List.set_cons_succ])); (refine uTake (i := 5) (v := ?_) rfl (by kernel_rfl) (fun _ _ _ h => h) (by rfl) (fun W hA hB => ?_) ⟨hA0, fun _ => hB0⟩ ?_; rotate_left; (· (clear hB; (try dsimp only at hA); go_simp; try with_reducible rfl)); (try simp only [Act.put, List.setIfInBounds_toArray, List.set_cons_zero, List.set_cons_succ])); (refine uTake (i := 6) (v := ?_) rfl (by kernel_rfl) (fun _ _ _ h => h) (by rfl) (fun W hA hB => ?_) ⟨hA0, fun _ => hB0⟩ ?_; rotate_left; (· (clear hB; (try dsimp only at hA); go_simp; try with_reducible rfl)); (try simp only [Act.put, List.setIfInBounds_toArray, List.set_cons_zero, List.set_cons_succ])); (refine uTake (i := 7) (v := ?_) rfl (by kernel_rfl) (fun _ _ _ h => h) (by rfl) (fun W hA hB => ?_) ⟨hA0, fun _ => hB0⟩ ?_; rotate_left; (· (clear hB; (try dsimp only at hA); go_simp; try with_reducible rfl)); (try simp only [Act.put, List.setIfInBounds_toArray, List.set_cons_zero, List.set_cons_succ])); (refine uTake (i := 8) (v := ?_) rfl (by kernel_rfl) (fun _ _ _ h => h) (by rfl) (fun W hA hB => ?_) ⟨hA0, fun _ => hB0⟩ ?_; rotate_left; (· (clear hB; (try dsimp only at hA); go_simp; try with_reducible rfl)); (try simp only [Act.put, List.setIfInBounds_toArray, List.set_cons_zero, List.set_cons_succ])))
                  refine uOne (i := 9) rfl (by kernel_rfl) (fun K hK => ?_)
                  go_simp
                  (refine hK _ _ ⟨hA0, fun _ => hB0⟩ ?_; clear hK K; (try simp only [Act.put, List.setIfInBounds_toArray, List.set_cons_zero, List.set_cons_succ]))
                  refine uOne (i := 10) rfl (by kernel_rfl) (fun K hK => ?_)
                  go_simp
                  have hA1 : (we.alloc (.cells #[.int .i64 (i : Int), .int .i64 v, .int .i64 (y : Int)] 43)).cell? ⟨w1.heap.size, 0, none⟩ = some (.slice (some vd) nv cv) ∧ (we.alloc (.cells #[.int .i64 (i : Int), .int .i64 v, .int .i64 (y : Int)] 43)).cell? (vd.add j) = some (.int .i64 v) := ⟨(World.cell?_alloc_lt we _ ⟨w1.heap.size, 0, none⟩ hszE).trans hA0.1, (World.cell?_alloc_lt we _ _ (Nat.lt_trans hv1 hszE)).trans hA0.2⟩
                  have hB1 : (we.alloc (.cells #[.int .i64 (i : Int), .int .i64 v, .int .i64 (y : Int)] 43)).cell? ⟨w1.heap.size, 3, none⟩ = some (.slice EB kf eb) := (World.cell?_alloc_lt we _ ⟨w1.heap.size, 3, none⟩ hszE).trans hB0
                  (refine hK _ _ ⟨hA1, fun _ => hB1⟩ ?_; clear hK K; (try simp only [Act.put, List.setIfInBounds_toArray, List.set_cons_zero, List.set_cons_succ]))
                  refine uOne (i := 11) rfl (by kernel_rfl) (fun K hK => ?_)
                  refine step_pushN we [.int .i64 (i : Int), .int .i64 v, .int .i64 (y : Int)] (by rfl) (.tmp 79) (.tmp 88) 27 (by rfl) (w1.heap.size + 1) 43 (.agg #[.int .i64 0, .int .i64 0, .int .i64 0]) 3 24 Tryd.underlying27 edge_info (by rfl) (by decide) (by rfl) (.slice EB kf eb) kf _ (by rfl) HE2.out.bld.edg (by rfl) (fun q hq => by simp at hq; rcases hq with rfl | rfl | rfl <;> rfl) (by omega) (by omega) hszE ?_
                  intro A9 c9 w9 ho9 hg9
                  have B9 := HE2.out.bld.blk.kept hg9 (own_lt_ne HE2.out.bld.edg (Nat.lt_succ_self _))
                  have e9 : w9.cell? ⟨w1.heap.size, 3, none⟩ = some (.slice EB kf eb) := B9.cell (j := 3) rfl
                  have e90 : w9.cell? ⟨w1.heap.size, 0, none⟩ = some (.slice (some vd) nv cv) := B9.cell (j := 0) rfl
                  have f9 : w9.frozen? ⟨w1.heap.size, 3, none⟩ = false := B9.free 3
                  have l9 : w1.heap.size < w9.heap.size := B9.lt
                  have HS9 := Lib.hid (HE2.out.edge (x := ⟨i, v, (y : Int)⟩) ho9 hg9)
                  have hA2 : w9.cell? ⟨w1.heap.size, 0, none⟩ = some (.slice (some vd) nv cv) ∧ w9.cell? (vd.add j) = some (.int .i64 v) := ⟨e90, (hg9.cell_far _ (Nat.lt_trans hv1 hszE) (fun e => by have := (HE2.out.bld.edg.lt _ e.symm).1; omega)).trans hA0.2⟩
                  have hA3 : (w9.setCell ⟨w1.heap.size, 3, none⟩ (.slice A9 (kf + 1) c9)).cell? ⟨w1.heap.size, 0, none⟩ = some (.slice (some vd) nv cv) ∧ (w9.setCell ⟨w1.heap.size, 3, none⟩ (.slice A9 (kf + 1) c9)).cell? (vd.add j) = some (.int .i64 v) := ⟨HS9.out.bld.blk.cell (j := 0) rfl, (HS9.out.bld.bel.cell hv1).trans hvc0⟩
                  clear B9 ho9 hg9 hA1 hB1 hA0 hB0 e90
                  (refine hK _ _ ⟨hA2, fun h => absurd (h.symm.trans (by kernel_rfl : _ = true)) Bool.false_ne_true⟩ ?_; clear hK K; (try simp only [Act.put, List.setIfInBounds_toArray, List.set_cons_zero, List.set_cons_succ]))
                  refine uOne (i := 12) rfl (by kernel_rfl) (fun K hK => ?_)
                  go_simp
                  (refine hK _ _ ⟨hA2, fun h => absurd (h.symm.trans (by kernel_rfl : _ = true)) Bool.false_ne_true⟩ ?_; clear hK K; (try simp only [Act.put, List.setIfInBounds_toArray, List.set_cons_zero, List.set_cons_succ]))
                  clear hA2
                  refine uOne (i := 13) rfl (by kernel_rfl) (fun K hK => ?_)
                  go_simp
                  (refine hK _ _ ⟨hA3, fun h => absurd (h.symm.trans (by kernel_rfl : _ = true)) Bool.false_ne_true⟩ ?_; clear hK K; (try simp only [Act.put, List.setIfInBounds_toArray, List.set_cons_zero, List.set_cons_succ]))
                  refine anyU_done (by kernel_rfl) ?_ _
                  clear hA3 e9 f9 l9
                  go_wp2
                  go_roundw
                  case rel => exact ⟨j + 1, nu, kf + 1, _, _, us, _, by go_num, rfl, by omega, hinu, hnu, by omega, HS9, HPR, HF2, Lib.hid HRZ2.out.symm⟩
                  case measure => simp [intOf]; omega
                · have hzl : z.ts.length = nu := by rw [← HZA.out.tsl, List.length_map, HZA.out.tn]
                  have hfull : z.ts.length ≠ 4096 := fun hf => by
                    have hbe := bsE_full (C := 4096) (i := i) HR.out (idx_neg.2 hmem) hf
                    rcases HFI.out.step HVM.out with ⟨s1, q1, q2, q3⟩ | ⟨q1, q2⟩
                    · rw [hbe] at q1; cases q1
                    · exact HNM2.out q2
                  have hbe : bsE 4096 (stp (xs.map AV.a)) i t2 z v = some ⟨z.ts ++ [u], z.es ++ [⟨i, v, (nu : Int)⟩]⟩ := by rw [bsE_new HR.out (idx_neg.2 hmem) hfull, hzl]
                  have hnu2 : nu + 1 ≤ 4096 := by omega
                  rw [idx_no hmem] at HFD
                  have HBE := Lib.hid hbe; clear hbe
                  clear hmem hzl hfull
                  have HF2 : Hid (FInv 4096 (stp (xs.map AV.a)) (evs (xs.map AV.a)) (ini (xs.map AV.a)) i t2 ((evs (xs.map AV.a)).take (j + 1)) ⟨z.ts ++ [u], z.es ++ [⟨i, v, (nu : Int)⟩]⟩) := by
                    rcases HFI.out.step HVM.out with ⟨s1, q1, q2, q3⟩ | ⟨q1, _⟩
                    · rw [HBE.out] at q1
                      injection q1 with q1; subst q1
                      rw [take_snoc' HVE.out]; exact Lib.hid q2
                    · rw [HBE.out] at q1; cases q1
                  have HRZ2 := Lib.hid (HRZ.out.symm.trans (by rw [bsF_go HVE.out HBE.out]) : synS (xs.map AV.a) = bsC 4096 (stp (xs.map AV.a)) (evs (xs.map AV.a)) (4096 - i) i (bsF 4096 (stp (xs.map AV.a)) i t2 ((evs (xs.map AV.a)).drop (j + 1)) ⟨z.ts ++ [u], z.es ++ [⟨i, v, (nu : Int)⟩]⟩))
                  have HPR2 := Lib.hid (HPR.out.trans (List.prefix_append z.ts [u]))
                  go_wp2_with fail
                  refine HFD.out.mono ?_
                  rintro e wB ⟨rfl, m, rfl⟩
                  have HZB := Lib.hid (HZA.out.quiet (below_drewN (Below.refl _ _) m))
                  have HOUB := Lib.hid (own_drewN HOU.out m)
                  have hszB : w1.heap.size + 1 ≤ (wA.drewN m).heap.size := HZB.out.bld.lt
                  clear HZA HFD HOU
                  go_wp2_with (at_builtin; refine wpList_pushA _ [.slice UA n uc] rfl (.tmp 74) (.tmp 76) 30 rfl (w1.heap.size + 1) 26 (.slice none 0 0) 1 24 Tryd.underlying30 ints_info rfl (by decide) rfl (.slice (some td) nu tb) nu _ rfl HZB.out.own rfl (fun q hq => by simp at hq; subst hq; rfl) (by omega) (by omega) hszB ?_; intro A8 c8 w8 ho8 hg8 hl8; have HZC := Lib.hid (HZB.out.tuple HOUB.out HUL.out HNE.out ho8 hg8))
                  clear HZB HOUB ho8 hg8 hl8
                  have f3 : w8.cell? ⟨w1.heap.size, 3, none⟩ = some (.slice EB kf eb) := HZC.out.bld.blk.cell (j := 3) rfl
                  have b0 : w8.cell? ⟨w1.heap.size, 0, none⟩ = some (.slice (some vd) nv cv) := HZC.out.bld.blk.cell (j := 0) rfl
                  have hvc : w8.cell? (vd.add j) = some (.int .i64 v) := (HZC.out.bld.bel.cell hv1).trans hvc0
                  have hA0 : (w8).drew.cell? ⟨w1.heap.size, 0, none⟩ = some (.slice (some vd) nv cv) ∧ (w8).drew.cell? (vd.add j) = some (.int .i64 v) := ⟨b0, hvc⟩
                  have hB0 : (w8).drew.cell? ⟨w1.heap.size, 3, none⟩ = some (.slice EB kf eb) := f3
                  have HE2 := Lib.hid (HZC.out.quiet (below_dr _))
                  have hszE : w1.heap.size + 1 ≤ (w8).drew.heap.size := HZC.out.bld.lt
                  go_wp2
                  refine wp_region_U (fun W => W.cell? ⟨w1.heap.size, 0, none⟩ = some (.slice (some vd) nv cv) ∧ W.cell? (vd.add j) = some (.int .i64 v)) (fun W => W.cell? ⟨w1.heap.size, 3, none⟩ = some (.slice EB kf eb)) 11 (by kernel_rfl) ?_
                  change anyU _ _ _ _ _ _ _ 14 _ _ _
                  clear f3 b0 hvc HZC
                  generalize hwe : (w8).drew = we at hA0 hB0 HE2 hszE ⊢
                  have HWE := Lib.hid hwe; clear hwe
                  ((refine uTake (i := 0) (v := ?_) rfl (by kernel_rfl) (fun _ _ _ h => h) (by rfl) (fun W hA hB => ?_) ⟨hA0, fun _ => hB0⟩ ?_; rotate_left; (· (clear hB; (try dsimp only at hA); go_simp; try with_reducible rfl)); (try simp only [Act.put, List.setIfInBounds_toArray, List.set_cons_zero, List.set_cons_succ])))
                  ((refine uTake (i := 1) (v := ?_) rfl (by kernel_rfl) (fun _ _ _ h => h) (by rfl) (fun W hA hB => ?_) ⟨hA0, fun _ => hB0⟩ ?_; rotate_left; (· (replace hB := hB (by kernel_rfl); (try dsimp only at hA hB); go_simp; try with_reducible rfl)); (try simp only [Act.put, List.setIfInBounds_toArray, List.set_cons_zero, List.set_cons_succ])))
                  ((refine uTake (i := 2) (v := ?_) rfl (by kernel_rfl) (fun _ _ _ h => h) (by rfl) (fun W hA hB => ?_) ⟨hA0, fun _ => hB0⟩ ?_; rotate_left; (· (clear hB; (try dsimp only at hA); go_simp; try with_reducible rfl)); (try simp only [Act.put, List.setIfInBounds_toArray, List.set_cons_zero, List.set_cons_succ])); (refine uTake (i := 3) (v := ?_) rfl (by kernel_rfl) (fun _ _ _ h => h) (by rfl) (fun W hA hB => ?_) ⟨hA0, fun _ => hB0⟩ ?_; rotate_left; (· (clear hB; (try dsimp only at hA); go_simp; try with_reducible rfl)); (try simp only [Act.put, List.setIfInBounds_toArray, List.set_cons_zero, List.set_cons_succ])); (refine uTake (i := 4) (v := ?_) rfl (by kernel_rfl) (fun _ _ _ h => h) (by rfl) (fun W hA hB => ?_) ⟨hA0, fun _ => hB0⟩ ?_; rotate_left; (· (clear hB; (try dsimp only at hA); go_simp; try with_reducible rfl)); (try simp only [Act.put, List.setIfInBounds_toArray, List.set_cons_zero, List.set_cons_succ])); (refine uTake (i := 5) (v := ?_) rfl (by kernel_rfl) (fun _ _ _ h => h) (by rfl) (fun W hA hB => ?_) ⟨hA0, fun _ => hB0⟩ ?_; rotate_left; (· (clear hB; (try dsimp only at hA); go_simp; try with_reducible rfl)); (try simp only [Act.put, List.setIfInBounds_toArray, List.set_cons_zero, List.set_cons_succ])); (refine uTake (i := 6) (v := ?_) rfl (by kernel_rfl) (fun _ _ _ h => h) (by rfl) (fun W hA hB => ?_) ⟨hA0, fun _ => hB0⟩ ?_; rotate_left; (· (clear hB; (try dsimp only at hA); go_simp; try with_reducible rfl)); (try simp only [Act.put, List.setIfInBounds_toArray, List.set_cons_zero, List.set_cons_succ])); (refine uTake (i := 7) (v := ?_) rfl (by kernel_rfl) (fun _ _ _ h => h) (by rfl) (fun W hA hB => ?_) ⟨hA0, fun _ => hB0⟩ ?_; rotate_left; (· (clear hB; (try dsimp only at hA); go_simp; try with_reducible rfl)); (try simp only [Act.put, List.setIfInBounds_toArray, List.set_cons_zero, List.set_cons_succ])); (refine uTake (i := 8) (v := ?_) rfl (by kernel_rfl) (fun _ _ _ h => h) (by rfl) (fun W hA hB => ?_) ⟨hA0, fun _ => hB0⟩ ?_; rotate_left; (· (clear hB; (try dsimp only at hA); go_simp; try with_reducible rfl)); (try simp only [Act.put, List.setIfInBounds_toArray, List.set_cons_zero, List.set_cons_succ])))
                  refine uOne (i := 9) rfl (by kernel_rfl) (fun K hK => ?_)
                  go_simp
                  (refine hK _ _ ⟨hA0, fun _ => hB0⟩ ?_; clear hK K; (try simp only [Act.put, List.setIfInBounds_toArray, List.set_cons_zero, List.set_cons_succ]))
                  refine uOne (i := 10) rfl (by kernel_rfl) (fun K hK => ?_)
                  go_simp
                  have hA1 : (we.alloc (.cells #[.int .i64 (i : Int), .int .i64 v, .int .i64 (nu : Int)] 43)).cell? ⟨w1.heap.size, 0, none⟩ = some (.slice (some vd) nv cv) ∧ (we.alloc (.cells #[.int .i64 (i : Int), .int .i64 v, .int .i64 (nu : Int)] 43)).cell? (vd.add j) = some (.int .i64 v) := ⟨(World.cell?_alloc_lt we _ ⟨w1.heap.size, 0, none⟩ hszE).trans hA0.1, (World.cell?_alloc_lt we _ _ (Nat.lt_trans hv1 hszE)).trans hA0.2⟩
                  have hB1 : (we.alloc (.cells #[.int .i64 (i : Int), .int .i64 v, .int .i64 (nu : Int)] 43)).cell? ⟨w1.heap.size, 3, none⟩ = some (.slice EB kf eb) := (World.cell?_alloc_lt we _ ⟨w1.heap.size, 3, none⟩ hszE).trans hB0
                  (refine hK _ _ ⟨hA1, fun _ => hB1⟩ ?_; clear hK K; (try simp only [Act.put, List.setIfInBounds_toArray, List.set_cons_zero, List.set_cons_succ]))
                  refine uOne (i := 11) rfl (by kernel_rfl) (fun K hK => ?_)
                  refine step_pushN we [.int .i64 (i : Int), .int .i64 v, .int .i64 (nu : Int)] (by rfl) (.tmp 79) (.tmp 88) 27 (by rfl) (w1.heap.size + 1) 43 (.agg #[.int .i64 0, .int .i64 0, .int .i64 0]) 3 24 Tryd.underlying27 edge_info (by rfl) (by decide) (by rfl) (.slice EB kf eb) kf _ (by rfl) HE2.out.bld.edg (by rfl) (fun q hq => by simp at hq; rcases hq with rfl | rfl | rfl <;> rfl) (by omega) (by omega) hszE ?_
                  intro A9 c9 w9 ho9 hg9
                  have B9 := HE2.out.bld.blk.kept hg9 (own_lt_ne HE2.out.bld.edg (Nat.lt_succ_self _))
                  have e9 : w9.cell? ⟨w1.heap.size, 3, none⟩ = some (.slice EB kf eb) := B9.cell (j := 3) rfl
                  have e90 : w9.cell? ⟨w1.heap.size, 0, none⟩ = some (.slice (some vd) nv cv) := B9.cell (j := 0) rfl
                  have f9 : w9.frozen? ⟨w1.heap.size, 3, none⟩ = false := B9.free 3
                  have l9 : w1.heap.size < w9.heap.size := B9.lt
                  have HS9 := Lib.hid (HE2.out.edge (x := ⟨i, v, (nu : Int)⟩) ho9 hg9)
                  have hA2 : w9.cell? ⟨w1.heap.size, 0, none⟩ = some (.slice (some vd) nv cv) ∧ w9.cell? (vd.add j) = some (.int .i64 v) := ⟨e90, (hg9.cell_far _ (Nat.lt_trans hv1 hszE) (fun e => by have := (HE2.out.bld.edg.lt _ e.symm).1; omega)).trans hA0.2⟩
                  have hA3 : (w9.setCell ⟨w1.heap.size, 3, none⟩ (.slice A9 (kf + 1) c9)).cell? ⟨w1.heap.size, 0, none⟩ = some (.slice (some vd) nv cv) ∧ (w9.setCell ⟨w1.heap.size, 3, none⟩ (.slice A9 (kf + 1) c9)).cell? (vd.add j) = some (.int .i64 v) := ⟨HS9.out.bld.blk.cell (j := 0) rfl, (HS9.out.bld.bel.cell hv1).trans hvc0⟩
                  clear B9 ho9 hg9 hA1 hB1 hA0 hB0 e90
                  (refine hK _ _ ⟨hA2, fun h => absurd (h.symm.trans (by kernel_rfl : _ = true)) Bool.false_ne_true⟩ ?_; clear hK K; (try simp only [Act.put, List.setIfInBounds_toArray, List.set_cons_zero, List.set_cons_succ]))
                  refine uOne (i := 12) rfl (by kernel_rfl) (fun K hK => ?_)
                  go_simp
                  (refine hK _ _ ⟨hA2, fun h => absurd (h.symm.trans (by kernel_rfl : _ = true)) Bool.false_ne_true⟩ ?_; clear hK K; (try simp only [Act.put, List.setIfInBounds_toArray, List.set_cons_zero, List.set_cons_succ]))
                  clear hA2
                  refine uOne (i := 13) rfl (by kernel_rfl) (fun K hK => ?_)
                  go_simp
                  (refine hK _ _ ⟨hA3, fun h => absurd (h.symm.trans (by kernel_rfl : _ = true)) Bool.false_ne_true⟩ ?_; clear hK K; (try simp only [Act.put, List.setIfInBounds_toArray, List.set_cons_zero, List.set_cons_succ]))
                  refine anyU_done (by kernel_rfl) ?_ _
                  clear hA3 e9 f9 l9
                  go_wp2
                  go_roundw
                  case rel => exact ⟨j + 1, nu + 1, kf + 1, _, _, _, _, by go_num, rfl, by omega, by omega, hnu2, by omega, HS9, HPR2, HF2, Lib.hid HRZ2.out.symm⟩
                  case measure => simp [intOf]; omega
            · obtain rfl : j = nv := by omega
              have hFI := HFI.out
              rw [List.take_of_length_le (by rw [HLV.out]; exact Nat.le_refl _)] at hFI
              have HB2 := Lib.hid hFI.leave
              have hRZ := HRZ.out
              rw [List.drop_of_length_le (by rw [HLV.out]; exact Nat.le_refl _)] at hRZ
              have HRS3 := Lib.hid (show bsR 4096 (stp (xs.map AV.a)) (evs (xs.map AV.a)) (4097 - (i + 1)) (i + 1) z = synS (xs.map AV.a) by rw [show 4097 - (i + 1) = 4096 - i by omega]; exact hRZ)
              have HMK3 := Lib.hid (show (mk ++ [(i : Int)]) = mksN (mkT (xs.map AV.a)) z.ts (i + 1) by rw [mksN_pre HPR.out (by have := (List.getElem?_eq_some_iff.1 HXT.out).1; omega)]; exact HMK2.out)
              clear hFI hRZ hBw hsz hLr
              go_wp2
              go_roundw
              case rel => exact ⟨i + 1, nu, km + 1, kf, _, _, _, us, z, _, by go_num, rfl, by omega, hnu, by omega, by omega, HZ, HMK3, HB2, HRS3⟩
              case measure => simp [intOf]; omega
        | false =>
          have HMK2 := Lib.hid (show mk = mksN (mkT (xs.map AV.a)) s.ts (i + 1) by rw [mksN_no HXT.out HQ.out, HMK.out])
          go_wp2
          have HRS2 := Lib.hid (show bsC 4096 (stp (xs.map AV.a)) (evs (xs.map AV.a)) (4096 - i) i (bsF 4096 (stp (xs.map AV.a)) i t ((evs (xs.map AV.a)).drop 0) s) = synS (xs.map AV.a) by
            have := HRS.out
            rw [show 4097 - i = 4096 - i + 1 by omega] at this
            rw [← this, bsR_bsC HXT.out])
          have HFI := Lib.hid (show FInv 4096 (stp (xs.map AV.a)) (evs (xs.map AV.a)) (ini (xs.map AV.a)) i t ((evs (xs.map AV.a)).take 0) s from HBI.out.enter HXT.out)
          have HPR := Lib.hid (List.prefix_refl s.ts)
          go_loopw [7, 9] (fun s7 s9 wr => ∃ (j nu kf : Nat) (tv ev : Value) (us : List SlV) (z : Bs (List Int)), s9 = .int .i64 j ∧ s7 = tv ∧ j ≤ nv ∧ i < nu ∧ nu ≤ 4096 ∧ kf ≤ i * 32 + j ∧ Hid (RSy w1 wr n (.slice V nv cv) (.slice MA km mc) ev tv (km) kf nu us z mk) ∧ Hid (s.ts <+: z.ts) ∧
            Hid (FInv 4096 (stp (xs.map AV.a)) (evs (xs.map AV.a)) (ini (xs.map AV.a)) i t ((evs (xs.map AV.a)).take j) z) ∧ Hid (bsC 4096 (stp (xs.map AV.a)) (evs (xs.map AV.a)) (4096 - i) i (bsF 4096 (stp (xs.map AV.a)) i t ((evs (xs.map AV.a)).drop j) z) = synS (xs.map AV.a))) (fun _ s9 _ => nv - (intOf s9).toNat)
          case atStart => exact ⟨0, nt, ke, _, _, ts, s, rfl, rfl, Nat.zero_le _, hlt, hnt, by omega, HS7, HPR, HFI, HRS2⟩
          case round =>
            clear HRS2 HFI HPR HS7
            obtain ⟨j, nu, kf, tv, ev, us, z, rfl, rfl, hjv, hinu, hnu, hkf, HZ, HPR, HFI, HRZ⟩ := hrel
            obtain ⟨TB, tb, rfl⟩ := own_shape HZ.out.own
            obtain ⟨EB, eb, rfl⟩ := own_shape HZ.out.bld.edg
            have hBw := HB0.out.trans (HZ.out.bld.bel.mono HB0.out.size)
            have hsz := hBw.size
            have hLr := (HH.out.below hBw).more hsz
            have b0 : wr.cell? ⟨w1.heap.size, 0, none⟩ = some (.slice V nv cv) := HZ.out.bld.blk.cell (j := 0) rfl
            have hsz3 : w1.heap.size < wr.heap.size := HZ.out.bld.lt
            by_cases hjl : j < nv
            · obtain ⟨vd, v, hVe, hvb, hve, hvc0⟩ := (RdI.of_own HOV.out).at_ (k := j) (by have := HLV.out; omega)
              have hvc : wr.cell? (vd.add j) = some (.int .i64 v) := (HZ.out.bld.bel.cell (p := vd.add j) (by rw [block_of_add]; exact hvb)).trans hvc0
              subst hVe
              obtain ⟨hrd, hcap1, hcap2⟩ := HZ.out.rds
              obtain ⟨td, x, hTe, htb, hx, htc, hxr, hxc1, hxc2⟩ := hrd.at_ (k := i) (by rw [HZ.out.tn]; exact hinu)
              subst hTe
              have hxt2 : x.l = t := by
                have h1 := HFI.out.at_
                rw [← HZ.out.tsl, List.getElem?_map, hx] at h1
                simpa using h1
              obtain ⟨XB, xb, t2⟩ := x
              have hxt3 : t2 = t := hxt2
              subst hxt3
              have hxl : t2.length = n := (HZ.out.tup _ (List.mem_of_getElem? hx)).2.1
              simp only at htc hxr hxc1 hxc2
              rw [hxl] at htc hxc1
              have bj : (j : Int) < (nv : Int) := by omega
              have bi : (i : Int) < (nu : Int) := by omega
              have hvm := List.mem_of_getElem? hve
              obtain ⟨r, hr⟩ : ∃ r, stp (xs.map AV.a) t2 v = r := ⟨_, rfl⟩
              have hA0 : wr.drew.cell? (td.add i) = some (.slice XB n xb) ∧ wr.drew.cell? ⟨w1.heap.size, 0, none⟩ = some (.slice (some vd) nv cv) ∧ wr.drew.cell? (vd.add j) = some (.int .i64 v) := ⟨htc, b0, hvc⟩
              have hB0 : True := trivial
              have HZd := Lib.hid (HZ.out.quiet (below_dr wr))
              have HSTEP := Lib.hid (ref_Step6 L c n xs XB xb t2 v wr.drew HL.out hLr.dr (by omega) hxl (by exact hxr) hxc1 hxc2)
              rw [hr] at HSTEP
              have htdb : (td.add i).block < wr.drew.heap.size := by rw [block_of_add]; exact htb
              have hv1 : (vd.add j).block < w1.heap.size := by rw [block_of_add]; exact hvb
              have hszd : w1.heap.size < wr.drew.heap.size := hsz3
              have HVE := Lib.hid hve; clear hve
              have HVM := Lib.hid hvm; clear hvm
              have HR := Lib.hid hr; clear hr
              have HX := Lib.hid hx; clear hx
              have HXL := Lib.hid hxl; clear hxl
              go_wp2
              refine wp_region_U (fun W => W.cell? (td.add i) = some (.slice XB n xb) ∧ W.cell? ⟨w1.heap.size, 0, none⟩ = some (.slice (some vd) nv cv) ∧ W.cell? (vd.add j) = some (.int .i64 v)) (fun _ => True) 15 (by kernel_rfl) ?_
              change anyU _ _ _ _ _ _ _ 16 _ _ _
              clear htc hvc b0 hrd hxr hLr hBw hsz HZ hsz3 htb hvb hxt2
              generalize hwd : wr.drew = wd at hA0 HZd HSTEP htdb hszd ⊢
              have HWD := Lib.hid hwd; clear hwd
              ((refine uTake (i := 0) (v := ?_) rfl (by kernel_rfl) (fun _ _ _ h => h) (by rfl) (fun W hA hB => ?_) ⟨hA0, fun _ => hB0⟩ ?_; rotate_left; (· (clear hB; (try dsimp only at hA); go_simp; try with_reducible rfl)); (try simp only [Act.put, List.setIfInBounds_toArray, List.set_cons_zero, List.set_cons_succ])); (refine uTake (i := 1) (v := ?_) rfl (by kernel_rfl) (fun _ _ _ h => h) (by rfl) (fun W hA hB => ?_) ⟨hA0, fun _ => hB0⟩ ?_; rotate_left; (· (clear hB; (try dsimp only at hA); go_simp; try with_reducible rfl)); (try simp only [Act.put, List.setIfInBounds_toArray, List.set_cons_zero, List.set_cons_succ])); (refine uTake (i := 2) (v := ?_) rfl (by kernel_rfl) (fun _ _ _ h => h) (by rfl) (fun W hA hB => ?_) ⟨hA0, fun _ => hB0⟩ ?_; rotate_left; (· (clear hB; (try dsimp only at hA); go_simp; try with_reducible rfl)); (try simp only [Act.put, List.setIfInBounds_toArray, List.set_cons_zero, List.set_cons_succ])); (refine uTake (i := 3) (v := ?_) rfl (by kernel_rfl) (fun _ _ _ h => h) (by rfl) (fun W hA hB => ?_) ⟨hA0, fun _ => hB0⟩ ?_; rotate_left; (· (clear hB; (try dsimp only at hA); go_simp; try with_reducible rfl)); (try simp only [Act.put, List.setIfInBounds_toArray, List.set_cons_zero, List.set_cons_succ])); (refine uTake (i := 4) (v := ?_) rfl (by kernel_rfl) (fun _ _ _ h => h) (by rfl) (fun W hA hB => ?_) ⟨hA0, fun _ => hB0⟩ ?_; rotate_left; (· (clear hB; (try dsimp only at hA); go_simp; try with_reducible rfl)); (try simp only [Act.put, List.setIfInBounds_toArray, List.set_cons_zero, List.set_cons_succ])); (refine uTake (i := 5) (v := ?_) rfl (by kernel_rfl) (fun _ _ _ h => h) (by rfl) (fun W hA hB => ?_) ⟨hA0, fun _ => hB0⟩ ?_; rotate_left; (· (clear hB; (try dsimp only at hA); go_simp; try with_reducible rfl)); (try simp only [Act.put, List.setIfInBounds_toArray, List.set_cons_zero, List.set_cons_succ])); (refine uTake (i := 6) (v := ?_) rfl (by kernel_rfl) (fun _ _ _ h => h) (by rfl) (fun W hA hB => ?_) ⟨hA0, fun _ => hB0⟩ ?_; rotate_left; (· (clear hB; (try dsimp only at hA); go_simp; try with_reducible rfl)); (try simp only [Act.put, List.setIfInBounds_toArray, List.set_cons_zero, List.set_cons_succ])); (refine uTake (i := 7) (v := ?_) rfl (by kernel_rfl) (fun _ _ _ h => h) (by rfl) (fun W hA hB => ?_) ⟨hA0, fun _ => hB0⟩ ?_; rotate_left; (· (clear hB; (try dsimp only at hA); go_simp; try with_reducible rfl)); (try simp only [Act.put, List.setIfInBounds_toArray, List.set_cons_zero, List.set_cons_succ])); (refine uTake (i := 8) (v := ?_) rfl (by kernel_rfl) (fun _ _ _ h => h) (by rfl) (fun W hA hB => ?_) ⟨hA0, fun _ => hB0⟩ ?_; rotate_left; (· (clear hB; (try dsimp only at hA); go_simp; try with_reducible rfl)); (try simp only [Act.put, List.setIfInBounds_toArray, List.set_cons_zero, List.set_cons_succ])); (refine uTake (i := 9) (v := ?_) rfl (by kernel_rfl) (fun _ _ _ h => h) (by rfl) (fun W hA hB => ?_) ⟨hA0, fun _ => hB0⟩ ?_; rotate_left; (· (clear hB; (try dsimp only at hA); go_simp; try with_reducible rfl)); (try simp only [Act.put, List.setIfInBounds_toArray, List.set_cons_zero, List.set_cons_succ])))
              refine uOne (i := 10) rfl (by kernel_rfl) (fun K hK => ?_)
              go_simp
              go_at_call 27
              refine HSTEP.out.mono ?_
              rintro e wA ⟨vA, rfl, hoA, hbA⟩
              have hA1 : wA.cell? (td.add i) = some (.slice XB n xb) ∧ wA.cell? ⟨w1.heap.size, 0, none⟩ = some (.slice (some vd) nv cv) ∧ wA.cell? (vd.add j) = some (.int .i64 v) := ⟨(hbA.cell htdb).trans hA0.1, (hbA.cell (p := ⟨w1.heap.size, 0, none⟩) hszd).trans hA0.2.1, (hbA.cell (Nat.lt_trans hv1 hszd)).trans hA0.2.2⟩
              have HZA := Lib.hid (HZd.out.quiet hbA)
              have HOF := Lib.hid hoA
              have hne := fresh_ne hoA (Nat.le_refl _) HZd.out.bld.mrk
              have HOA := Lib.hid (own_base (base := w1.heap.size + 1) hoA (by omega))
              have hszA : w1.heap.size + 1 ≤ wA.heap.size := by have := hbA.size; omega
              clear hoA HSTEP HZd hA0 htdb
              have HNE := Lib.hid hne; clear hne
              (refine hK _ _ ⟨hA1, fun _ => hB0⟩ ?_; clear hK K; (try simp only [Act.put, List.setIfInBounds_toArray, List.set_cons_zero, List.set_cons_succ]))
              replace hA0 := hA1
              clear hA1
              ((refine uTake (i := 11) (v := ?_) rfl (by kernel_rfl) (fun _ _ _ h => h) (by rfl) (fun W hA hB => ?_) ⟨hA0, fun _ => hB0⟩ ?_; rotate_left; (· (clear hB; (try dsimp only at hA); go_simp; try with_reducible rfl)); (try simp only [Act.put, List.setIfInBounds_toArray, List.set_cons_zero, List.set_cons_succ])); (refine uTake (i := 12) (v := ?_) rfl (by kernel_rfl) (fun _ _ _ h => h) (by rfl) (fun W hA hB => ?_) ⟨hA0, fun _ => hB0⟩ ?_; rotate_left; (· (clear hB; (try dsimp only at hA); go_simp; try with_reducible rfl)); (try simp only [Act.put, List.setIfInBounds_toArray, List.set_cons_zero, List.set_cons_succ])); (refine uTake (i := 13) (v := ?_) rfl (by kernel_rfl) (fun _ _ _ h => h) (by rfl) (fun W hA hB => ?_) ⟨hA0, fun _ => hB0⟩ ?_; rotate_left; (· (clear hB; (try dsimp only at hA); go_simp; try with_reducible rfl)); (try simp only [Act.put, List.setIfInBounds_toArray, List.set_cons_zero, List.set_cons_succ])); (refine uTake (i := 14) (v := ?_) rfl (by kernel_rfl) (fun _ _ _ h => h) (by rfl) (fun W hA hB => ?_) ⟨hA0, fun _ => hB0⟩ ?_; rotate_left; (· (clear hB; (try dsimp only at hA); go_simp; try with_reducible rfl)); (try simp only [Act.put, List.setIfInBounds_toArray, List.set_cons_zero, List.set_cons_succ])))
              refine uOne (i := 15) rfl (by kernel_rfl) (fun K hK => ?_)
              go_simp
              (refine hK _ _ ⟨hA0, fun _ => hB0⟩ ?_; clear hK K; (try simp only [Act.put, List.setIfInBounds_toArray, List.set_cons_zero, List.set_cons_succ]))
              refine anyU_done (by kernel_rfl) ?_ _
              clear hA0
              cases r with
              | none =>
                have HF2 : Hid (FInv 4096 (stp (xs.map AV.a)) (evs (xs.map AV.a)) (ini (xs.map AV.a)) i t2 ((evs (xs.map AV.a)).take (j + 1)) z) := by
                  rcases HFI.out.step HVM.out with ⟨s1, q1, q2, q3⟩ | ⟨q1, _⟩
                  · rw [bsE_none HR.out] at q1
                    injection q1 with q1; subst q1
                    rw [take_snoc' HVE.out]; exact Lib.hid q2
                  · rw [bsE_none HR.out] at q1; cases q1
                have HRZ2 := Lib.hid (HRZ.out.symm.trans (by rw [bsF_go HVE.out (bsE_none HR.out)]) : synS (xs.map AV.a) = bsC 4096 (stp (xs.map AV.a)) (evs (xs.map AV.a)) (4096 - i) i (bsF 4096 (stp (xs.map AV.a)) i t2 ((evs (xs.map AV.a)).drop (j + 1)) z))
                go_wp2
                go_roundw
                case rel => exact ⟨j + 1, nu, kf, _, _, us, z, by go_num, rfl, by omega, hinu, hnu, by omega, HZA, HPR, HF2, Lib.hid HRZ2.out.symm⟩
                case measure => simp [intOf]; omega
              | some u =>
                have hTu := stp_tup HW.out HTT.out HR.out
                have hul : u.length = n := by rw [hTu.len, List.length_map, HL.out]
                have hoU : wA.ownsRow (w1.heap.size + 1) 3 1 vA n (iv u) := by
                  have := HOA.out
                  rw [show ((some u).getD [] : List Int) = u from rfl, hul] at this; exact this
                obtain ⟨UA, uc, rfl⟩ := own_shape hoU
                obtain ⟨hrdA, hcA1, hcA2⟩ := HZA.out.rds
                have HFD := Lib.hid (ref_Find6 (some td) UA tb nu uc n us u wA HZA.out.tn hrdA hcA1 hcA2 hul (RdI.of_own hoU))
                rw [HZA.out.tsl] at HFD
                have HUL := Lib.hid hul; clear hul
                have HOU := Lib.hid hoU; clear hoU
                have HTU := Lib.hid hTu; clear hTu
                clear hrdA HOA HOF
                by_cases hmem : u ∈ z.ts
                · obtain ⟨y, hy1, hy2⟩ := idx_yes hmem
                  have hbe : bsE 4096 (stp (xs.map AV.a)) i t2 z v = some ⟨z.ts, z.es ++ [⟨i, v, y⟩]⟩ := by rw [bsE_old HR.out (by rw [hy1]; omega), hy1]
                  rw [hy1] at HFD
                  have HBE := Lib.hid hbe; clear hbe
                  clear hy1 hy2 hmem
                  have HF2 : Hid (FInv 4096 (stp (xs.map AV.a)) (evs (xs.map AV.a)) (ini (xs.map AV.a)) i t2 ((evs (xs.map AV.a)).take (j + 1)) ⟨z.ts, z.es ++ [⟨i, v, y⟩]⟩) := by
                    rcases HFI.out.step HVM.out with ⟨s1, q1, q2, q3⟩ | ⟨q1, _⟩
                    · rw [HBE.out] at q1
                      injection q1 with q1; subst q1
                      rw [take_snoc' HVE.out]; exact Lib.hid q2
                    · rw [HBE.out] at q1; cases q1
                  have HRZ2 := Lib.hid (HRZ.out.symm.trans (by rw [bsF_go HVE.out HBE.out]) : synS (xs.map AV.a) = bsC 4096 (stp (xs.map AV.a)) (evs (xs.map AV.a)) (4096 - i) i (bsF 4096 (stp (xs.map AV.a)) i t2 ((evs (xs.map AV.a)).drop (j + 1)) ⟨z.ts, z.es ++ [⟨i, v, y⟩]⟩))
                  have e1 : decide ((y : Int) < 0) = false := decide_eq_false (by omega)
                  go_wp2_with fail
                  refine HFD.out.mono ?_
                  rintro e wB ⟨rfl, m, rfl⟩
                  have HZB := Lib.hid (HZA.out.quiet (below_drewN (Below.refl _ _) m))
                  clear HZA HFD HOU
                  have f3 : (wA.drewN m).cell? ⟨w1.heap.size, 3, none⟩ = some (.slice EB kf eb) := HZB.out.bld.blk.cell (j := 3) rfl
                  have b0 : (wA.drewN m).cell? ⟨w1.heap.size, 0, none⟩ = some (.slice (some vd) nv cv) := HZB.out.bld.blk.cell (j := 0) rfl
                  have hvc : (wA.drewN m).cell? (vd.add j) = some (.int .i64 v) := (HZB.out.bld.bel.cell hv1).trans hvc0
                  have hA0 : ((wA.drewN m)).drew.cell? ⟨w1.heap.size, 0, none⟩ = some (.slice (some vd) nv cv) ∧ ((wA.drewN m)).drew.cell? (vd.add j) = some (.int .i64 v) := ⟨b0, hvc⟩
                  have hB0 : ((wA.drewN m)).drew.cell? ⟨w1.heap.size, 3, none⟩ = some (.slice EB kf eb) := f3
                  have HE2 := Lib.hid (HZB.out.quiet (below_dr _))
                  have hszE : w1.heap.size + 1 ≤ ((wA.drewN m)).drew.heap.size := HZB.out.bld.lt
                  go_wp2
                  refine wp_region_U (fun W => W.cell? ⟨w1.heap.size, 0, none⟩ = some (.slice (some vd) nv cv) ∧ W.cell? (vd.add j) = some (.int .i64 v)) (fun W => W.cell? ⟨w1.heap.size, 3, none⟩ = some (.slice EB kf eb)) 11 (by kernel_rfl) ?_
                  change anyU _ _ _ _ _ _ _ 14 _ _ _
                  clear f3 b0 hvc HZB
                  generalize hwe : ((wA.drewN m)).drew = we at hA0 hB0 HE2 hszE ⊢
                  have HWE := Lib.hid hwe; clear hwe
                  ((refine uTake (i := 0) (v := ?_) rfl (by kernel_rfl) (fun _ _ _ h => h) (by rfl) (fun W hA hB => ?_) ⟨hA0, fun _ => hB0⟩ ?_; rotate_left; (· (clear hB; (try dsimp only at hA); go_simp; try with_reducible rfl)); (try simp only [Act.put, List.setIfInBounds_toArray, List.set_cons_zero, List.set_cons_succ])))
                  ((refine uTake (i := 1) (v := ?_) rfl (by kernel_rfl) (fun _ _ _ h => h) (by rfl) (fun W hA hB => ?_) ⟨hA0, fun _ => hB0⟩ ?_; rotate_left; (· (replace hB := hB (by kernel_rfl); (try dsimp only at hA hB); go_simp; try with_reducible rfl)); (try simp only [Act.put, List.setIfInBounds_toArray, List.set_cons_zero, List.set_cons_succ])))
                  ((refine uTake (i := 2) (v := ?_) rfl (by kernel_rfl) (fun _ _ _ h => h) (by rfl) (fun W hA hB => ?_) ⟨hA0, fun _ => hB0⟩ ?_; rotate_left; (· (clear hB; (try dsimp only at hA); go_simp; try with_reducible rfl)); (try simp only [Act.put, List.setIfInBounds_toArray, List.set_cons_zero, List.set_cons_succ])); (refine uTake (i := 3) (v := ?_) rfl (by kernel_rfl) (fun _ _ _ h => h) (by rfl) (fun W hA hB => ?_) ⟨hA0, fun _ => hB0⟩ ?_; rotate_left; (· (clear hB; (try dsimp only at hA); go_simp; try with_reducible rfl)); (try simp only [Act.put, List.setIfInBounds_toArray, List.set_cons_zero, List.set_cons_succ])); (refine uTake (i := 4) (v := ?_) rfl (by kernel_rfl) (fun _ _ _ h => h) (by rfl) (fun W hA hB => ?_) ⟨hA0, fun _ => hB0⟩ ?_; rotate_left; (· (clear hB; (try dsimp only at hA); go_simp; try with_reducible rfl)); (try simp only [Act.put, List.setIfInBounds_toArray, List.set_cons_zero, List.set_cons_succ])); (refine uTake (i := 5) (v := ?_) rfl (by kernel_rfl) (fun _ _ _ h => h) (by rfl) (fun W hA hB => ?_) ⟨hA0, fun _ => hB0⟩ ?_; rotate_left; (· (clear hB; (try dsimp only at hA); go_simp; try with_reducible rfl)); (try simp only [Act.put, List.setIfInBounds_toArray, List.set_cons_zero, List.set_cons_succ])); (refine uTake (i := 6) (v := ?_) rfl (by kernel_rfl) (fun _ _ _ h => h) (by rfl) (fun W hA hB => ?_) ⟨hA0, fun _ => hB0⟩ ?_; rotate_left; (· (clear hB; (try dsimp only at hA); go_simp; try with_reducible rfl)); (try simp only [Act.put, List.setIfInBounds_toArray, List.set_cons_zero, List.set_cons_succ])); (refine uTake (i := 7) (v := ?_) rfl (by kernel_rfl) (fun _ _ _ h => h) (by rfl) (fun W hA hB => ?_) ⟨hA0, fun _ => hB0⟩ ?_; rotate_left; (· (clear hB; (try dsimp only at hA); go_simp; try with_reducible rfl)); (try simp only [Act.put, List.setIfInBounds_toArray, List.set_cons_zero, List.set_cons_succ])); (refine uTake (i := 8) (v := ?_) rfl (by kernel_rfl) (fun _ _ _ h => h) (by rfl) (fun W hA hB => ?_) ⟨hA0, fun _ => hB0⟩ ?_; rotate_left; (· (clear hB; (try dsimp only at hA); go_simp; try with_reducible rfl)); (try simp only [Act.put, List.setIfInBounds_toArray, List.set_cons_zero, List.set_cons_succ])))
                  refine uOne (i := 9) rfl (by kernel_rfl) (fun K hK => ?_)
                  go_simp
                  (refine hK _ _ ⟨hA0, fun _ => hB0⟩ ?_; clear hK K; (try simp only [Act.put, List.setIfInBounds_toArray, List.set_cons_zero, List.set_cons_succ]))
                  refine uOne (i := 10) rfl (by kernel_rfl) (fun K hK => ?_)
                  go_simp
                  have hA1 : (we.alloc (.cells #[.int .i64 (i : Int), .int .i64 v, .int .i64 (y : Int)] 43)).cell? ⟨w1.heap.size, 0, none⟩ = some (.slice (some vd) nv cv) ∧ (we.alloc (.cells #[.int .i64 (i : Int), .int .i64 v, .int .i64 (y : Int)] 43)).cell? (vd.add j) = some (.int .i64 v) := ⟨(World.cell?_alloc_lt we _ ⟨w1.heap.size, 0, none⟩ hszE).trans hA0.1, (World.cell?_alloc_lt we _ _ (Nat.lt_trans hv1 hszE)).trans hA0.2⟩
                  have hB1 : (we.alloc (.cells #[.int .i64 (i : Int), .int .i64 v, .int .i64 (y : Int)] 43)).cell? ⟨w1.heap.size, 3, none⟩ = some (.slice EB kf eb) := (World.cell?_alloc_lt we _ ⟨w1.heap.size, 3, none⟩ hszE).trans hB0
                  (refine hK _ _ ⟨hA1, fun _ => hB1⟩ ?_; clear hK K; (try simp only [Act.put, List.setIfInBounds_toArray, List.set_cons_zero, List.set_cons_succ]))
                  refine uOne (i := 11) rfl (by kernel_rfl) (fun K hK => ?_)
                  refine step_pushN we [.int .i64 (i : Int), .int .i64 v, .int .i64 (y : Int)] (by rfl) (.tmp 79) (.tmp 88) 27 (by rfl) (w1.heap.size + 1) 43 (.agg #[.int .i64 0, .int .i64 0, .int .i64 0]) 3 24 Tryd.underlying27 edge_info (by rfl) (by decide) (by rfl) (.slice EB kf eb) kf _ (by rfl) HE2.out.bld.edg (by rfl) (fun q hq => by simp at hq; rcases hq with rfl | rfl | rfl <;> rfl) (by omega) (by omega) hszE ?_
                  intro A9 c9 w9 ho9 hg9
                  have B9 := HE2.out.bld.blk.kept hg9 (own_lt_ne HE2.out.bld.edg (Nat.lt_succ_self _))
                  have e9 : w9.cell? ⟨w1.heap.size, 3, none⟩ = some (.slice EB kf eb) := B9.cell (j := 3) rfl
                  have e90 : w9.cell? ⟨w1.heap.size, 0, none⟩ = some (.slice (some vd) nv cv) := B9.cell (j := 0) rfl
                  have f9 : w9.frozen? ⟨w1.heap.size, 3, none⟩ = false := B9.free 3
                  have l9 : w1.heap.size < w9.heap.size := B9.lt
                  have HS9 := Lib.hid (HE2.out.edge (x := ⟨i, v, (y : Int)⟩) ho9 hg9)
                  have hA2 : w9.cell? ⟨w1.heap.size, 0, none⟩ = some (.slice (some vd) nv cv) ∧ w9.cell? (vd.add j) = some (.int .i64 v) := ⟨e90, (hg9.cell_far _ (Nat.lt_trans hv1 hszE) (fun e => by have := (HE2.out.bld.edg.lt _ e.symm).1; omega)).trans hA0.2⟩
                  have hA3 : (w9.setCell ⟨w1.heap.size, 3, none⟩ (.slice A9 (kf + 1) c9)).cell? ⟨w1.heap.size, 0, none⟩ = some (.slice (some vd) nv cv) ∧ (w9.setCell ⟨w1.heap.size, 3, none⟩ (.slice A9 (kf + 1) c9)).cell? (vd.add j) = some (.int .i64 v) := ⟨HS9.out.bld.blk.cell (j := 0) rfl, (HS9.out.bld.bel.cell hv1).trans hvc0⟩
                  clear B9 ho9 hg9 hA1 hB1 hA0 hB0 e90
                  (refine hK _ _ ⟨hA2, fun h => absurd (h.symm.trans (by kernel_rfl : _ = true)) Bool.false_ne_true⟩ ?_; clear hK K; (try simp only [Act.put, List.setIfInBounds_toArray, List.set_cons_zero, List.set_cons_succ]))
                  refine uOne (i := 12) rfl (by kernel_rfl) (fun K hK => ?_)
                  go_simp
                  (refine hK _ _ ⟨hA2, fun h => absurd (h.symm.trans (by kernel_rfl : _ = true)) Bool.false_ne_true⟩ ?_; clear hK K; (try simp only [Act.put, List.setIfInBounds_toArray, List.set_cons_zero, List.set_cons_succ]))
                  clear hA2
                  refine uOne (i := 13) rfl (by kernel_rfl) (fun K hK => ?_)
                  go_simp
                  (refine hK _ _ ⟨hA3, fun h => absurd (h.symm.trans (by kernel_rfl : _ = true)) Bool.false_ne_true⟩ ?_; clear hK K; (try simp only [Act.put, List.setIfInBounds_toArray, List.set_cons_zero, List.set_cons_succ]))
                  refine anyU_done (by kernel_rfl) ?_ _
                  clear hA3 e9 f9 l9
                  go_wp2
                  go_roundw
                  case rel => exact ⟨j + 1, nu, kf + 1, _, _, us, _, by go_num, rfl, by omega, hinu, hnu, by omega, HS9, HPR, HF2, Lib.hid HRZ2.out.symm⟩
                  case measure => simp [intOf]; omega
                · have hzl : z.ts.length = nu := by rw [← HZA.out.tsl, List.length_map, HZA.out.tn]
                  have hfull : z.ts.length ≠ 4096 := fun hf => by
                    have hbe := bsE_full (C := 4096) (i := i) HR.out (idx_neg.2 hmem) hf
                    rcases HFI.out.step HVM.out with ⟨s1, q1, q2, q3⟩ | ⟨q1, q2⟩
                    · rw [hbe] at q1; cases q1
                    · exact HNM2.out q2
                  have hbe : bsE 4096 (stp (xs.map AV.a)) i t2 z v = some ⟨z.ts ++ [u], z.es ++ [⟨i, v, (nu : Int)⟩]⟩ := by rw [bsE_new HR.out (idx_neg.2 hmem) hfull, hzl]
                  have hnu2 : nu + 1 ≤ 4096 := by omega
                  rw [idx_no hmem] at HFD
                  have HBE := Lib.hid hbe; clear hbe
                  clear hmem hzl hfull
                  have HF2 : Hid (FInv 4096 (stp (xs.map AV.a)) (evs (xs.map AV.a)) (ini (xs.map AV.a)) i t2 ((evs (xs.map AV.a)).take (j + 1)) ⟨z.ts ++ [u], z.es ++ [⟨i, v, (nu : Int)⟩]⟩) := by
                    rcases HFI.out.step HVM.out with ⟨s1, q1, q2, q3⟩ | ⟨q1, _⟩
                    · rw [HBE.out] at q1
                      injection q1 with q1; subst q1
                      rw [take_snoc' HVE.out]; exact Lib.hid q2
                    · rw [HBE.out] at q1; cases q1
                  have HRZ2 := Lib.hid (HRZ.out.symm.trans (by rw [bsF_go HVE.out HBE.out]) : synS (xs.map AV.a) = bsC 4096 (stp (xs.map AV.a)) (evs (xs.map AV.a)) (4096 - i) i (bsF 4096 (stp (xs.map AV.a)) i t2 ((evs (xs.map AV.a)).drop (j + 1)) ⟨z.ts ++ [u], z.es ++ [⟨i, v, (nu : Int)⟩]⟩))
                  have HPR2 := Lib.hid (HPR.out.trans (List.prefix_append z.ts [u]))
                  go_wp2_with fail
                  refine HFD.out.mono ?_
                  rintro e wB ⟨rfl, m, rfl⟩
                  have HZB := Lib.hid (HZA.out.quiet (below_drewN (Below.refl _ _) m))
                  have HOUB := Lib.hid (own_drewN HOU.out m)
                  have hszB : w1.heap.size + 1 ≤ (wA.drewN m).heap.size := HZB.out.bld.lt
                  clear HZA HFD HOU
                  go_wp2_with (at_builtin; refine wpList_pushA _ [.slice UA n uc] rfl (.tmp 74) (.tmp 76) 30 rfl (w1.heap.size + 1) 26 (.slice none 0 0) 1 24 Tryd.underlying30 ints_info rfl (by decide) rfl (.slice (some td) nu tb) nu _ rfl HZB.out.own rfl (fun q hq => by simp at hq; subst hq; rfl) (by omega) (by omega) hszB ?_; intro A8 c8 w8 ho8 hg8 hl8; have HZC := Lib.hid (HZB.out.tuple HOUB.out HUL.out HNE.out ho8 hg8))
                  clear HZB HOUB ho8 hg8 hl8
                  have f3 : w8.cell? ⟨w1.heap.size, 3, none⟩ = some (.slice EB kf eb) := HZC.out.bld.blk.cell (j := 3) rfl
                  have b0 : w8.cell? ⟨w1.heap.size, 0, none⟩ = some (.slice (some vd) nv cv) := HZC.out.bld.blk.cell (j := 0) rfl
                  have hvc : w8.cell? (vd.add j) = some (.int .i64 v) := (HZC.out.bld.bel.cell hv1).trans hvc0
                  have hA0 : (w8).drew.cell? ⟨w1.heap.size, 0, none⟩ = some (.slice (some vd) nv cv) ∧ (w8).drew.cell? (vd.add j) = some (.int .i64 v) := ⟨b0, hvc⟩
                  have hB0 : (w8).drew.cell? ⟨w1.heap.size, 3, none⟩ = some (.slice EB kf eb) := f3
                  have HE2 := Lib.hid (HZC.out.quiet (below_dr _))
                  have hszE : w1.heap.size + 1 ≤ (w8).drew.heap.size := HZC.out.bld.lt
                  go_wp2
                  refine wp_region_U (fun W => W.cell? ⟨w1.heap.size, 0, none⟩ = some (.slice (some vd) nv cv) ∧ W.cell? (vd.add j) = some (.int .i64 v)) (fun W => W.cell? ⟨w1.heap.size, 3, none⟩ = some (.slice EB kf eb)) 11 (by kernel_rfl) ?_
                  change anyU _ _ _ _ _ _ _ 14 _ _ _
                  clear f3 b0 hvc HZC
                  generalize hwe : (w8).drew = we at hA0 hB0 HE2 hszE ⊢
                  have HWE := Lib.hid hwe; clear hwe
                  ((refine uTake (i := 0) (v := ?_) rfl (by kernel_rfl) (fun _ _ _ h => h) (by rfl) (fun W hA hB => ?_) ⟨hA0, fun _ => hB0⟩ ?_; rotate_left; (· (clear hB; (try dsimp only at hA); go_simp; try with_reducible rfl)); (try simp only [Act.put, List.setIfInBounds_toArray, List.set_cons_zero, List.set_cons_succ])))
                  ((refine uTake (i := 1) (v := ?_) rfl (by kernel_rfl) (fun _ _ _ h => h) (by rfl) (fun W hA hB => ?_) ⟨hA0, fun _ => hB0⟩ ?_; rotate_left; (· (replace hB := hB (by kernel_rfl); (try dsimp only at hA hB); go_simp; try with_reducible rfl)); (try simp only [Act.put, List.setIfInBounds_toArray, List.set_cons_zero, List.set_cons_succ])))
                  ((refine uTake (i := 2) (v := ?_) rfl (by kernel_rfl) (fun _ _ _ h => h) (by rfl) (fun W hA hB => ?_) ⟨hA0, fun _ => hB0⟩ ?_; rotate_left; (· (clear hB; (try dsimp only at hA); go_simp; try with_reducible rfl)); (try simp only [Act.put, List.setIfInBounds_toArray, List.set_cons_zero, List.set_cons_succ])); (refine uTake (i := 3) (v := ?_) rfl (by kernel_rfl) (fun _ _ _ h => h) (by rfl) (fun W hA hB => ?_) ⟨hA0, fun _ => hB0⟩ ?_; rotate_left; (· (clear hB; (try dsimp only at hA); go_simp; try with_reducible rfl)); (try simp only [Act.put, List.setIfInBounds_toArray, List.set_cons_zero, List.set_cons_succ])); (refine uTake (i := 4) (v := ?_) rfl (by kernel_rfl) (fun _ _ _ h => h) (by rfl) (fun W hA hB => ?_) ⟨hA0, fun _ => hB0⟩ ?_; rotate_left; (· (clear hB; (try dsimp only at hA); go_simp; try with_reducible rfl)); (try simp only [Act.put, List.setIfInBounds_toArray, List.set_cons_zero, List.set_cons_succ])); (refine uTake (i := 5) (v := ?_) rfl (by kernel_rfl) (fun _ _ _ h => h) (by rfl) (fun W hA hB => ?_) ⟨hA0, fun _ => hB0⟩ ?_; rotate_left; (· (clear hB; (try dsimp only at hA); go_simp; try with_reducible rfl)); (try simp only [Act.put, List.setIfInBounds_toArray, List.set_cons_zero, List.set_cons_succ])); (refine uTake (i := 6) (v := ?_) rfl (by kernel_rfl) (fun _ _ _ h => h) (by rfl) (fun W hA hB => ?_) ⟨hA0, fun _ => hB0⟩ ?_; rotate_left; (· (clear hB; (try dsimp only at hA); go_simp; try with_reducible rfl)); (try simp only [Act.put, List.setIfInBounds_toArray, List.set_cons_zero, List.set_cons_succ])); (refine uTake (i := 7) (v := ?_) rfl (by kernel_rfl) (fun _ _ _ h => h) (by rfl) (fun W hA hB => ?_) ⟨hA0, fun _ => hB0⟩ ?_; rotate_left; (· (clear hB; (try dsimp only at hA); go_simp; try with_reducible rfl)); (try simp only [Act.put, List.setIfInBounds_toArray, List.set_cons_zero, List.set_cons_succ])); (refine uTake (i := 8) (v := ?_) rfl (by kernel_rfl) (fun _ _ _ h => h) (by rfl) (fun W hA hB => ?_) ⟨hA0, fun _ => hB0⟩ ?_; rotate_left; (· (clear hB; (try dsimp only at hA); go_simp; try with_reducible rfl)); (try simp only [Act.put, List.setIfInBounds_toArray, List.set_cons_zero, List.set_cons_succ])))
                  refine uOne (i := 9) rfl (by kernel_rfl) (fun K hK => ?_)
                  go_simp
                  (refine hK _ _ ⟨hA0, fun _ => hB0⟩ ?_; clear hK K; (try simp only [Act.put, List.setIfInBounds_toArray, List.set_cons_zero, List.set_cons_succ]))
                  refine uOne (i := 10) rfl (by kernel_rfl) (fun K hK => ?_)
                  go_simp
                  have hA1 : (we.alloc (.cells #[.int .i64 (i : Int), .int .i64 v, .int .i64 (nu : Int)] 43)).cell? ⟨w1.heap.size, 0, none⟩ = some (.slice (some vd) nv cv) ∧ (we.alloc (.cells #[.int .i64 (i : Int), .int .i64 v, .int .i64 (nu : Int)] 43)).cell? (vd.add j) = some (.int .i64 v) := ⟨(World.cell?_alloc_lt we _ ⟨w1.heap.size, 0, none⟩ hszE).trans hA0.1, (World.cell?_alloc_lt we _ _ (Nat.lt_trans hv1 hszE)).trans hA0.2⟩
                  have hB1 : (we.alloc (.cells #[.int .i64 (i : Int), .int .i64 v, .int .i64 (nu : Int)] 43)).cell? ⟨w1.heap.size, 3, none⟩ = some (.slice EB kf eb) := (World.cell?_alloc_lt we _ ⟨w1.heap.size, 3, none⟩ hszE).trans hB0
                  (refine hK _ _ ⟨hA1, fun _ => hB1⟩ ?_; clear hK K; (try simp only [Act.put, List.setIfInBounds_toArray, List.set_cons_zero, List.set_cons_succ]))
                  refine uOne (i := 11) rfl (by kernel_rfl) (fun K hK => ?_)
                  refine step_pushN we [.int .i64 (i : Int), .int .i64 v, .int .i64 (nu : Int)] (by rfl) (.tmp 79) (.tmp 88) 27 (by rfl) (w1.heap.size + 1) 43 (.agg #[.int .i64 0, .int .i64 0, .int .i64 0]) 3 24 Tryd.underlying27 edge_info (by rfl) (by decide) (by rfl) (.slice EB kf eb) kf _ (by rfl) HE2.out.bld.edg (by rfl) (fun q hq => by simp at hq; rcases hq with rfl | rfl | rfl <;> rfl) (by omega) (by omega) hszE ?_
                  intro A9 c9 w9 ho9 hg9
                  have B9 := HE2.out.bld.blk.kept hg9 (own_lt_ne HE2.out.bld.edg (Nat.lt_succ_self _))
                  have e9 : w9.cell? ⟨w1.heap.size, 3, none⟩ = some (.slice EB kf eb) := B9.cell (j := 3) rfl
                  have e90 : w9.cell? ⟨w1.heap.size, 0, none⟩ = some (.slice (some vd) nv cv) := B9.cell (j := 0) rfl
                  have f9 : w9.frozen? ⟨w1.heap.size, 3, none⟩ = false := B9.free 3
                  have l9 : w1.heap.size < w9.heap.size := B9.lt
                  have HS9 := Lib.hid (HE2.out.edge (x := ⟨i, v, (nu : Int)⟩) ho9 hg9)
                  have hA2 : w9.cell? ⟨w1.heap.size, 0, none⟩ = some (.slice (some vd) nv cv) ∧ w9.cell? (vd.add j) = some (.int .i64 v) := ⟨e90, (hg9.cell_far _ (Nat.lt_trans hv1 hszE) (fun e => by have := (HE2.out.bld.edg.lt _ e.symm).1; omega)).trans hA0.2⟩
                  have hA3 : (w9.setCell ⟨w1.heap.size, 3, none⟩ (.slice A9 (kf + 1) c9)).cell? ⟨w1.heap.size, 0, none⟩ = some (.slice (some vd) nv cv) ∧ (w9.setCell ⟨w1.heap.size, 3, none⟩ (.slice A9 (kf + 1) c9)).cell? (vd.add j) = some (.int .i64 v) := ⟨HS9.out.bld.blk.cell (j := 0) rfl, (HS9.out.bld.bel.cell hv1).trans hvc0⟩
                  clear B9 ho9 hg9 hA1 hB1 hA0 hB0 e90
                  (refine hK _ _ ⟨hA2, fun h => absurd (h.symm.trans (by kernel_rfl : _ = true)) Bool.false_ne_true⟩ ?_; clear hK K; (try simp only [Act.put, List.setIfInBounds_toArray, List.set_cons_zero, List.set_cons_succ]))
                  refine uOne (i := 12) rfl (by kernel_rfl) (fun K hK => ?_)
                  go_simp
                  (refine hK _ _ ⟨hA2, fun h => absurd (h.symm.trans (by kernel_rfl : _ = true)) Bool.false_ne_true⟩ ?_; clear hK K; (try simp only [Act.put, List.setIfInBounds_toArray, List.set_cons_zero, List.set_cons_succ]))
                  clear hA2
                  refine uOne (i := 13) rfl (by kernel_rfl) (fun K hK => ?_)
                  go_simp
                  (refine hK _ _ ⟨hA3, fun h => absurd (h.symm.trans (by kernel_rfl : _ = true)) Bool.false_ne_true⟩ ?_; clear hK K; (try simp only [Act.put, List.setIfInBounds_toArray, List.set_cons_zero, List.set_cons_succ]))
                  refine anyU_done (by kernel_rfl) ?_ _
                  clear hA3 e9 f9 l9
                  go_wp2
                  go_roundw
                  case rel => exact ⟨j + 1, nu + 1, kf + 1, _, _, _, _, by go_num, rfl, by omega, by omega, hnu2, by omega, HS9, HPR2, HF2, Lib.hid HRZ2.out.symm⟩
                  case measure => simp [intOf]; omega
            · obtain rfl : j = nv := by omega
              have hFI := HFI.out
              rw [List.take_of_length_le (by rw [HLV.out]; exact Nat.le_refl _)] at hFI
              have HB2 := Lib.hid hFI.leave
              have hRZ := HRZ.out
              rw [List.drop_of_length_le (by rw [HLV.out]; exact Nat.le_refl _)] at hRZ
              have HRS3 := Lib.hid (show bsR 4096 (stp (xs.map AV.a)) (evs (xs.map AV.a)) (4097 - (i + 1)) (i + 1) z = synS (xs.map AV.a) by rw [show 4097 - (i + 1) = 4096 - i by omega]; exact hRZ)
              have HMK3 := Lib.hid (show mk = mksN (mkT (xs.map AV.a)) z.ts (i + 1) by rw [mksN_pre HPR.out (by have := (List.getElem?_eq_some_iff.1 HXT.out).1; omega)]; exact HMK2.out)
              clear hFI hRZ hBw hsz hLr
              go_wp2
              go_roundw
              case rel => exact ⟨i + 1, nu, km, kf, _, _, _, us, z, _, by go_num, rfl, by omega, hnu, by omega, by omega, HZ, HMK3, HB2, HRS3⟩
              case measure => simp [intOf]; omega
      · obtain rfl : i = nt := by omega
        have htl : s.ts.length = i := by rw [← HS.out.tsl, List.length_map, HS.out.tn]
        have hRS := HRS.out
        rw [bsR_end (by rw [htl]; omega)] at hRS
        have hRn : synR (xs.map AV.a) = some (autOf (evs (xs.map AV.a)) (mkT (xs.map AV.a)) s, s.ts) := by rw [HSR.out, ← hRS]; rfl
        have hrs := HRS1.out.below HS.out.bld.bel HRS1.out.lt
        have hB := HB0.out.trans (HS.out.bld.bel.mono HB0.out.size)
        have g0 := HS.out.bld.set1 (.int .i64 (i : Int))
        have f0 := hrs.free 0
        have f1 := hrs.free 1
        have f2 := hrs.free 2
        have f3 := hrs.free 3
        have e0 := hrs.cell (j := 0) rfl
        have e1 := hrs.cell (j := 1) rfl
        have e2 := hrs.cell (j := 2) rfl
        have e3 := hrs.cell (j := 3) rfl
        have l0 : w.heap.size < wr.heap.size := hrs.lt
        have o1 : wr.cell? ⟨w1.heap.size, 1, none⟩ = some (.int .i64 0) := HS.out.bld.blk.cell (j := 1) rfl
        have o2 : wr.cell? ⟨w1.heap.size, 2, none⟩ = some (.slice MA km mc) := HS.out.bld.blk.cell (j := 2) rfl
        have o3 : wr.cell? ⟨w1.heap.size, 3, none⟩ = some (.slice EA ke ec) := HS.out.bld.blk.cell (j := 3) rfl
        have of1 : wr.frozen? ⟨w1.heap.size, 1, none⟩ = false := HS.out.bld.blk.free 1
        obtain ⟨hrd, hc1', hc2'⟩ := HS.out.rds
        have HO := Lib.hid (g0.fin (st := (i : Int)) HLV.out HOV.out (by omega))
        have HRD := Lib.hid hrd
        have HTS := Lib.hid (show ts.length = i ∧ ts.map SlV.l = s.ts from ⟨HS.out.tn, HS.out.tsl⟩)
        have HMKF := Lib.hid (show mk = mksN (mkT (xs.map AV.a)) s.ts s.ts.length by rw [htl]; exact HMK.out)
        have HTL := Lib.hid htl
        have HHB := Lib.hid hB
        have HRN := Lib.hid hRn; clear hRn
        have hz01' : w.heap.size + 1 ≤ w1.heap.size := hz01
        have HTW := Lib.hid HS.out.tup
        have HOW := Lib.hid HS.out.own
        clear hRS g0 hrd hBw hsz hLr hB htl
        go_wp2
        have hg1 := grown_setCell wr w1.heap.size 1 (.int .i64 (i : Int))
        have hrs' := hrs.kept hg1 (by intro e; injection e with e; omega)
        have hb3 := (((hrs'.set (j := 0) (by simp) (.slice V nv cv)).set (j := 1) (by simp) (.int .i64 (i : Int))).set (j := 2) (by simp) (.slice MA km mc)).set (j := 3) (by simp) (.slice EA ke ec)
        have z0 : (((((wr.setCell ⟨w1.heap.size, 1, none⟩ (.int .i64 (i : Int))).setCell ⟨w.heap.size, 0, none⟩ (.slice V nv cv)).setCell ⟨w.heap.size, 1, none⟩ (.int .i64 (i : Int))).setCell ⟨w.heap.size, 2, none⟩ (.slice MA km mc)).setCell ⟨w.heap.size, 3, none⟩ (.slice EA ke ec)).cell? ⟨w.heap.size, 0, none⟩ = some (.slice V nv cv) := hb3.cell (j := 0) rfl
        have z1 : (((((wr.setCell ⟨w1.heap.size, 1, none⟩ (.int .i64 (i : Int))).setCell ⟨w.heap.size, 0, none⟩ (.slice V nv cv)).setCell ⟨w.heap.size, 1, none⟩ (.int .i64 (i : Int))).setCell ⟨w.heap.size, 2, none⟩ (.slice MA km mc)).setCell ⟨w.heap.size, 3, none⟩ (.slice EA ke ec)).cell? ⟨w.heap.size, 1, none⟩ = some (.int .i64 (i : Int)) := hb3.cell (j := 1) rfl
        have z2 : (((((wr.setCell ⟨w1.heap.size, 1, none⟩ (.int .i64 (i : Int))).setCell ⟨w.heap.size, 0, none⟩ (.slice V nv cv)).setCell ⟨w.heap.size, 1, none⟩ (.int .i64 (i : Int))).setCell ⟨w.heap.size, 2, none⟩ (.slice MA km mc)).setCell ⟨w.heap.size, 3, none⟩ (.slice EA ke ec)).cell? ⟨w.heap.size, 2, none⟩ = some (.slice MA km mc) := hb3.cell (j := 2) rfl
        have z3 : (((((wr.setCell ⟨w1.heap.size, 1, none⟩ (.int .i64 (i : Int))).setCell ⟨w.heap.size, 0, none⟩ (.slice V nv cv)).setCell ⟨w.heap.size, 1, none⟩ (.int .i64 (i : Int))).setCell ⟨w.heap.size, 2, none⟩ (.slice MA km mc)).setCell ⟨w.heap.size, 3, none⟩ (.slice EA ke ec)).cell? ⟨w.heap.size, 3, none⟩ = some (.slice EA ke ec) := hb3.cell (j := 3) rfl
        refine bodyPost_ret (v := .tuple #[.agg #[.slice V nv cv, .int .i64 (i : Int), .slice MA km mc, .slice EA ke ec], .slice TA i tc]) (by simp [results, Tryd.results17, go_sem, z0, z1, z2, z3]) rfl ?_
        have hg5 : (wr.setCell ⟨w1.heap.size, 1, none⟩ (.int .i64 (i : Int))).grownBy (((((wr.setCell ⟨w1.heap.size, 1, none⟩ (.int .i64 (i : Int))).setCell ⟨w.heap.size, 0, none⟩ (.slice V nv cv)).setCell ⟨w.heap.size, 1, none⟩ (.int .i64 (i : Int))).setCell ⟨w.heap.size, 2, none⟩ (.slice MA km mc)).setCell ⟨w.heap.size, 3, none⟩ (.slice EA ke ec)) (some w.heap.size) := (((grown_setCell _ _ _ _).trans (grown_setCell _ _ _ _)).trans (grown_setCell _ _ _ _)).trans (grown_setCell _ _ _ _)
        have hBf := (HHB.out.grown hg1 HHB.out.size (fun j hj => by injection hj with hj; omega)).grown hg5 (by have := hg1.size; omega) (fun j hj => by injection hj with hj; omega)
        have ho' := own_kept_low (own_kept_low HOW.out hg1 (Nat.lt_succ_self _)) hg5 (by omega)
        have ht' := rds_of_own (n := n) (mv := .slice MA km mc) ho' (fun x hx => ⟨own_kept_low (own_kept_low (HTW.out x hx).1 hg1 (Nat.lt_succ_self _)) hg5 (by omega), (HTW.out x hx).2⟩)
        have haut : autOf (evs (xs.map AV.a)) (mkT (xs.map AV.a)) s = ⟨evs (xs.map AV.a), (i : Int), mk, s.es⟩ := by unfold autOf; rw [HTL.out, HMKF.out, HTL.out]
        rw [haut] at HRN
        exact ⟨hBf, _, _, HRN.out, V, nv, cv, MA, km, mc, EA, ke, ec, TA, i, tc, ts, rfl, HO.out.set4 hg5 (Nat.le_refl _), ht', HTS.out.1, hc1', hc2', HTS.out.2⟩
end Go.Proofs.YtbdliebjalghmaaDoor
