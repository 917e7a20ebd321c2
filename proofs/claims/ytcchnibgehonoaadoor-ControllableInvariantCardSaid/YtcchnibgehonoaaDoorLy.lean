/- The law ControllableInvariant: its walk. -/
import Derived.Test.YtcchnibgehonoaaDoorDl
import Derived.Test.YtcchnibgehonoaaDoorLw
import Derived.Test.YtcchnibgehonoaaDoorPc
namespace Go.Proofs.YtcchnibgehonoaaDoor
open Go.RowKit Go Go.Maps

theorem range_below {w w' : World} {B bb o : Nat} {cs : List Value} (h : w.rangeAt bb o cs) (hb : Below B w w') (hB : bb < B) : w'.rangeAt bb o cs := fun j v hj => (hb.cell (p := ⟨bb, o + j, none⟩) hB).trans (h j v hj)
set_option maxRecDepth 100000 in
set_option maxHeartbeats 6400000 in
theorem invariant_walk (x : Pt) (bt s : Int) (w : World) (hok : x.ok) (hbt : 0 ≤ bt ∧ bt ≤ 255) (hs : 0 ≤ s ∧ s ≤ 255) :
    Calls Tryd.prog 4 #[.agg (pcells x).toArray, .int .u8 bt, .int .u8 s] w fun e w' => e = .returned (.bool true) ∧ Below w.heap.size w w' := by
  have hb1 := box_below w (.cells (pcells x).toArray 43)
  obtain ⟨w1, hw1⟩ : ∃ w1, w1 = w.alloc (.cells (pcells x).toArray 43) := ⟨_, rfl⟩
  have kx : Blk w1 w.heap.size 43 (pcells x) := by rw [hw1]; exact Blk.new _ _ _
  rw [← hw1] at hb1
  have HC := Lib.hid (law_known26 w1)
  have HW1 := Lib.hid hw1; clear hw1
  have HB1 := Lib.hid hb1; clear hb1
  have KX := Lib.hid kx; clear kx
  have HOK := Lib.hid hok; clear hok
  go_enter Tryd.func4, Tryd.ntmps4
  go_wp2_with fail
  rw [← HW1.out]
  refine HC.out.mono ?_
  rintro e w2 ⟨rfl, hb⟩
  have HB2 := Lib.hid (HB1.out.trans (hb.mono HB1.out.size))
  have KX2 := Lib.hid (KX.out.below hb KX.out.lt)
  clear HC hb KX
  obtain ⟨a, ha⟩ : ∃ a, mkG (setB x.ev 5) x.g = a := ⟨_, rfl⟩
  have HSM := Lib.hid (show Sm a by rw [← ha]; exact ptA_sm HOK.out)
  obtain ⟨nv, hnv⟩ : ∃ m, (setB x.ev 5).length = m := ⟨_, rfl⟩
  obtain ⟨u, hu⟩ : ∃ u, setB s 5 = u := ⟨_, rfl⟩
  obtain ⟨nu, hnu⟩ : ∃ m, (setB s 5).length = m := ⟨_, rfl⟩
  have hnu5 : nu ≤ 5 := by rw [← hnu]; exact setB_le s 5
  have HUI := Lib.hid (show Inc u by rw [← hu]; exact (set5 s).1)
  have HUR := Lib.hid (show ∀ z ∈ u, 0 ≤ z ∧ z < 32 by rw [← hu]; exact set32 s)
  have HAA := Lib.hid ha; clear ha
  have HNV := Lib.hid hnv; clear hnv
  have HUU := Lib.hid hu; clear hu
  have HNU := Lib.hid hnu; clear hnu
  go_upto_region 3 with fail
  go_cut [7, 8] from 21 (fun s7 s8 wx => ∃ (o : Nat) (A9 : Option Addr) (na9 ca9 : Nat) (M9 : Option Addr) (nm9 cm9 : Nat) (E9 : Option Addr) (ne9 ce9 : Nat) (UA : Option Addr) (cU : Nat), s7 = .pointer (some ⟨o, 0, none⟩) ∧ s8 = .slice UA nu cU ∧ Hid (Blk wx o 25 [.slice A9 na9 ca9, .int .i64 a.st, .slice M9 nm9 cm9, .slice E9 ne9 ce9]) ∧ Hid (AutO wx w2.heap.size A9 na9 ca9 M9 nm9 cm9 E9 ne9 ce9 a) ∧ Hid (wx.ownsRow w2.heap.size 3 1 (.slice UA nu cU) nu (iv (setB s 5))) ∧ Hid (Below w2.heap.size w2 wx))
  case first =>
    have HAT := Lib.hid (fun (W : World) (hb : Below w2.heap.size w2 W) => (show W.cell? ⟨w.heap.size, 0, none⟩ = some (.int .u8 x.ev) ∧ W.rangeAt w.heap.size 1 (gcells x.g) from by
      have k := KX2.out.below hb KX2.out.lt
      exact ⟨k.cell (j := 0) rfl, fun j v hj => by rw [Nat.add_comm]; exact k.cell (j := j + 1) hj⟩))
    refine wp_region_U (fun W => W.cell? ⟨w.heap.size, 0, none⟩ = some (.int .u8 x.ev) ∧ W.rangeAt w.heap.size 1 (gcells x.g)) (fun _ => True) 10 (by kernel_rfl) ?_
    change anyU _ _ _ _ _ _ _ 11 _ _ _
    have hB0 : True := trivial
    have HBE := Lib.hid (below_dr w2)
    generalize w2.drew = we at HBE ⊢
    have HAU := Lib.hid (fun (W : World) (hb : Below we.heap.size we W) => HAT.out W (HBE.out.trans (hb.mono HBE.out.size)))
    have HB00 := Lib.hid (Below.refl we.heap.size we)
    have hA0 := HAU.out we HB00.out
    have HLEN := Lib.hid (show (gcells x.g).length = 27 by simp [gcells, bv, HOK.out.2.len])
    (refine uA 0 ?_ rfl hA0 hB0 (fun W hA => ?_) ?_; rotate_left; (· (go_simp; try with_reducible rfl)); (try simp only [Act.put, List.setIfInBounds_toArray, List.set_cons_zero, List.set_cons_succ]))
    (refine uA 1 ?_ rfl hA0 hB0 (fun W hA => ?_) ?_; rotate_left; (· (obtain ⟨a0, _⟩ := hA; go_simp; try with_reducible rfl)); (try simp only [Act.put, List.setIfInBounds_toArray, List.set_cons_zero, List.set_cons_succ]))
    (refine uA 3 ?_ rfl hA0 hB0 (fun W hA => ?_) ?_; rotate_left; (· (go_simp; try with_reducible rfl)); (try simp only [Act.put, List.setIfInBounds_toArray, List.set_cons_zero, List.set_cons_succ]))
    refine uTakeY (i := 4) (v := .agg (gcells x.g).toArray) rfl (by kernel_rfl) (fun _ _ _ h => h) ?_ ⟨hA0, fun _ => hB0⟩ ?_
    · exact yieldsIf_load_mid (by rfl) 41 (.tmp 26) rfl w.heap.size 1 rfl (gcells x.g) _ (fun W hW => hW.2) Tryd.underlying41 rfl (by rw [HLEN.out]; kernel_rfl)
    (try simp only [Act.put, List.setIfInBounds_toArray, List.set_cons_zero, List.set_cons_succ])
    (refine uA 6 ?_ rfl hA0 hB0 (fun W hA => ?_) ?_; rotate_left; (· (go_simp; try with_reducible rfl)); (try simp only [Act.put, List.setIfInBounds_toArray, List.set_cons_zero, List.set_cons_succ]))
    clear hA0
    refine uTwo (i := 2) (j := 8) rfl rfl (by kernel_rfl) (fun K hK => ?_) (fun K hK => ?_)
    · skip
      have HE1 := Lib.hid (set_Events x.ev we HOK.out.1.1 HOK.out.1.2)
      go_simp
      go_at_call 20
      refine HE1.out.mono ?_
      rintro e wa ⟨va, rfl, hoa, hba⟩
      rw [HNV.out] at hoa
      obtain ⟨AA, cA, rfl⟩ := own_shape hoa
      have HBA := Lib.hid (HB00.out.trans (hba.mono HB00.out.size))
      obtain ⟨hca1, hca2⟩ := own_cap' hoa
      have HRA := Lib.hid (RdI.of_own hoa)
      skip
      have hA1 := HAU.out wa HBA.out
      have HMK := Lib.hid (fun (W : World) (hbw : Below wa.heap.size wa W) => law_Make AA cA nv (setB x.ev 5) x.g W HNV.out ((HRA.out.below hbw).more hbw.size) hca1 hca2 HOK.out.2 (set5 x.ev).1 (set32 x.ev))
      rw [HAA.out] at HMK
      clear hoa hba HE1
      (refine hK _ _ ⟨hA1, fun _ => hB0⟩ ?_; clear hK K; (try simp only [Act.put, List.setIfInBounds_toArray, List.set_cons_zero, List.set_cons_succ]))
      refine uTwo (i := 5) (j := 8) rfl rfl (by kernel_rfl) (fun K hK => ?_) (fun K hK => ?_)
      · skip
        go_simp
        go_at_call 19
        refine (HMK.out wa (Below.refl _ _)).mono ?_
        rintro e wm ⟨A9, na9, ca9, M9, nm9, cm9, E9, ne9, ce9, rfl, ho9, hb9⟩
        have HBM := Lib.hid (HBA.out.trans (hb9.mono HBA.out.size))
        have HO9 := Lib.hid (ho9.down (b0 := w2.heap.size) (by have := HBA.out.size; have := HBE.out.size; omega))
        skip
        have hA2 := HAU.out wm HBM.out
        clear ho9 hb9 HMK HRA
        (refine hK _ _ ⟨hA2, fun _ => hB0⟩ ?_; clear hK K; (try simp only [Act.put, List.setIfInBounds_toArray, List.set_cons_zero, List.set_cons_succ]))
        refine uTwo (i := 7) (j := 8) rfl rfl (by kernel_rfl) (fun K hK => ?_) (fun K hK => ?_)
        · skip
          have HE2 := Lib.hid (set_Events s wm hs.1 hs.2)
          go_simp
          go_at_call 20
          refine HE2.out.mono ?_
          rintro e ww ⟨vu, rfl, hou, hbu⟩
          rw [HNU.out] at hou
          obtain ⟨UA, cU, rfl⟩ := own_shape hou
          have HBW := Lib.hid (HBM.out.trans (hbu.mono HBM.out.size))
          have HOU := Lib.hid (own_base (base := w2.heap.size) hou (by have := HBM.out.size; have := HBE.out.size; omega))
          have HOW := Lib.hid (AutO.below HO9.out hbu)
          skip
          have HBF := Lib.hid (HBE.out.trans (HBW.out.mono HBE.out.size))
          have hA3 := HAU.out ww HBW.out
          clear hou hbu HE2
          (refine hK _ _ ⟨hA3, fun _ => hB0⟩ ?_; clear hK K; (try simp only [Act.put, List.setIfInBounds_toArray, List.set_cons_zero, List.set_cons_succ]))
          refine uOne (i := 8) rfl (by kernel_rfl) (fun K hK => ?_)
          go_simp
          have hAz := HAU.out _ (HBW.out.alloc HBW.out.size (.cells #[.slice none 0 0, .int .i64 0, .slice none 0 0, .slice none 0 0] 25))
          (refine hK _ _ ⟨hAz, fun _ => hB0⟩ ?_; clear hK K; (try simp only [Act.put, List.setIfInBounds_toArray, List.set_cons_zero, List.set_cons_succ]))
          have hx := box_below ww (.cells #[.slice A9 na9 ca9, .int .i64 a.st, .slice M9 nm9 cm9, .slice E9 ne9 ce9] 25)
          refine uOne (i := 9) rfl (by kernel_rfl) (fun K hK => ?_)
          go_simp
          have hAf := HAU.out _ (HBW.out.trans (hx.mono HBW.out.size))
          (refine hK _ _ ⟨hAf, fun _ => hB0⟩ ?_; clear hK K; (try simp only [Act.put, List.setIfInBounds_toArray, List.set_cons_zero, List.set_cons_succ]))
          refine uOne (i := 10) rfl (by kernel_rfl) (fun K hK => ?_)
          go_simp
          (refine hK _ _ ⟨hAf, fun h => absurd (h.symm.trans (by kernel_rfl : _ = true)) Bool.false_ne_true⟩ ?_; clear hK K; (try simp only [Act.put, List.setIfInBounds_toArray, List.set_cons_zero, List.set_cons_succ]))
          refine anyU_done (by kernel_rfl) ?_ _
          have HV := Lib.hid (show Blk (ww.alloc (.cells #[.slice A9 na9 ca9, .int .i64 a.st, .slice M9 nm9 cm9, .slice E9 ne9 ce9] 25)) ww.heap.size 25 [.slice A9 na9 ca9, .int .i64 a.st, .slice M9 nm9 cm9, .slice E9 ne9 ce9] from Blk.new _ _ [_, _, _, _])
          have HO2 := Lib.hid (HOW.out.below hx)
          have HU2 := Lib.hid (own_below HOU.out hx)
          have HF2 := Lib.hid (HBF.out.trans (hx.mono HBF.out.size))
          clear hAz hAf hx
          go_wp2_with fail
          go_meet
          case rel => exact ⟨ww.heap.size, A9, na9, ca9, M9, nm9, cm9, E9, ne9, ce9, UA, cU, rfl, rfl, HV, HO2, HU2, HF2⟩
        · skip
          go_simp
          have HKZ := Lib.hid (show Blk (World.alloc wm (.cells #[.slice none 0 0, .int .i64 0, .slice none 0 0, .slice none 0 0] 25)) (wm).heap.size 25 [.slice none 0 0, .int .i64 0, .slice none 0 0, .slice none 0 0] from Blk.new _ _ [_, _, _, _])
          have HBX := Lib.hid (box_below wm (.cells #[.slice none 0 0, .int .i64 0, .slice none 0 0, .slice none 0 0] 25))
          have HBZ := Lib.hid (HBM.out.trans (HBX.out.mono HBM.out.size))
          have hAz := HAU.out _ HBZ.out
          have lz := HBM.out.size
          (refine hK _ _ ⟨hAz, fun _ => hB0⟩ ?_; clear hK K; (try simp only [Act.put, List.setIfInBounds_toArray, List.set_cons_zero, List.set_cons_succ]))
          have HO10 := Lib.hid (HO9.out.below HBX.out)
          refine uOne (i := 7) rfl (by kernel_rfl) (fun K hK => ?_)
          have HE2 := Lib.hid (set_Events s (wm.alloc (.cells #[.slice none 0 0, .int .i64 0, .slice none 0 0, .slice none 0 0] 25)) hs.1 hs.2)
          go_simp
          go_at_call 20
          refine HE2.out.mono ?_
          rintro e ww ⟨vu, rfl, hou, hbu⟩
          rw [HNU.out] at hou
          obtain ⟨UA, cU, rfl⟩ := own_shape hou
          have HBW := Lib.hid (HBZ.out.trans (hbu.mono HBZ.out.size))
          have HOU := Lib.hid (own_base (base := w2.heap.size) hou (by have := HBZ.out.size; have := HBE.out.size; omega))
          have HOW := Lib.hid (AutO.below HO10.out hbu)
          have HKZ := Lib.hid (HKZ.out.below hbu HKZ.out.lt)
          have HBF := Lib.hid (HBE.out.trans (HBW.out.mono HBE.out.size))
          have hA3 := HAU.out ww HBW.out
          clear hou hbu HE2
          (refine hK _ _ ⟨hA3, fun _ => hB0⟩ ?_; clear hK K; (try simp only [Act.put, List.setIfInBounds_toArray, List.set_cons_zero, List.set_cons_succ]))
          refine uOne (i := 9) rfl (by kernel_rfl) (fun K hK => ?_)
          have f0 := HKZ.out.free 0
          have f1 := HKZ.out.free 1
          have f2 := HKZ.out.free 2
          have f3 := HKZ.out.free 3
          have e0 := HKZ.out.cell (j := 0) rfl
          have e1 := HKZ.out.cell (j := 1) rfl
          have e2 := HKZ.out.cell (j := 2) rfl
          have e3 := HKZ.out.cell (j := 3) rfl
          have l9 : wm.heap.size < ww.heap.size := HKZ.out.lt
          have lb := HBE.out.size
          have hg := grown_set4 ww (wm.heap.size) (.slice A9 na9 ca9) (.int .i64 a.st) (.slice M9 nm9 cm9) (.slice E9 ne9 ce9)
          have HV := Lib.hid (HKZ.out.set4 (.slice A9 na9 ca9) (.int .i64 a.st) (.slice M9 nm9 cm9) (.slice E9 ne9 ce9))
          have HO2 := Lib.hid (HOW.out.keepB HKZ.out hg)
          have HU2 := Lib.hid (HOU.out.kept hg (own_ne_blk HOU.out HKZ.out (by decide)))
          have HF2 := Lib.hid (below_set4 (b := wm.heap.size) (v0 := .slice A9 na9 ca9) (v1 := .int .i64 a.st) (v2 := .slice M9 nm9 cm9) (v3 := .slice E9 ne9 ce9) HBF.out (by omega))
          have hAf := HAU.out _ (below_set4 (b := wm.heap.size) (v0 := .slice A9 na9 ca9) (v1 := .int .i64 a.st) (v2 := .slice M9 nm9 cm9) (v3 := .slice E9 ne9 ce9) HBW.out (by omega))
          go_simp
          (refine hK _ _ ⟨hAf, fun _ => hB0⟩ ?_; clear hK K; (try simp only [Act.put, List.setIfInBounds_toArray, List.set_cons_zero, List.set_cons_succ]))
          refine uOne (i := 10) rfl (by kernel_rfl) (fun K hK => ?_)
          go_simp
          (refine hK _ _ ⟨hAf, fun h => absurd (h.symm.trans (by kernel_rfl : _ = true)) Bool.false_ne_true⟩ ?_; clear hK K; (try simp only [Act.put, List.setIfInBounds_toArray, List.set_cons_zero, List.set_cons_succ]))
          refine anyU_done (by kernel_rfl) ?_ _
          clear hAf f0 f1 f2 f3 e0 e1 e2 e3 l9 hg
          go_wp2_with fail
          go_meet
          case rel => exact ⟨wm.heap.size, A9, na9, ca9, M9, nm9, cm9, E9, ne9, ce9, UA, cU, rfl, rfl, HV, HO2, HU2, HF2⟩
      · skip
        go_simp
        have HKZ := Lib.hid (show Blk (World.alloc wa (.cells #[.slice none 0 0, .int .i64 0, .slice none 0 0, .slice none 0 0] 25)) (wa).heap.size 25 [.slice none 0 0, .int .i64 0, .slice none 0 0, .slice none 0 0] from Blk.new _ _ [_, _, _, _])
        have HBX := Lib.hid (box_below wa (.cells #[.slice none 0 0, .int .i64 0, .slice none 0 0, .slice none 0 0] 25))
        have HBZ := Lib.hid (HBA.out.trans (HBX.out.mono HBA.out.size))
        have hAz := HAU.out _ HBZ.out
        have lz := HBA.out.size
        (refine hK _ _ ⟨hAz, fun _ => hB0⟩ ?_; clear hK K; (try simp only [Act.put, List.setIfInBounds_toArray, List.set_cons_zero, List.set_cons_succ]))
        refine uOne (i := 5) rfl (by kernel_rfl) (fun K hK => ?_)
        go_simp
        go_at_call 19
        refine (HMK.out _ HBX.out).mono ?_
        rintro e wm ⟨A9, na9, ca9, M9, nm9, cm9, E9, ne9, ce9, rfl, ho9, hb9⟩
        have HBM := Lib.hid (HBZ.out.trans (hb9.mono HBZ.out.size))
        have HO9 := Lib.hid (ho9.down (b0 := w2.heap.size) (by have := HBZ.out.size; have := HBE.out.size; omega))
        have HKZ := Lib.hid (HKZ.out.below hb9 HKZ.out.lt)
        have hA2 := HAU.out wm HBM.out
        clear ho9 hb9 HMK HRA
        (refine hK _ _ ⟨hA2, fun _ => hB0⟩ ?_; clear hK K; (try simp only [Act.put, List.setIfInBounds_toArray, List.set_cons_zero, List.set_cons_succ]))
        refine uOne (i := 7) rfl (by kernel_rfl) (fun K hK => ?_)
        have HE2 := Lib.hid (set_Events s wm hs.1 hs.2)
        go_simp
        go_at_call 20
        refine HE2.out.mono ?_
        rintro e ww ⟨vu, rfl, hou, hbu⟩
        rw [HNU.out] at hou
        obtain ⟨UA, cU, rfl⟩ := own_shape hou
        have HBW := Lib.hid (HBM.out.trans (hbu.mono HBM.out.size))
        have HOU := Lib.hid (own_base (base := w2.heap.size) hou (by have := HBM.out.size; have := HBE.out.size; omega))
        have HOW := Lib.hid (AutO.below HO9.out hbu)
        have HKZ := Lib.hid (HKZ.out.below hbu HKZ.out.lt)
        have HBF := Lib.hid (HBE.out.trans (HBW.out.mono HBE.out.size))
        have hA3 := HAU.out ww HBW.out
        clear hou hbu HE2
        (refine hK _ _ ⟨hA3, fun _ => hB0⟩ ?_; clear hK K; (try simp only [Act.put, List.setIfInBounds_toArray, List.set_cons_zero, List.set_cons_succ]))
        refine uOne (i := 9) rfl (by kernel_rfl) (fun K hK => ?_)
        have f0 := HKZ.out.free 0
        have f1 := HKZ.out.free 1
        have f2 := HKZ.out.free 2
        have f3 := HKZ.out.free 3
        have e0 := HKZ.out.cell (j := 0) rfl
        have e1 := HKZ.out.cell (j := 1) rfl
        have e2 := HKZ.out.cell (j := 2) rfl
        have e3 := HKZ.out.cell (j := 3) rfl
        have l9 : wa.heap.size < ww.heap.size := HKZ.out.lt
        have lb := HBE.out.size
        have hg := grown_set4 ww (wa.heap.size) (.slice A9 na9 ca9) (.int .i64 a.st) (.slice M9 nm9 cm9) (.slice E9 ne9 ce9)
        have HV := Lib.hid (HKZ.out.set4 (.slice A9 na9 ca9) (.int .i64 a.st) (.slice M9 nm9 cm9) (.slice E9 ne9 ce9))
        have HO2 := Lib.hid (HOW.out.keepB HKZ.out hg)
        have HU2 := Lib.hid (HOU.out.kept hg (own_ne_blk HOU.out HKZ.out (by decide)))
        have HF2 := Lib.hid (below_set4 (b := wa.heap.size) (v0 := .slice A9 na9 ca9) (v1 := .int .i64 a.st) (v2 := .slice M9 nm9 cm9) (v3 := .slice E9 ne9 ce9) HBF.out (by omega))
        have hAf := HAU.out _ (below_set4 (b := wa.heap.size) (v0 := .slice A9 na9 ca9) (v1 := .int .i64 a.st) (v2 := .slice M9 nm9 cm9) (v3 := .slice E9 ne9 ce9) HBW.out (by omega))
        go_simp
        (refine hK _ _ ⟨hAf, fun _ => hB0⟩ ?_; clear hK K; (try simp only [Act.put, List.setIfInBounds_toArray, List.set_cons_zero, List.set_cons_succ]))
        refine uOne (i := 10) rfl (by kernel_rfl) (fun K hK => ?_)
        go_simp
        (refine hK _ _ ⟨hAf, fun h => absurd (h.symm.trans (by kernel_rfl : _ = true)) Bool.false_ne_true⟩ ?_; clear hK K; (try simp only [Act.put, List.setIfInBounds_toArray, List.set_cons_zero, List.set_cons_succ]))
        refine anyU_done (by kernel_rfl) ?_ _
        clear hAf f0 f1 f2 f3 e0 e1 e2 e3 l9 hg
        go_wp2_with fail
        go_meet
        case rel => exact ⟨wa.heap.size, A9, na9, ca9, M9, nm9, cm9, E9, ne9, ce9, UA, cU, rfl, rfl, HV, HO2, HU2, HF2⟩
    · skip
      go_simp
      have HKZ := Lib.hid (show Blk (World.alloc we (.cells #[.slice none 0 0, .int .i64 0, .slice none 0 0, .slice none 0 0] 25)) (we).heap.size 25 [.slice none 0 0, .int .i64 0, .slice none 0 0, .slice none 0 0] from Blk.new _ _ [_, _, _, _])
      have HBX := Lib.hid (box_below we (.cells #[.slice none 0 0, .int .i64 0, .slice none 0 0, .slice none 0 0] 25))
      have HBZ := Lib.hid (HB00.out.trans (HBX.out.mono HB00.out.size))
      have hAz := HAU.out _ HBZ.out
      have lz := HB00.out.size
      (refine hK _ _ ⟨hAz, fun _ => hB0⟩ ?_; clear hK K; (try simp only [Act.put, List.setIfInBounds_toArray, List.set_cons_zero, List.set_cons_succ]))
      refine uOne (i := 2) rfl (by kernel_rfl) (fun K hK => ?_)
      have HE1 := Lib.hid (set_Events x.ev (we.alloc (.cells #[.slice none 0 0, .int .i64 0, .slice none 0 0, .slice none 0 0] 25)) HOK.out.1.1 HOK.out.1.2)
      go_simp
      go_at_call 20
      refine HE1.out.mono ?_
      rintro e wa ⟨va, rfl, hoa, hba⟩
      rw [HNV.out] at hoa
      obtain ⟨AA, cA, rfl⟩ := own_shape hoa
      have HBA := Lib.hid (HBZ.out.trans (hba.mono HBZ.out.size))
      obtain ⟨hca1, hca2⟩ := own_cap' hoa
      have HRA := Lib.hid (RdI.of_own hoa)
      have HKZ := Lib.hid (HKZ.out.below hba HKZ.out.lt)
      have hA1 := HAU.out wa HBA.out
      have HMK := Lib.hid (fun (W : World) (hbw : Below wa.heap.size wa W) => law_Make AA cA nv (setB x.ev 5) x.g W HNV.out ((HRA.out.below hbw).more hbw.size) hca1 hca2 HOK.out.2 (set5 x.ev).1 (set32 x.ev))
      rw [HAA.out] at HMK
      clear hoa hba HE1
      (refine hK _ _ ⟨hA1, fun _ => hB0⟩ ?_; clear hK K; (try simp only [Act.put, List.setIfInBounds_toArray, List.set_cons_zero, List.set_cons_succ]))
      refine uOne (i := 5) rfl (by kernel_rfl) (fun K hK => ?_)
      go_simp
      go_at_call 19
      refine (HMK.out wa (Below.refl _ _)).mono ?_
      rintro e wm ⟨A9, na9, ca9, M9, nm9, cm9, E9, ne9, ce9, rfl, ho9, hb9⟩
      have HBM := Lib.hid (HBA.out.trans (hb9.mono HBA.out.size))
      have HO9 := Lib.hid (ho9.down (b0 := w2.heap.size) (by have := HBA.out.size; have := HBE.out.size; omega))
      have HKZ := Lib.hid (HKZ.out.below hb9 HKZ.out.lt)
      have hA2 := HAU.out wm HBM.out
      clear ho9 hb9 HMK HRA
      (refine hK _ _ ⟨hA2, fun _ => hB0⟩ ?_; clear hK K; (try simp only [Act.put, List.setIfInBounds_toArray, List.set_cons_zero, List.set_cons_succ]))
      refine uOne (i := 7) rfl (by kernel_rfl) (fun K hK => ?_)
      have HE2 := Lib.hid (set_Events s wm hs.1 hs.2)
      go_simp
      go_at_call 20
      refine HE2.out.mono ?_
      rintro e ww ⟨vu, rfl, hou, hbu⟩
      rw [HNU.out] at hou
      obtain ⟨UA, cU, rfl⟩ := own_shape hou
      have HBW := Lib.hid (HBM.out.trans (hbu.mono HBM.out.size))
      have HOU := Lib.hid (own_base (base := w2.heap.size) hou (by have := HBM.out.size; have := HBE.out.size; omega))
      have HOW := Lib.hid (AutO.below HO9.out hbu)
      have HKZ := Lib.hid (HKZ.out.below hbu HKZ.out.lt)
      have HBF := Lib.hid (HBE.out.trans (HBW.out.mono HBE.out.size))
      have hA3 := HAU.out ww HBW.out
      clear hou hbu HE2
      (refine hK _ _ ⟨hA3, fun _ => hB0⟩ ?_; clear hK K; (try simp only [Act.put, List.setIfInBounds_toArray, List.set_cons_zero, List.set_cons_succ]))
      refine uOne (i := 9) rfl (by kernel_rfl) (fun K hK => ?_)
      have f0 := HKZ.out.free 0
      have f1 := HKZ.out.free 1
      have f2 := HKZ.out.free 2
      have f3 := HKZ.out.free 3
      have e0 := HKZ.out.cell (j := 0) rfl
      have e1 := HKZ.out.cell (j := 1) rfl
      have e2 := HKZ.out.cell (j := 2) rfl
      have e3 := HKZ.out.cell (j := 3) rfl
      have l9 : we.heap.size < ww.heap.size := HKZ.out.lt
      have lb := HBE.out.size
      have hg := grown_set4 ww (we.heap.size) (.slice A9 na9 ca9) (.int .i64 a.st) (.slice M9 nm9 cm9) (.slice E9 ne9 ce9)
      have HV := Lib.hid (HKZ.out.set4 (.slice A9 na9 ca9) (.int .i64 a.st) (.slice M9 nm9 cm9) (.slice E9 ne9 ce9))
      have HO2 := Lib.hid (HOW.out.keepB HKZ.out hg)
      have HU2 := Lib.hid (HOU.out.kept hg (own_ne_blk HOU.out HKZ.out (by decide)))
      have HF2 := Lib.hid (below_set4 (b := we.heap.size) (v0 := .slice A9 na9 ca9) (v1 := .int .i64 a.st) (v2 := .slice M9 nm9 cm9) (v3 := .slice E9 ne9 ce9) HBF.out (by omega))
      have hAf := HAU.out _ (below_set4 (b := we.heap.size) (v0 := .slice A9 na9 ca9) (v1 := .int .i64 a.st) (v2 := .slice M9 nm9 cm9) (v3 := .slice E9 ne9 ce9) HBW.out (by omega))
      go_simp
      (refine hK _ _ ⟨hAf, fun _ => hB0⟩ ?_; clear hK K; (try simp only [Act.put, List.setIfInBounds_toArray, List.set_cons_zero, List.set_cons_succ]))
      refine uOne (i := 10) rfl (by kernel_rfl) (fun K hK => ?_)
      go_simp
      (refine hK _ _ ⟨hAf, fun h => absurd (h.symm.trans (by kernel_rfl : _ = true)) Bool.false_ne_true⟩ ?_; clear hK K; (try simp only [Act.put, List.setIfInBounds_toArray, List.set_cons_zero, List.set_cons_succ]))
      refine anyU_done (by kernel_rfl) ?_ _
      clear hAf f0 f1 f2 f3 e0 e1 e2 e3 l9 hg
      go_wp2_with fail
      go_meet
      case rel => exact ⟨we.heap.size, A9, na9, ca9, M9, nm9, cm9, E9, ne9, ce9, UA, cU, rfl, rfl, HV, HO2, HU2, HF2⟩
  case rest =>
    obtain ⟨o, A9, na9, ca9, M9, nm9, cm9, E9, ne9, ce9, UA, cU, rfl, rfl, HK, HO, HU, HBC⟩ := hcut
    obtain ⟨w3, rfl⟩ : ∃ w3 : World, w3 = wc := ⟨_, rfl⟩
    obtain ⟨n, hn⟩ : ∃ n : Nat, a.st = (n : Int) := ⟨a.st.toNat, by have := HSM.out.wf.st0; omega⟩
    have hn5 : n ≤ 5 := by have := HSM.out.st; omega
    rw [hn] at HK
    rw [HUU.out] at HU HNU
    have HXW := Lib.hid (fun (W : World) (hb : Below w3.heap.size w3 W) => AutO.rd (AutO.below HO.out hb))
    have HUW := Lib.hid (fun (W : World) (hb : Below w3.heap.size w3 W) => RdI.of_own (own_below HU.out hb))
    obtain ⟨hcu1, hcu2⟩ := own_cap' HU.out
    have HBB := Lib.hid (HB2.out.trans (HBC.out.mono HB2.out.size))
    have HED := Lib.hid (EdIn.of HSM.out.wf hn)
    have HN := Lib.hid hn; clear hn
    clear HO HU HBC
    go_wp2
    go_loopw [9, 10] (fun s9 s10 wr => ∃ (k m : Nat) (v : Value), s10 = .int .i64 k ∧ s9 = v ∧ k ≤ n ∧ m ≤ k ∧ Hid ((setB bt k).length = m) ∧ Hid (wr.ownsRow w3.heap.size 3 1 v m (iv (setB bt k))) ∧ Hid (Below w3.heap.size w3 wr)) (fun _ s10 _ => n - (intOf s10).toNat)
    case atStart => exact ⟨0, 0, _, rfl, rfl, Nat.zero_le _, Nat.le_refl _, Lib.hid rfl, Lib.hid (World.ownsRow_nil _ _ _ _), Lib.hid (Below.refl _ _)⟩
    case round =>
      obtain ⟨k, m, v, rfl, rfl, hk, hm, HM, HOS, HB⟩ := hrel
      obtain ⟨SA, cS, rfl⟩ := own_shape HOS.out
      have d1 := (HK.out.below HB.out HK.out.lt).cell (j := 1) rfl
      by_cases hlt : k < n
      · have b1 : (k : Int) < (n : Int) := by omega
        have hk5 : k < 5 := by omega
        have hsz := HB.out.size
        cases hq : bitB bt k with
        | true =>
          have hb2 : (bits BinOp.and IntKind.u8 (bt / 2 ^ k) 1 == 1) = true := bit_u8 hq hbt.1 hbt.2
          have HQ := Lib.hid hq; clear hq
          go_wp2_with (at_builtin; refine wpList_push wr (.int .i64 (k : Int)) rfl (.tmp 42) (.tmp 44) 22 rfl w3.heap.size 3 (.int .i64 0) 8 Tryd.underlying22 int_info rfl (.slice SA m cS) m _ rfl HOS.out rfl rfl (by omega) (by omega) hsz ?_; intro v' w' ho' hg' hb1)
          go_roundw
          case rel => exact ⟨k + 1, m + 1, _, by go_num, rfl, by omega, by omega, Lib.hid (by rw [setB_yes HQ.out, List.length_append, HM.out]; rfl), Lib.hid (by rw [setB_yes HQ.out, iv_append]; exact ho'), Lib.hid (HB.out.trans hb1)⟩
          case measure => simp [intOf]; omega
        | false =>
          have hb2 : (bits BinOp.and IntKind.u8 (bt / 2 ^ k) 1 == 1) = false := bit_u8 hq hbt.1 hbt.2
          have HQ := Lib.hid hq; clear hq
          go_wp2
          go_roundw
          case rel => exact ⟨k + 1, m, _, by go_num, rfl, by omega, by omega, Lib.hid (by rw [setB_no HQ.out]; exact HM.out), Lib.hid (by rw [setB_no HQ.out]; exact HOS.out), HB⟩
          case measure => simp [intOf]; omega
      · obtain rfl : k = n := by omega
        obtain ⟨w4, rfl⟩ : ∃ w4 : World, w4 = wr := ⟨_, rfl⟩
        obtain ⟨LS, hLS⟩ : ∃ l, setB bt k = l := ⟨_, rfl⟩
        have HLI := Lib.hid (show Inc LS by rw [← hLS]; exact setB_inc bt k)
        have HLR := Lib.hid (show ∀ z ∈ LS, 0 ≤ z ∧ z < (k : Int) by rw [← hLS]; intro z hz; obtain ⟨i, h1, rfl, _⟩ := setB_mem.1 hz; omega)
        rw [hLS] at HM HOS
        have HSW := Lib.hid (fun (W : World) (hb : Below w4.heap.size w4 W) => RdI.of_own (own_below HOS.out hb))
        obtain ⟨hcs1, hcs2⟩ := own_cap' HOS.out
        have HCK := Lib.hid (ckS_zero HSM.out.wf HN.out HLI.out HLR.out HUI.out HUR.out)
        have HX4 := Lib.hid (fun (W : World) (hb : Below w4.heap.size w4 W) => HXW.out W (HB.out.trans (hb.mono HB.out.size)))
        have HU4 := Lib.hid (fun (W : World) (hb : Below w4.heap.size w4 W) => HUW.out W (HB.out.trans (hb.mono HB.out.size)))
        have HK4 := Lib.hid (HK.out.below HB.out HK.out.lt)
        have HB4 := Lib.hid (HBB.out.trans (HB.out.mono HBB.out.size))
        have HR4 := Lib.hid (Below.refl w4.heap.size w4)
        clear hLS HOS HB HK HXW HUW HBB d1 hlt
        have HK := HK4
        clear HK4
        have HC := Lib.hid (forward_ok A9 M9 E9 na9 ca9 nm9 cm9 ne9 ce9 a SA cS m LS UA cU nu u k w4 (HX4.out _ HR4.out) HN.out HM.out (HSW.out _ HR4.out) hcs1 hcs2 HNU.out (HU4.out _ HR4.out) hcu1 hcu2 HCK.out)
        rw [HN.out] at HC
        have kx := HK.out.below HR4.out HK.out.lt
        have a0 := kx.cell (j := 0) rfl
        have a1 := kx.cell (j := 1) rfl
        have a2 := kx.cell (j := 2) rfl
        have a3 := kx.cell (j := 3) rfl
        have la := kx.lt
        clear kx
        have b9 : ¬ (k : Int) < (k : Int) := by omega
        go_wp2_with fail
        refine HC.out.mono ?_
        rintro e w5 ⟨vF, rfl, hoF, hb⟩
        obtain ⟨LF, hLF⟩ : ∃ l, clS a.ed u false k LS = l := ⟨_, rfl⟩
        obtain ⟨nF, hnF⟩ : ∃ q, LF.length = q := ⟨_, rfl⟩
        rw [hLF, hnF] at hoF
        obtain ⟨AF, cF, rfl⟩ := own_shape hoF
        have HB5 := Lib.hid (HR4.out.trans (hb.mono HR4.out.size))
        have HFW := Lib.hid (fun (W : World) (hw : Below w5.heap.size w5 W) => RdI.of_own (own_below hoF hw))
        obtain ⟨hcF1, hcF2⟩ := own_cap' hoF
        have HFI := Lib.hid (show Inc LF by rw [← hLF]; exact clS_inc)
        have HFR := Lib.hid (show ∀ z ∈ LF, 0 ≤ z ∧ z < (k : Int) by rw [← hLF]; exact clS_rng)
        have HF1 := Lib.hid (show a.ed.any (lvB LF u) = false by rw [← hLF]; exact inv_fwd HLR.out HED.out)
        have HF2 := Lib.hid (show ∀ z ∈ LS, z ∈ LF by rw [← hLF]; exact clS_sub HLR.out HED.out)
        have hnF5 : nF ≤ k := by have := clS_len (ed := a.ed) (V := u) (back := false) (n := k) (set := LS); rw [hLF, hnF] at this; exact this
        have HLF := Lib.hid hLF; clear hLF
        have HNF := Lib.hid hnF; clear hnF
        clear a0 a1 a2 a3 la HC
        clear hb hoF b9
        have HC := Lib.hid (backward_ok A9 M9 E9 na9 ca9 nm9 cm9 ne9 ce9 a SA cS m LS UA cU nu u k w5 (HX4.out _ HB5.out) HN.out HM.out (HSW.out _ HB5.out) hcs1 hcs2 HNU.out (HU4.out _ HB5.out) hcu1 hcu2 HCK.out)
        rw [HN.out] at HC
        have kx := HK.out.below HB5.out HK.out.lt
        have a0 := kx.cell (j := 0) rfl
        have a1 := kx.cell (j := 1) rfl
        have a2 := kx.cell (j := 2) rfl
        have a3 := kx.cell (j := 3) rfl
        have la := kx.lt
        clear kx
        go_wp2_with fail
        refine HC.out.mono ?_
        rintro e w6 ⟨vB, rfl, hoB, hb⟩
        obtain ⟨LB, hLB⟩ : ∃ l, clS a.ed u true k LS = l := ⟨_, rfl⟩
        obtain ⟨nB, hnB⟩ : ∃ q, LB.length = q := ⟨_, rfl⟩
        rw [hLB, hnB] at hoB
        obtain ⟨AB, cB, rfl⟩ := own_shape hoB
        have HB6 := Lib.hid (HB5.out.trans (hb.mono HB5.out.size))
        have HB56 := Lib.hid hb
        have HBW := Lib.hid (fun (W : World) (hw : Below w6.heap.size w6 W) => RdI.of_own (own_below hoB hw))
        obtain ⟨hcB1, hcB2⟩ := own_cap' hoB
        have HBI := Lib.hid (show Inc LB by rw [← hLB]; exact clS_inc)
        have HF3 := Lib.hid (show ∀ z ∈ LS, z ∈ LB by rw [← hLB]; exact clS_sub HLR.out HED.out)
        have HF4 := Lib.hid (show a.ed.any (lvB (minS (rngI (k : Int)) LB) u) = false by rw [← hLB]; exact inv_back HLR.out HED.out)
        have hnB5 : nB ≤ k := by have := clS_len (ed := a.ed) (V := u) (back := true) (n := k) (set := LS); rw [hLB, hnB] at this; exact this
        have HNB := Lib.hid hnB; clear hnB
        clear a0 a1 a2 a3 la HC
        clear hb hoB hLB
        go_wp2
        go_loopw [15, 16] (fun s15 s16 wr => ∃ (j q : Nat) (v : Value), s16 = .int .i64 j ∧ s15 = v ∧ j ≤ k ∧ q ≤ j ∧ Hid ((minS (rngI (j : Int)) LB).length = q) ∧ Hid (wr.ownsRow w6.heap.size 3 1 v q (iv (minS (rngI (j : Int)) LB))) ∧ Hid (Below w6.heap.size w6 wr)) (fun _ s16 _ => k - (intOf s16).toNat)
        case atStart => exact ⟨0, 0, _, rfl, rfl, Nat.zero_le _, Nat.le_refl _, Lib.hid rfl, Lib.hid (World.ownsRow_nil _ _ _ _), Lib.hid (Below.refl _ _)⟩
        case round =>
          obtain ⟨j, q, v, rfl, rfl, hj, hq, HQL, HOR, HB⟩ := hrel
          obtain ⟨RA, cR, rfl⟩ := own_shape HOR.out
          have hB4 := HB6.out.trans (HB.out.mono HB6.out.size)
          have d1 := (HK.out.below hB4 HK.out.lt).cell (j := 1) rfl
          by_cases hlt : j < k
          · have b1 : (j : Int) < (k : Int) := by omega
            have hsz := HB.out.size
            obtain ⟨hv, hhv⟩ : ∃ b, hasB LB (j : Int) = b := ⟨_, rfl⟩
            have HH := Lib.hid (law_has AB cB nB LB (j : Int) hv wr HNB.out (HBW.out wr HB.out) (by omega) hhv)
            have HSN := Lib.hid (minS_snoc LB j)
            rw [hhv] at HSN
            clear hhv hB4
            cases hv with
            | true =>
              go_wp2_with fail
              refine HH.out.mono ?_
              rintro e wx ⟨rfl, rfl⟩
              go_wp2
              go_roundw
              case rel => exact ⟨j + 1, q, _, by go_num, rfl, by omega, by omega, Lib.hid (by rw [HSN.out]; simpa using HQL.out), Lib.hid (by rw [HSN.out]; simpa using HOR.out), HB⟩
              case measure => simp [intOf]; omega
            | false =>
              go_wp2_with fail
              refine HH.out.mono ?_
              rintro e wx ⟨rfl, rfl⟩
              go_wp2_with (at_builtin; refine wpList_push wr (.int .i64 (j : Int)) rfl (.tmp 70) (.tmp 72) 22 rfl w6.heap.size 3 (.int .i64 0) 8 Tryd.underlying22 int_info rfl (.slice RA q cR) q _ rfl HOR.out rfl rfl (by omega) (by omega) hsz ?_; intro v' w' ho' hg' hb1)
              go_roundw
              case rel => exact ⟨j + 1, q + 1, _, by go_num, rfl, by omega, by omega, Lib.hid (by rw [HSN.out, if_neg (by simp), List.length_append, HQL.out]; rfl), Lib.hid (by rw [HSN.out, if_neg (by simp), iv_append]; exact ho'), Lib.hid (HB.out.trans hb1)⟩
              case measure => simp [intOf]; omega
          · obtain rfl : j = k := by omega
            obtain ⟨w7, rfl⟩ : ∃ w7 : World, w7 = wr := ⟨_, rfl⟩
            obtain ⟨LR, hLR⟩ : ∃ l, minS (rngI (j : Int)) LB = l := ⟨_, rfl⟩
            have HRI := Lib.hid (show Inc LR by rw [← hLR]; exact keep_inc (rng_inc _))
            have HRR := Lib.hid (show ∀ z ∈ LR, 0 ≤ z ∧ z < (j : Int) by rw [← hLR]; intro z hz; exact rngI_mem.1 (minS_mem.1 hz).1)
            rw [hLR] at HQL HOR HF4
            have HB7 := Lib.hid hB4
            have HB67 := HB
            have HRW := Lib.hid (fun (W : World) (hw : Below w7.heap.size w7 W) => RdI.of_own (own_below HOR.out hw))
            obtain ⟨hcR1, hcR2⟩ := own_cap' HOR.out
            have HR7 := Lib.hid (Below.refl w7.heap.size w7)
            have HB57 := Lib.hid (HB56.out.trans (HB67.out.mono HB56.out.size))
            have HCF := Lib.hid (ckS_zero HSM.out.wf HN.out HFI.out HFR.out HUI.out HUR.out)
            have HCR := Lib.hid (ckS_zero HSM.out.wf HN.out HRI.out HRR.out HUI.out HUR.out)
            have HC := Lib.hid (invariant_ok A9 M9 E9 na9 ca9 nm9 cm9 ne9 ce9 a AF cF nF LF UA cU nu u w7 (HX4.out _ HB7.out) HNF.out (HFW.out _ HB57.out) hcF1 hcF2 HNU.out (HU4.out _ HB7.out) hcu1 hcu2 HCF.out false HF1.out)
            rw [HN.out] at HC
            have b9 : ¬ (j : Int) < (j : Int) := by omega
            clear hlt hLR hB4 HOR
            have kx := HK.out.below HB7.out HK.out.lt
            have a0 := kx.cell (j := 0) rfl
            have a1 := kx.cell (j := 1) rfl
            have a2 := kx.cell (j := 2) rfl
            have a3 := kx.cell (j := 3) rfl
            have la := kx.lt
            clear kx
            go_wp2_with fail
            refine HC.out.mono ?_
            rintro e w8 ⟨rfl, hb⟩
            have HB8 := Lib.hid (HB7.out.trans (hb.mono HB7.out.size))
            have HB78 := Lib.hid hb
            clear a0 a1 a2 a3 la HC
            clear hb d1 b9
            have HC := Lib.hid (invariant_ok A9 M9 E9 na9 ca9 nm9 cm9 ne9 ce9 a RA cR q LR UA cU nu u w8 (HX4.out _ HB8.out) HQL.out (HRW.out _ HB78.out) hcR1 hcR2 HNU.out (HU4.out _ HB8.out) hcu1 hcu2 HCR.out false HF4.out)
            rw [HN.out] at HC
            have kx := HK.out.below HB8.out HK.out.lt
            have a0 := kx.cell (j := 0) rfl
            have a1 := kx.cell (j := 1) rfl
            have a2 := kx.cell (j := 2) rfl
            have a3 := kx.cell (j := 3) rfl
            have la := kx.lt
            clear kx
            go_wp2_with fail
            refine HC.out.mono ?_
            rintro e w9 ⟨rfl, hb⟩
            have HB9 := Lib.hid (HB8.out.trans (hb.mono HB8.out.size))
            have HB79 := Lib.hid (HB78.out.trans (hb.mono HB78.out.size))
            have HB59 := Lib.hid (HB57.out.trans (HB79.out.mono HB57.out.size))
            have HB69 := Lib.hid (HB67.out.trans (HB79.out.mono HB67.out.size))
            clear a0 a1 a2 a3 la HC
            clear hb
            have HC := Lib.hid (alphabet_Subset SA AF m nF cS cF LS LF true w9 HM.out (HSW.out _ HB9.out) hcs1 hcs2 HNF.out (HFW.out _ HB59.out) hcF1 hcF2 (by omega) HLI.out HFI.out (by rw [minS_zero HF2.out]; rfl))
            go_wp2_with fail
            refine HC.out.mono ?_
            rintro e wa ⟨rfl, hb⟩
            have HBa := Lib.hid (HB9.out.trans (hb.mono HB9.out.size))
            have HB6a := Lib.hid (HB69.out.trans (hb.mono HB69.out.size))
            clear hb HC
            have HC := Lib.hid (alphabet_Subset SA AB m nB cS cB LS LB true wa HM.out (HSW.out _ HBa.out) hcs1 hcs2 HNB.out (HBW.out _ HB6a.out) hcB1 hcB2 (by omega) HLI.out HBI.out (by rw [minS_zero HF3.out]; rfl))
            go_wp2_with fail
            refine HC.out.mono ?_
            rintro e wb ⟨rfl, hb⟩
            have HF := Lib.hid (HB4.out.trans ((HBa.out.trans (hb.mono HBa.out.size)).mono HB4.out.size))
            clear hb HC
            go_wp2
            go_ret
            exact ⟨rfl, HF.out⟩
end Go.Proofs.YtcchnibgehonoaaDoor
