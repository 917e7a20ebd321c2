/- The law ProductSteps: its walk. -/
import Derived.Test.YtbdliebjalghmaaDoorOc
import Derived.Test.YtbdliebjalghmaaDoorOa
import Derived.Test.YtbdliebjalghmaaDoorGf
import Derived.Test.YtbdliebjalghmaaDoorRe
import Derived.Test.YtbdliebjalghmaaDoorMn
namespace Go.Proofs.YtbdliebjalghmaaDoor
open Go.RowKit Go Go.Maps

theorem hasB_succ {l : List Int} {k : Nat} {x v : Int} (h : l[k]? = some x) : hasB (l.take (k + 1)) v = (hasB (l.take k) v || (x == v)) := by
  rw [take_snoc' h, Bool.eq_iff_iff, Bool.or_eq_true, hasB_mem, hasB_mem, List.mem_append, List.mem_singleton, beq_iff_eq]
  exact ⟨fun h => h.imp id Eq.symm, fun h => h.imp id Eq.symm⟩


set_option maxRecDepth 100000 in
set_option maxHeartbeats 6400000 in
theorem steps_long (L : Option Addr) (c n : Nat) (ps : List Pt) (T : Option Addr) (ct nt : Nat) (t : List Int) (v : Int) (w : World) (hl : ps.length = n) (h : RdP w w.heap.size L ps) (ht : t.length = nt) (hT : RdI w w.heap.size T t) (hn : 4 < nt) :
    Calls Tryd.prog 9 #[.slice L n c, .slice T nt ct, .int .i64 v] w fun e w' => e = .returned (.bool true) ∧ Below w.heap.size w w' := by
  have b4 : (4 : Int) < (nt : Int) := by omega
  have HK := Lib.hid (law_known w)
  have HL := Lib.hid hl; clear hl
  have HX := Lib.hid h; clear h
  have HT := Lib.hid hT; clear hT
  have HTL := Lib.hid ht; clear ht
  go_enter Tryd.func9, Tryd.ntmps9
  go_wp2_with fail
  refine HK.out.mono ?_
  rintro e w1 ⟨rfl, hb1⟩
  have HK2 := Lib.hid (law_known w1)
  have HB1 := Lib.hid hb1; clear hb1
  clear HK
  go_wp2_with fail
  refine HK2.out.mono ?_
  rintro e w2 ⟨rfl, hb2⟩
  go_wp2
  go_ret
  exact ⟨rfl, HB1.out.trans (hb2.mono HB1.out.size)⟩

set_option maxRecDepth 100000 in
set_option maxHeartbeats 6400000 in
theorem steps_walk (L : Option Addr) (c n : Nat) (ps : List Pt) (T : Option Addr) (ct nt : Nat) (t : List Int) (v : Int) (w : World) (hl : ps.length = n) (h : RdP w w.heap.size L ps) (ht : t.length = nt) (hT : RdI w w.heap.size T t) (hct : nt ≤ ct) (hct2 : ct ≤ 9223372036854775807) (hn : ¬ 4 < nt) :
    Calls Tryd.prog 9 #[.slice L n c, .slice T nt ct, .int .i64 v] w fun e w' => e = .returned (.bool true) ∧ Below w.heap.size w w' := by
  have HK := Lib.hid (law_known w)
  have HL := Lib.hid hl; clear hl
  have HX := Lib.hid h; clear h
  have HT := Lib.hid hT; clear hT
  have HTL := Lib.hid ht; clear ht
  go_enter Tryd.func9, Tryd.ntmps9
  go_wp2_with fail
  refine HK.out.mono ?_
  rintro e w1 ⟨rfl, hb1⟩
  have HLI := Lib.hid (law_List L c n ps w1 HL.out ⟨(HX.out.1.below hb1).more hb1.size, HX.out.2⟩)
  have b4 : decide ((4 : Int) < (nt : Int)) = false := decide_eq_false (by omega)
  have HB1 := Lib.hid hb1; clear hb1
  clear HK
  go_wp2_with fail
  refine HLI.out.mono ?_
  rintro e w2 ⟨A2, n2, c2, xs, rfl, hm2, hl2, hc1, hc2, hr2, hb2⟩
  have HF := Lib.hid (show FewL (xs.map AV.a) by rw [hm2]; exact lst_few HX.out.2)
  have hB2 := HB1.out.trans (hb2.mono HB1.out.size)
  have HT2 := Lib.hid ((HT.out.below hB2).more hB2.size)
  have HL2 := Lib.hid hl2; clear hl2
  have HR2 := Lib.hid hr2; clear hr2
  have HB2 := Lib.hid hB2; clear hB2
  clear hb2 HLI HB1 hm2 HL HX HT b4
  by_cases hlen : nt = n2
  · subst hlen
    have hck : chkT (xs.map AV.a) t = tupG (xs.map AV.a) t := by
      unfold chkT
      rw [if_neg (by rw [HF.out.chk]; simp), if_neg (by rw [List.length_map, HL2.out, HTL.out]; simp)]
    have HCK := Lib.hid hck; clear hck
    go_wp2
    go_loopw [8, 9] (fun s8 s9 wr => ∃ (k : Nat) (y : Int), s9 = .int .i64 k ∧ s8 = .int .i64 y ∧ k ≤ nt ∧ Hid ((y = 0 ∧ tupG (xs.map AV.a) t = tupG ((xs.map AV.a).drop k) (t.drop k)) ∨ (y ≠ 0 ∧ tupG (xs.map AV.a) t = y)) ∧ Below w2.heap.size w2 wr) (fun _ s9 _ => nt - (intOf s9).toNat)
    case atStart => exact ⟨0, 0, rfl, rfl, Nat.zero_le _, Lib.hid (.inl ⟨rfl, rfl⟩), Below.refl _ _⟩
    case round =>
      obtain ⟨k, y, rfl, rfl, hk, HQ, hbel⟩ := hrel
      have hsz := hbel.size
      rcases HQ.out with ⟨rfl, hq⟩ | ⟨hy, hq⟩
      · by_cases hlt : k < nt
        · obtain ⟨ad, A', na, ca, M, nm, cm, E, ne, ce, a, rfl, hbb, hx, q0, q1, q2, q3, haR⟩ := ((HR2.out.below hbel).more hsz).at_ (k := k) (by have := HL2.out; omega)
          obtain ⟨td, x, rfl, hbt, hts, hcs⟩ := ((HT2.out.below hbel).more hsz).at_ (k := k) (by have := HTL.out; omega)
          have b1 : (k : Int) < (nt : Int) := by omega
          have p1 : wr.cell? ⟨(ad.add (k * 4)).block, (ad.add (k * 4)).off + 1, none⟩ = some (.int .i64 a.st) := st_cells (j := 0) q1
          have hxa : (xs.map AV.a)[k]? = some a := by simp [hx]
          have HXX := Lib.hid hx; clear hx
          have HXA := Lib.hid hxa; clear hxa
          have HTS := Lib.hid hts; clear hts
          have HQQ := Lib.hid hq; clear hq
          clear q0 q1 q2 q3 haR HQ
          by_cases h1 : x < 0
          · have d1 : decide (x < 0) = true := decide_eq_true h1
            go_wp2
            go_quiet (fail)
            go_wp2
            go_roundw
            case rel => exact ⟨k + 1, 2, by go_num, rfl, by omega, Lib.hid (.inr ⟨by omega, by rw [HQQ.out]; exact tupG_bad HXA.out HTS.out (.inl h1)⟩), below_drewN hbel _⟩
            case measure => simp [intOf]; omega
          · have d1 : decide (x < 0) = false := decide_eq_false h1
            by_cases h2 : a.st ≤ x
            · have d2 : decide (a.st ≤ x) = true := decide_eq_true h2
              go_wp2
              go_quiet (fail)
              go_wp2
              go_roundw
              case rel => exact ⟨k + 1, 2, by go_num, rfl, by omega, Lib.hid (.inr ⟨by omega, by rw [HQQ.out]; exact tupG_bad HXA.out HTS.out (.inr h2)⟩), below_drewN hbel _⟩
              case measure => simp [intOf]; omega
            · have d2 : decide (a.st ≤ x) = false := decide_eq_false h2
              go_wp2
              go_quiet (fail)
              go_wp2
              go_roundw
              case rel => exact ⟨k + 1, 0, by go_num, rfl, by omega, Lib.hid (.inl ⟨rfl, by rw [HQQ.out]; exact tupG_go HXA.out HTS.out (by omega)⟩), below_drewN hbel _⟩
              case measure => simp [intOf]; omega
        · have hq : chkT (xs.map AV.a) t = 0 := by rw [HCK.out, hq]; exact tupG_end (by rw [List.length_map, HL2.out]; exact hlt)
          have b1 : decide ((k : Int) < (nt : Int)) = false := decide_eq_false (by omega)
          clear HQ HCK
          have HE := Lib.hid (enabled_ok A2 c2 nt xs T ct nt t wr HL2.out ((HR2.out.below hbel).more hbel.size) hc1 hc2 ((HT2.out.below hbel).more hbel.size) HTL.out hct hq)
          obtain ⟨el, hel⟩ : ∃ el, enaL (xs.map AV.a) t (evs (xs.map AV.a)) = el := ⟨_, rfl⟩
          obtain ⟨ne, hne⟩ : ∃ ne, el.length = ne := ⟨_, rfl⟩
          obtain ⟨mk, hmk⟩ : ∃ mk, mkT (xs.map AV.a) t = mk := ⟨_, rfl⟩
          rw [hel] at HE
          have HQ := Lib.hid hq; clear hq
          have HBEL := Lib.hid hbel; clear hbel
          have HEL := Lib.hid hel; clear hel
          have HNE := Lib.hid hne; clear hne
          have HMK := Lib.hid hmk; clear hmk
          go_wp2_with fail
          refine HE.out.mono ?_
          rintro e w4 ⟨v4, rfl, ho4, hb4⟩
          rw [HNE.out] at ho4
          obtain ⟨A4, c4, rfl⟩ := own_shape ho4
          have hB4 := HBEL.out.trans (hb4.mono HBEL.out.size)
          have HM := Lib.hid (marked_ok A2 c2 nt xs T ct nt t w4 HL2.out ((HR2.out.below hB4).more hB4.size) hc1 hc2 ((HT2.out.below hB4).more hB4.size) HTL.out hct HQ.out)
          rw [HMK.out] at HM
          have HO4 := Lib.hid (RdI.of_own ho4)
          have hcap4 := own_cap' ho4
          have HC4 := Lib.hid hcap4; clear hcap4
          have HB4 := Lib.hid hB4; clear hB4
          clear ho4 hb4 HE HBEL
          go_wp2_with fail
          refine HM.out.mono ?_
          rintro e wx ⟨rfl, hbx⟩
          have hBx := HB4.out.trans (hbx.mono HB4.out.size)
          have HO4 := Lib.hid ((HO4.out.below hbx).more hbx.size)
          have HRE := Lib.hid (ref_Enabled A2 c2 nt xs T ct t wx HL2.out ((HR2.out.below hBx).more hBx.size) hc1 hc2 (by omega) HTL.out ((HT2.out.below hBx).more hBx.size) hct hct2 HF.out.wf)
          rw [HEL.out] at HRE
          have HBX := Lib.hid hBx; clear hBx
          clear hbx HM HB4
          go_wp2_with fail
          refine HRE.out.mono ?_
          rintro e wy ⟨vy, rfl, hoy, hby⟩
          rw [HNE.out] at hoy
          obtain ⟨AY, cy, rfl⟩ := own_shape hoy
          have hBy := HBX.out.trans (hby.mono HBX.out.size)
          have HSM := Lib.hid (law_same_n A4 AY c4 cy ne ne el el true wy HNE.out HNE.out (eqB_of rfl) ((HO4.out.below hby).more hby.size) HC4.out.1 HC4.out.2 (RdI.of_own hoy))
          have HBY := Lib.hid hBy; clear hBy
          clear hby hoy HRE HBX
          go_wp2_with fail
          refine HSM.out.mono ?_
          rintro e wz ⟨rfl, m, hm⟩
          have hbz : Below wy.heap.size wy wz := by rw [hm]; exact below_drewN (Below.refl _ _) m
          have hBz := HBY.out.trans (hbz.mono HBY.out.size)
          have HRM := Lib.hid (ref_Marked A2 c2 nt xs T ct t mk wz HL2.out ((HR2.out.below hBz).more hBz.size) hc1 hc2 HTL.out ((HT2.out.below hBz).more hBz.size) hct hct2 HMK.out)
          have HBZ := Lib.hid hBz; clear hBz
          clear hbz hm HSM HBY
          go_wp2_with fail
          refine HRM.out.mono ?_
          rintro e w5 ⟨rfl, m2, hm⟩
          have hB5 : Below w2.heap.size w2 w5 := by rw [hm]; exact below_drewN HBZ.out m2
          clear hm HRM HBZ
          have HAL := Lib.hid (ref_Alphabet6 A2 c2 nt xs w5 HL2.out ((HR2.out.below hB5).more hB5.size) hc1 hc2 HF.out.wf)
          have HB5 := Lib.hid hB5
          clear hB5
          go_wp2_with fail
          refine HAL.out.mono ?_
          rintro e w6 ⟨v6, rfl, ho6, hb6⟩
          obtain ⟨A6, c6, rfl⟩ := own_shape ho6
          have hB6 := HB5.out.trans (hb6.mono HB5.out.size)
          obtain ⟨VV, hVV⟩ : ∃ VV, evs (xs.map AV.a) = VV := ⟨_, rfl⟩
          rw [hVV] at ho6
          obtain ⟨nv, hnv⟩ : ∃ nv, VV.length = nv := ⟨_, rfl⟩
          have hle : nv ≤ 32 := by rw [← hnv, ← hVV]; exact evs_le HF.out.wf
          rw [hVV, hnv]
          rw [hnv] at ho6
          have HRV := Lib.hid (RdI.of_own ho6)
          have HVV := Lib.hid hVV; clear hVV
          have HNV := Lib.hid hnv; clear hnv
          have HB6 := Lib.hid hB6; clear hB6
          clear ho6 hb6 HAL HB5
          go_wp2
          go_loopw [15, 16] (fun s15 s16 wr => ∃ (k : Nat), s16 = .int .i64 k ∧ k ≤ nv ∧ s15 = .bool (hasB (VV.take k) v) ∧ wr = w6) (fun _ s16 _ => nv - (intOf s16).toNat)
          case atStart => exact ⟨0, rfl, Nat.zero_le _, rfl, rfl⟩
          case round =>
            obtain ⟨k2, rfl, hk2, rfl, rfl⟩ := hrel
            by_cases hlt2 : k2 < nv
            · obtain ⟨vd, x, rfl, _, hve, hvc⟩ := HRV.out.at_ (k := k2) (by have := HNV.out; omega)
              have b1 : (k2 : Int) < (nv : Int) := by omega
              have hsu := hasB_succ (v := v) hve
              cases hh : hasB (VV.take k2) v with
              | true =>
                rw [hh] at hsu
                have HSU := Lib.hid hsu; clear hsu
                have HVE := Lib.hid hve; clear hve
                have HHH := Lib.hid hh; clear hh
                go_wp2
                go_roundw
                case rel => exact ⟨k2 + 1, by go_num, by omega, (by rw [HSU.out]; rfl), by first | trivial | rfl⟩
                case measure => simp [intOf]; omega
              | false =>
                rw [hh] at hsu
                have HSU := Lib.hid hsu; clear hsu
                have HVE := Lib.hid hve; clear hve
                have HHH := Lib.hid hh; clear hh
                go_wp2
                go_roundw
                case rel => exact ⟨k2 + 1, by go_num, by omega, (by rw [HSU.out]; rfl), by first | trivial | rfl⟩
                case measure => simp [intOf]; omega
            · have hfin : hasB (VV.take k2) v = hasB VV v := by rw [List.take_of_length_le (by have := HNV.out; omega)]
              rw [hfin]
              clear hfin
              cases hev : hasB VV v with
              | false =>
                have HQV := Lib.hid (show chkV (xs.map AV.a) t v = 9 by unfold chkV; rw [if_neg (by rw [HQ.out]; simp), HVV.out, hev]; rfl)
                have HY := Lib.hid (show (9 : Int) ≠ 0 by omega)
                clear hev
                have HS := Lib.hid (step_err A2 c2 nt xs T ct nt t v wr HL2.out ((HR2.out.below HB6.out).more HB6.out.size) hc1 hc2 ((HT2.out.below HB6.out).more HB6.out.size) HTL.out (by rw [HQV.out]; exact HY.out))
                rw [HQV.out] at HS
                go_wp2_with fail
                refine HS.out.mono ?_
                rintro e w7 ⟨rfl, hb7⟩
                have hB7 := HB6.out.trans (hb7.mono HB6.out.size)
                have HR := Lib.hid (refusers_err A2 c2 nt xs T ct nt t v w7 HL2.out ((HR2.out.below hB7).more hB7.size) hc1 hc2 ((HT2.out.below hB7).more hB7.size) HTL.out (by rw [HQV.out]; exact HY.out))
                rw [HQV.out] at HR
                have HB7 := Lib.hid hB7; clear hB7
                clear hb7 HS
                go_wp2_with fail
                refine HR.out.mono ?_
                rintro e w8 ⟨v8, rfl, ho8, hb8⟩
                obtain ⟨A8, c8, rfl⟩ := own_shape ho8
                have hB8 := HB2.out.trans ((HB7.out.trans (hb8.mono HB7.out.size)).mono HB2.out.size)
                have HB8 := Lib.hid hB8; clear hB8
                clear hb8 ho8 HR
                go_wp2
                go_ret
                exact ⟨rfl, HB8.out⟩
              | true =>
                have hqv : chkV (xs.map AV.a) t v = 0 := by unfold chkV; rw [if_neg (by rw [HQ.out]; simp), HVV.out, hev]; rfl
                have HS := Lib.hid (step_ok A2 c2 nt xs T ct nt t v wr HL2.out ((HR2.out.below HB6.out).more HB6.out.size) hc1 hc2 ((HT2.out.below HB6.out).more HB6.out.size) HTL.out hct hqv)
                obtain ⟨ob, hob⟩ : ∃ ob, (stp (xs.map AV.a) t v).isSome = ob := ⟨_, rfl⟩
                obtain ⟨ol, hol⟩ : ∃ ol, (stp (xs.map AV.a) t v).getD [] = ol := ⟨_, rfl⟩
                obtain ⟨no, hno⟩ : ∃ no, ol.length = no := ⟨_, rfl⟩
                rw [hob, hol, hno] at HS
                have HQV := Lib.hid hqv; clear hqv
                have HOB := Lib.hid hob; clear hob
                have HOL := Lib.hid hol; clear hol
                have HNO := Lib.hid hno; clear hno
                clear hev
                go_wp2_with fail
                refine HS.out.mono ?_
                rintro e w7 ⟨u7, rfl, ho7, hb7⟩
                obtain ⟨A7, c7, rfl⟩ := own_shape ho7
                have hB7 := HB6.out.trans (hb7.mono HB6.out.size)
                have HR := Lib.hid (refusers_ok A2 c2 nt xs T ct nt t v w7 HL2.out ((HR2.out.below hB7).more hB7.size) hc1 hc2 ((HT2.out.below hB7).more hB7.size) HTL.out HQV.out)
                obtain ⟨rl, hrl⟩ : ∃ rl, rfsG (xs.map AV.a) t v 0 = rl := ⟨_, rfl⟩
                obtain ⟨nr, hnr⟩ : ∃ nr, rl.length = nr := ⟨_, rfl⟩
                rw [hrl] at HR
                have HO7 := Lib.hid (RdI.of_own ho7)
                have hcap7 := own_cap' ho7
                have HC7 := Lib.hid hcap7; clear hcap7
                have HB7 := Lib.hid hB7; clear hB7
                have HRL := Lib.hid hrl; clear hrl
                have HNR := Lib.hid hnr; clear hnr
                clear hb7 HS ho7
                go_wp2_with fail
                refine HR.out.mono ?_
                rintro e w8 ⟨v8, rfl, ho8, hb8⟩
                rw [HNR.out] at ho8
                obtain ⟨A8, c8, rfl⟩ := own_shape ho8
                have hB8 := HB7.out.trans (hb8.mono HB7.out.size)
                have HSR := Lib.hid (ref_Step6 A2 c2 nt xs T ct t v w8 HL2.out ((HR2.out.below hB8).more hB8.size) (by omega) HTL.out ((HT2.out.below hB8).more hB8.size) hct hct2)
                rw [HOB.out, HOL.out] at HSR
                have HO7 := Lib.hid ((HO7.out.below hb8).more hb8.size)
                have HO8 := Lib.hid (RdI.of_own ho8)
                have hcap8 := own_cap' ho8
                have HC8 := Lib.hid hcap8; clear hcap8
                have HB8 := Lib.hid hB8; clear hB8
                clear hb8 HR ho8
                go_wp2_with fail
                refine HSR.out.mono ?_
                rintro e w9 ⟨v9, rfl, ho9, hb9⟩
                rw [HNO.out] at ho9
                obtain ⟨A9, c9, rfl⟩ := own_shape ho9
                have hB9 := HB8.out.trans (hb9.mono HB8.out.size)
                have HSM := Lib.hid (law_same_n A7 A9 c7 c9 no no ol ol true w9 HNO.out HNO.out (eqB_of rfl) ((HO7.out.below hb9).more hb9.size) HC7.out.1 HC7.out.2 (RdI.of_own ho9))
                have HO8 := Lib.hid ((HO8.out.below hb9).more hb9.size)
                have HB9 := Lib.hid hB9; clear hB9
                clear hb9 HSR ho9
                go_wp2_with fail
                refine HSM.out.mono ?_
                rintro e wa ⟨rfl, m, hm⟩
                have hba : Below w9.heap.size w9 wa := by rw [hm]; exact below_drewN (Below.refl _ _) m
                have hBa := HB9.out.trans (hba.mono HB9.out.size)
                have HRR := Lib.hid (ref_Refusers A2 c2 nt xs T ct t v wa HL2.out ((HR2.out.below hBa).more hBa.size) (by omega) HTL.out ((HT2.out.below hBa).more hBa.size) hct hct2)
                rw [HRL.out] at HRR
                have HO8 := Lib.hid ((HO8.out.below hba).more hba.size)
                have HBA := Lib.hid hBa; clear hBa
                clear hba hm HSM
                go_wp2_with fail
                refine HRR.out.mono ?_
                rintro e wb ⟨vb, rfl, hob2, hbb⟩
                rw [HNR.out] at hob2
                obtain ⟨AB, cb, rfl⟩ := own_shape hob2
                have hBb := HBA.out.trans (hbb.mono HBA.out.size)
                have HSM := Lib.hid (law_same_n A8 AB c8 cb nr nr rl rl true wb HNR.out HNR.out (eqB_of rfl) ((HO8.out.below hbb).more hbb.size) HC8.out.1 HC8.out.2 (RdI.of_own hob2))
                have HBB := Lib.hid hBb; clear hBb
                clear hbb hob2 HRR
                go_wp2_with fail
                refine HSM.out.mono ?_
                rintro e wc ⟨rfl, m2, rfl⟩
                go_wp2
                go_ret
                exact ⟨rfl, below_drewN (HB2.out.trans (HBB.out.mono HB2.out.size)) _⟩
      · have hq : chkT (xs.map AV.a) t = y := by rw [HCK.out, hq]
        clear HQ HCK
        by_cases hlt : k < nt
        · have b1 : (k : Int) < (nt : Int) := by omega
          have q1 : (y != 0) = true := by first | decide | simpa using hy
          have q2 : (y == 0) = false := by first | decide | simpa using hy
          have hne : chkT (xs.map AV.a) t ≠ 0 := by rw [hq]; exact hy
          have HQV := Lib.hid (show chkV (xs.map AV.a) t v = y by unfold chkV; rw [if_pos hne, hq])
          have HE := Lib.hid (enabled_err A2 c2 nt xs T ct nt t wr HL2.out ((HR2.out.below hbel).more hbel.size) hc1 hc2 ((HT2.out.below hbel).more hbel.size) HTL.out hne)
          rw [hq] at HE
          have HY := Lib.hid hy; clear hy
          have HNE := Lib.hid hne; clear hne
          have HQ := Lib.hid hq; clear hq
          have HBEL := Lib.hid hbel; clear hbel
          go_wp2_with fail
          refine HE.out.mono ?_
          rintro e w4 ⟨v4, rfl, ho4, hb4⟩
          obtain ⟨A4, c4, rfl⟩ := own_shape ho4
          have hB4 := HBEL.out.trans (hb4.mono HBEL.out.size)
          have HM := Lib.hid (marked_err A2 c2 nt xs T ct nt t w4 HL2.out ((HR2.out.below hB4).more hB4.size) hc1 hc2 ((HT2.out.below hB4).more hB4.size) HTL.out HNE.out)
          rw [HQ.out] at HM
          have HB4 := Lib.hid hB4; clear hB4
          clear ho4 hb4 HE HBEL
          go_wp2_with fail
          refine HM.out.mono ?_
          rintro e w5 ⟨rfl, hb5⟩
          have hB5 := HB4.out.trans (hb5.mono HB4.out.size)
          clear hb5 HM HB4
          have HAL := Lib.hid (ref_Alphabet6 A2 c2 nt xs w5 HL2.out ((HR2.out.below hB5).more hB5.size) hc1 hc2 HF.out.wf)
          have HB5 := Lib.hid hB5
          clear hB5
          go_wp2_with fail
          refine HAL.out.mono ?_
          rintro e w6 ⟨v6, rfl, ho6, hb6⟩
          obtain ⟨A6, c6, rfl⟩ := own_shape ho6
          have hB6 := HB5.out.trans (hb6.mono HB5.out.size)
          obtain ⟨VV, hVV⟩ : ∃ VV, evs (xs.map AV.a) = VV := ⟨_, rfl⟩
          rw [hVV] at ho6
          obtain ⟨nv, hnv⟩ : ∃ nv, VV.length = nv := ⟨_, rfl⟩
          have hle : nv ≤ 32 := by rw [← hnv, ← hVV]; exact evs_le HF.out.wf
          rw [hVV, hnv]
          rw [hnv] at ho6
          have HRV := Lib.hid (RdI.of_own ho6)
          have HVV := Lib.hid hVV; clear hVV
          have HNV := Lib.hid hnv; clear hnv
          have HB6 := Lib.hid hB6; clear hB6
          clear ho6 hb6 HAL HB5
          go_wp2
          go_loopw [15, 16] (fun s15 s16 wr => ∃ (k : Nat), s16 = .int .i64 k ∧ k ≤ nv ∧ s15 = .bool (hasB (VV.take k) v) ∧ wr = w6) (fun _ s16 _ => nv - (intOf s16).toNat)
          case atStart => exact ⟨0, rfl, Nat.zero_le _, rfl, rfl⟩
          case round =>
            obtain ⟨k2, rfl, hk2, rfl, rfl⟩ := hrel
            by_cases hlt2 : k2 < nv
            · obtain ⟨vd, x, rfl, _, hve, hvc⟩ := HRV.out.at_ (k := k2) (by have := HNV.out; omega)
              have b1 : (k2 : Int) < (nv : Int) := by omega
              have hsu := hasB_succ (v := v) hve
              cases hh : hasB (VV.take k2) v with
              | true =>
                rw [hh] at hsu
                have HSU := Lib.hid hsu; clear hsu
                have HVE := Lib.hid hve; clear hve
                have HHH := Lib.hid hh; clear hh
                go_wp2
                go_roundw
                case rel => exact ⟨k2 + 1, by go_num, by omega, (by rw [HSU.out]; rfl), by first | trivial | rfl⟩
                case measure => simp [intOf]; omega
              | false =>
                rw [hh] at hsu
                have HSU := Lib.hid hsu; clear hsu
                have HVE := Lib.hid hve; clear hve
                have HHH := Lib.hid hh; clear hh
                go_wp2
                go_roundw
                case rel => exact ⟨k2 + 1, by go_num, by omega, (by rw [HSU.out]; rfl), by first | trivial | rfl⟩
                case measure => simp [intOf]; omega
            · have hfin : hasB (VV.take k2) v = hasB VV v := by rw [List.take_of_length_le (by have := HNV.out; omega)]
              rw [hfin]
              clear hfin
              have HS := Lib.hid (step_err A2 c2 nt xs T ct nt t v wr HL2.out ((HR2.out.below HB6.out).more HB6.out.size) hc1 hc2 ((HT2.out.below HB6.out).more HB6.out.size) HTL.out (by rw [HQV.out]; exact HY.out))
              rw [HQV.out] at HS
              go_wp2_with fail
              refine HS.out.mono ?_
              rintro e w7 ⟨rfl, hb7⟩
              have hB7 := HB6.out.trans (hb7.mono HB6.out.size)
              have HR := Lib.hid (refusers_err A2 c2 nt xs T ct nt t v w7 HL2.out ((HR2.out.below hB7).more hB7.size) hc1 hc2 ((HT2.out.below hB7).more hB7.size) HTL.out (by rw [HQV.out]; exact HY.out))
              rw [HQV.out] at HR
              have HB7 := Lib.hid hB7; clear hB7
              clear hb7 HS
              go_wp2_with fail
              refine HR.out.mono ?_
              rintro e w8 ⟨v8, rfl, ho8, hb8⟩
              obtain ⟨A8, c8, rfl⟩ := own_shape ho8
              have hB8 := HB2.out.trans ((HB7.out.trans (hb8.mono HB7.out.size)).mono HB2.out.size)
              have HB8 := Lib.hid hB8; clear hB8
              clear hb8 ho8 HR
              go_wp2
              go_ret
              exact ⟨rfl, HB8.out⟩
        · have b1 : decide ((k : Int) < (nt : Int)) = false := decide_eq_false (by omega)
          have q1 : (y != 0) = true := by first | decide | simpa using hy
          have q2 : (y == 0) = false := by first | decide | simpa using hy
          have hne : chkT (xs.map AV.a) t ≠ 0 := by rw [hq]; exact hy
          have HQV := Lib.hid (show chkV (xs.map AV.a) t v = y by unfold chkV; rw [if_pos hne, hq])
          have HE := Lib.hid (enabled_err A2 c2 nt xs T ct nt t wr HL2.out ((HR2.out.below hbel).more hbel.size) hc1 hc2 ((HT2.out.below hbel).more hbel.size) HTL.out hne)
          rw [hq] at HE
          have HY := Lib.hid hy; clear hy
          have HNE := Lib.hid hne; clear hne
          have HQ := Lib.hid hq; clear hq
          have HBEL := Lib.hid hbel; clear hbel
          go_wp2_with fail
          refine HE.out.mono ?_
          rintro e w4 ⟨v4, rfl, ho4, hb4⟩
          obtain ⟨A4, c4, rfl⟩ := own_shape ho4
          have hB4 := HBEL.out.trans (hb4.mono HBEL.out.size)
          have HM := Lib.hid (marked_err A2 c2 nt xs T ct nt t w4 HL2.out ((HR2.out.below hB4).more hB4.size) hc1 hc2 ((HT2.out.below hB4).more hB4.size) HTL.out HNE.out)
          rw [HQ.out] at HM
          have HB4 := Lib.hid hB4; clear hB4
          clear ho4 hb4 HE HBEL
          go_wp2_with fail
          refine HM.out.mono ?_
          rintro e w5 ⟨rfl, hb5⟩
          have hB5 := HB4.out.trans (hb5.mono HB4.out.size)
          clear hb5 HM HB4
          have HAL := Lib.hid (ref_Alphabet6 A2 c2 nt xs w5 HL2.out ((HR2.out.below hB5).more hB5.size) hc1 hc2 HF.out.wf)
          have HB5 := Lib.hid hB5
          clear hB5
          go_wp2_with fail
          refine HAL.out.mono ?_
          rintro e w6 ⟨v6, rfl, ho6, hb6⟩
          obtain ⟨A6, c6, rfl⟩ := own_shape ho6
          have hB6 := HB5.out.trans (hb6.mono HB5.out.size)
          obtain ⟨VV, hVV⟩ : ∃ VV, evs (xs.map AV.a) = VV := ⟨_, rfl⟩
          rw [hVV] at ho6
          obtain ⟨nv, hnv⟩ : ∃ nv, VV.length = nv := ⟨_, rfl⟩
          have hle : nv ≤ 32 := by rw [← hnv, ← hVV]; exact evs_le HF.out.wf
          rw [hVV, hnv]
          rw [hnv] at ho6
          have HRV := Lib.hid (RdI.of_own ho6)
          have HVV := Lib.hid hVV; clear hVV
          have HNV := Lib.hid hnv; clear hnv
          have HB6 := Lib.hid hB6; clear hB6
          clear ho6 hb6 HAL HB5
          go_wp2
          go_loopw [15, 16] (fun s15 s16 wr => ∃ (k : Nat), s16 = .int .i64 k ∧ k ≤ nv ∧ s15 = .bool (hasB (VV.take k) v) ∧ wr = w6) (fun _ s16 _ => nv - (intOf s16).toNat)
          case atStart => exact ⟨0, rfl, Nat.zero_le _, rfl, rfl⟩
          case round =>
            obtain ⟨k2, rfl, hk2, rfl, rfl⟩ := hrel
            by_cases hlt2 : k2 < nv
            · obtain ⟨vd, x, rfl, _, hve, hvc⟩ := HRV.out.at_ (k := k2) (by have := HNV.out; omega)
              have b1 : (k2 : Int) < (nv : Int) := by omega
              have hsu := hasB_succ (v := v) hve
              cases hh : hasB (VV.take k2) v with
              | true =>
                rw [hh] at hsu
                have HSU := Lib.hid hsu; clear hsu
                have HVE := Lib.hid hve; clear hve
                have HHH := Lib.hid hh; clear hh
                go_wp2
                go_roundw
                case rel => exact ⟨k2 + 1, by go_num, by omega, (by rw [HSU.out]; rfl), by first | trivial | rfl⟩
                case measure => simp [intOf]; omega
              | false =>
                rw [hh] at hsu
                have HSU := Lib.hid hsu; clear hsu
                have HVE := Lib.hid hve; clear hve
                have HHH := Lib.hid hh; clear hh
                go_wp2
                go_roundw
                case rel => exact ⟨k2 + 1, by go_num, by omega, (by rw [HSU.out]; rfl), by first | trivial | rfl⟩
                case measure => simp [intOf]; omega
            · have hfin : hasB (VV.take k2) v = hasB VV v := by rw [List.take_of_length_le (by have := HNV.out; omega)]
              rw [hfin]
              clear hfin
              have HS := Lib.hid (step_err A2 c2 nt xs T ct nt t v wr HL2.out ((HR2.out.below HB6.out).more HB6.out.size) hc1 hc2 ((HT2.out.below HB6.out).more HB6.out.size) HTL.out (by rw [HQV.out]; exact HY.out))
              rw [HQV.out] at HS
              go_wp2_with fail
              refine HS.out.mono ?_
              rintro e w7 ⟨rfl, hb7⟩
              have hB7 := HB6.out.trans (hb7.mono HB6.out.size)
              have HR := Lib.hid (refusers_err A2 c2 nt xs T ct nt t v w7 HL2.out ((HR2.out.below hB7).more hB7.size) hc1 hc2 ((HT2.out.below hB7).more hB7.size) HTL.out (by rw [HQV.out]; exact HY.out))
              rw [HQV.out] at HR
              have HB7 := Lib.hid hB7; clear hB7
              clear hb7 HS
              go_wp2_with fail
              refine HR.out.mono ?_
              rintro e w8 ⟨v8, rfl, ho8, hb8⟩
              obtain ⟨A8, c8, rfl⟩ := own_shape ho8
              have hB8 := HB2.out.trans ((HB7.out.trans (hb8.mono HB7.out.size)).mono HB2.out.size)
              have HB8 := Lib.hid hB8; clear hB8
              clear hb8 ho8 HR
              go_wp2
              go_ret
              exact ⟨rfl, HB8.out⟩
  · have hq : chkT (xs.map AV.a) t = 4 := by
      unfold chkT
      rw [if_neg (by rw [HF.out.chk]; simp), if_pos (by rw [List.length_map, HL2.out, HTL.out]; exact hlen)]
    have hy : (4 : Int) ≠ 0 := by omega
    have b5 : ((nt : Int) != (n2 : Int)) = true := by rw [bne_iff_ne]; omega
    go_wp2
    go_loopw [8, 9] (fun s8 s9 wr => s9 = .int .i64 0 ∧ s8 = .int .i64 4 ∧ wr = w2) (fun _ _ _ => 0)
    case atStart => exact ⟨rfl, rfl, rfl⟩
    case round =>
      obtain ⟨rfl, rfl, rfl⟩ := hrel
      have hbel := Below.refl wr.heap.size wr
      by_cases hlt : 0 < n2
      · have b1 : (0 : Int) < (n2 : Int) := by omega
        have q1 : (4 != 0) = true := by first | decide | simpa using hy
        have q2 : (4 == 0) = false := by first | decide | simpa using hy
        have hne : chkT (xs.map AV.a) t ≠ 0 := by rw [hq]; exact hy
        have HQV := Lib.hid (show chkV (xs.map AV.a) t v = 4 by unfold chkV; rw [if_pos hne, hq])
        have HE := Lib.hid (enabled_err A2 c2 n2 xs T ct nt t wr HL2.out ((HR2.out.below hbel).more hbel.size) hc1 hc2 ((HT2.out.below hbel).more hbel.size) HTL.out hne)
        rw [hq] at HE
        have HY := Lib.hid hy; clear hy
        have HNE := Lib.hid hne; clear hne
        have HQ := Lib.hid hq; clear hq
        have HBEL := Lib.hid hbel; clear hbel
        go_wp2_with fail
        refine HE.out.mono ?_
        rintro e w4 ⟨v4, rfl, ho4, hb4⟩
        obtain ⟨A4, c4, rfl⟩ := own_shape ho4
        have hB4 := HBEL.out.trans (hb4.mono HBEL.out.size)
        have HM := Lib.hid (marked_err A2 c2 n2 xs T ct nt t w4 HL2.out ((HR2.out.below hB4).more hB4.size) hc1 hc2 ((HT2.out.below hB4).more hB4.size) HTL.out HNE.out)
        rw [HQ.out] at HM
        have HB4 := Lib.hid hB4; clear hB4
        clear ho4 hb4 HE HBEL
        go_wp2_with fail
        refine HM.out.mono ?_
        rintro e w5 ⟨rfl, hb5⟩
        have hB5 := HB4.out.trans (hb5.mono HB4.out.size)
        clear hb5 HM HB4
        have HAL := Lib.hid (ref_Alphabet6 A2 c2 n2 xs w5 HL2.out ((HR2.out.below hB5).more hB5.size) hc1 hc2 HF.out.wf)
        have HB5 := Lib.hid hB5
        clear hB5
        go_wp2_with fail
        refine HAL.out.mono ?_
        rintro e w6 ⟨v6, rfl, ho6, hb6⟩
        obtain ⟨A6, c6, rfl⟩ := own_shape ho6
        have hB6 := HB5.out.trans (hb6.mono HB5.out.size)
        obtain ⟨VV, hVV⟩ : ∃ VV, evs (xs.map AV.a) = VV := ⟨_, rfl⟩
        rw [hVV] at ho6
        obtain ⟨nv, hnv⟩ : ∃ nv, VV.length = nv := ⟨_, rfl⟩
        have hle : nv ≤ 32 := by rw [← hnv, ← hVV]; exact evs_le HF.out.wf
        rw [hVV, hnv]
        rw [hnv] at ho6
        have HRV := Lib.hid (RdI.of_own ho6)
        have HVV := Lib.hid hVV; clear hVV
        have HNV := Lib.hid hnv; clear hnv
        have HB6 := Lib.hid hB6; clear hB6
        clear ho6 hb6 HAL HB5
        go_wp2
        go_loopw [15, 16] (fun s15 s16 wr => ∃ (k : Nat), s16 = .int .i64 k ∧ k ≤ nv ∧ s15 = .bool (hasB (VV.take k) v) ∧ wr = w6) (fun _ s16 _ => nv - (intOf s16).toNat)
        case atStart => exact ⟨0, rfl, Nat.zero_le _, rfl, rfl⟩
        case round =>
          obtain ⟨k2, rfl, hk2, rfl, rfl⟩ := hrel
          by_cases hlt2 : k2 < nv
          · obtain ⟨vd, x, rfl, _, hve, hvc⟩ := HRV.out.at_ (k := k2) (by have := HNV.out; omega)
            have b1 : (k2 : Int) < (nv : Int) := by omega
            have hsu := hasB_succ (v := v) hve
            cases hh : hasB (VV.take k2) v with
            | true =>
              rw [hh] at hsu
              have HSU := Lib.hid hsu; clear hsu
              have HVE := Lib.hid hve; clear hve
              have HHH := Lib.hid hh; clear hh
              go_wp2
              go_roundw
              case rel => exact ⟨k2 + 1, by go_num, by omega, (by rw [HSU.out]; rfl), by first | trivial | rfl⟩
              case measure => simp [intOf]; omega
            | false =>
              rw [hh] at hsu
              have HSU := Lib.hid hsu; clear hsu
              have HVE := Lib.hid hve; clear hve
              have HHH := Lib.hid hh; clear hh
              go_wp2
              go_roundw
              case rel => exact ⟨k2 + 1, by go_num, by omega, (by rw [HSU.out]; rfl), by first | trivial | rfl⟩
              case measure => simp [intOf]; omega
          · have hfin : hasB (VV.take k2) v = hasB VV v := by rw [List.take_of_length_le (by have := HNV.out; omega)]
            rw [hfin]
            clear hfin
            have HS := Lib.hid (step_err A2 c2 n2 xs T ct nt t v wr HL2.out ((HR2.out.below HB6.out).more HB6.out.size) hc1 hc2 ((HT2.out.below HB6.out).more HB6.out.size) HTL.out (by rw [HQV.out]; exact HY.out))
            rw [HQV.out] at HS
            go_wp2_with fail
            refine HS.out.mono ?_
            rintro e w7 ⟨rfl, hb7⟩
            have hB7 := HB6.out.trans (hb7.mono HB6.out.size)
            have HR := Lib.hid (refusers_err A2 c2 n2 xs T ct nt t v w7 HL2.out ((HR2.out.below hB7).more hB7.size) hc1 hc2 ((HT2.out.below hB7).more hB7.size) HTL.out (by rw [HQV.out]; exact HY.out))
            rw [HQV.out] at HR
            have HB7 := Lib.hid hB7; clear hB7
            clear hb7 HS
            go_wp2_with fail
            refine HR.out.mono ?_
            rintro e w8 ⟨v8, rfl, ho8, hb8⟩
            obtain ⟨A8, c8, rfl⟩ := own_shape ho8
            have hB8 := HB2.out.trans ((HB7.out.trans (hb8.mono HB7.out.size)).mono HB2.out.size)
            have HB8 := Lib.hid hB8; clear hB8
            clear hb8 ho8 HR
            go_wp2
            go_ret
            exact ⟨rfl, HB8.out⟩
      · have b1 : decide ((0 : Int) < (n2 : Int)) = false := decide_eq_false (by omega)
        have q1 : (4 != 0) = true := by first | decide | simpa using hy
        have q2 : (4 == 0) = false := by first | decide | simpa using hy
        have hne : chkT (xs.map AV.a) t ≠ 0 := by rw [hq]; exact hy
        have HQV := Lib.hid (show chkV (xs.map AV.a) t v = 4 by unfold chkV; rw [if_pos hne, hq])
        have HE := Lib.hid (enabled_err A2 c2 n2 xs T ct nt t wr HL2.out ((HR2.out.below hbel).more hbel.size) hc1 hc2 ((HT2.out.below hbel).more hbel.size) HTL.out hne)
        rw [hq] at HE
        have HY := Lib.hid hy; clear hy
        have HNE := Lib.hid hne; clear hne
        have HQ := Lib.hid hq; clear hq
        have HBEL := Lib.hid hbel; clear hbel
        go_wp2_with fail
        refine HE.out.mono ?_
        rintro e w4 ⟨v4, rfl, ho4, hb4⟩
        obtain ⟨A4, c4, rfl⟩ := own_shape ho4
        have hB4 := HBEL.out.trans (hb4.mono HBEL.out.size)
        have HM := Lib.hid (marked_err A2 c2 n2 xs T ct nt t w4 HL2.out ((HR2.out.below hB4).more hB4.size) hc1 hc2 ((HT2.out.below hB4).more hB4.size) HTL.out HNE.out)
        rw [HQ.out] at HM
        have HB4 := Lib.hid hB4; clear hB4
        clear ho4 hb4 HE HBEL
        go_wp2_with fail
        refine HM.out.mono ?_
        rintro e w5 ⟨rfl, hb5⟩
        have hB5 := HB4.out.trans (hb5.mono HB4.out.size)
        clear hb5 HM HB4
        have HAL := Lib.hid (ref_Alphabet6 A2 c2 n2 xs w5 HL2.out ((HR2.out.below hB5).more hB5.size) hc1 hc2 HF.out.wf)
        have HB5 := Lib.hid hB5
        clear hB5
        go_wp2_with fail
        refine HAL.out.mono ?_
        rintro e w6 ⟨v6, rfl, ho6, hb6⟩
        obtain ⟨A6, c6, rfl⟩ := own_shape ho6
        have hB6 := HB5.out.trans (hb6.mono HB5.out.size)
        obtain ⟨VV, hVV⟩ : ∃ VV, evs (xs.map AV.a) = VV := ⟨_, rfl⟩
        rw [hVV] at ho6
        obtain ⟨nv, hnv⟩ : ∃ nv, VV.length = nv := ⟨_, rfl⟩
        have hle : nv ≤ 32 := by rw [← hnv, ← hVV]; exact evs_le HF.out.wf
        rw [hVV, hnv]
        rw [hnv] at ho6
        have HRV := Lib.hid (RdI.of_own ho6)
        have HVV := Lib.hid hVV; clear hVV
        have HNV := Lib.hid hnv; clear hnv
        have HB6 := Lib.hid hB6; clear hB6
        clear ho6 hb6 HAL HB5
        go_wp2
        go_loopw [15, 16] (fun s15 s16 wr => ∃ (k : Nat), s16 = .int .i64 k ∧ k ≤ nv ∧ s15 = .bool (hasB (VV.take k) v) ∧ wr = w6) (fun _ s16 _ => nv - (intOf s16).toNat)
        case atStart => exact ⟨0, rfl, Nat.zero_le _, rfl, rfl⟩
        case round =>
          obtain ⟨k2, rfl, hk2, rfl, rfl⟩ := hrel
          by_cases hlt2 : k2 < nv
          · obtain ⟨vd, x, rfl, _, hve, hvc⟩ := HRV.out.at_ (k := k2) (by have := HNV.out; omega)
            have b1 : (k2 : Int) < (nv : Int) := by omega
            have hsu := hasB_succ (v := v) hve
            cases hh : hasB (VV.take k2) v with
            | true =>
              rw [hh] at hsu
              have HSU := Lib.hid hsu; clear hsu
              have HVE := Lib.hid hve; clear hve
              have HHH := Lib.hid hh; clear hh
              go_wp2
              go_roundw
              case rel => exact ⟨k2 + 1, by go_num, by omega, (by rw [HSU.out]; rfl), by first | trivial | rfl⟩
              case measure => simp [intOf]; omega
            | false =>
              rw [hh] at hsu
              have HSU := Lib.hid hsu; clear hsu
              have HVE := Lib.hid hve; clear hve
              have HHH := Lib.hid hh; clear hh
              go_wp2
              go_roundw
              case rel => exact ⟨k2 + 1, by go_num, by omega, (by rw [HSU.out]; rfl), by first | trivial | rfl⟩
              case measure => simp [intOf]; omega
          · have hfin : hasB (VV.take k2) v = hasB VV v := by rw [List.take_of_length_le (by have := HNV.out; omega)]
            rw [hfin]
            clear hfin
            have HS := Lib.hid (step_err A2 c2 n2 xs T ct nt t v wr HL2.out ((HR2.out.below HB6.out).more HB6.out.size) hc1 hc2 ((HT2.out.below HB6.out).more HB6.out.size) HTL.out (by rw [HQV.out]; exact HY.out))
            rw [HQV.out] at HS
            go_wp2_with fail
            refine HS.out.mono ?_
            rintro e w7 ⟨rfl, hb7⟩
            have hB7 := HB6.out.trans (hb7.mono HB6.out.size)
            have HR := Lib.hid (refusers_err A2 c2 n2 xs T ct nt t v w7 HL2.out ((HR2.out.below hB7).more hB7.size) hc1 hc2 ((HT2.out.below hB7).more hB7.size) HTL.out (by rw [HQV.out]; exact HY.out))
            rw [HQV.out] at HR
            have HB7 := Lib.hid hB7; clear hB7
            clear hb7 HS
            go_wp2_with fail
            refine HR.out.mono ?_
            rintro e w8 ⟨v8, rfl, ho8, hb8⟩
            obtain ⟨A8, c8, rfl⟩ := own_shape ho8
            have hB8 := HB2.out.trans ((HB7.out.trans (hb8.mono HB7.out.size)).mono HB2.out.size)
            have HB8 := Lib.hid hB8; clear hB8
            clear hb8 ho8 HR
            go_wp2
            go_ret
            exact ⟨rfl, HB8.out⟩
theorem steps_all (L : Option Addr) (c n : Nat) (ps : List Pt) (T : Option Addr) (ct nt : Nat) (t : List Int) (v : Int) (w : World) (hl : ps.length = n) (h : RdP w w.heap.size L ps) (ht : t.length = nt) (hT : RdI w w.heap.size T t) (hct : nt ≤ ct) (hct2 : ct ≤ 9223372036854775807) :
    Calls Tryd.prog 9 #[.slice L n c, .slice T nt ct, .int .i64 v] w fun e w' => e = .returned (.bool true) ∧ Below w.heap.size w w' := by
  by_cases hn : 4 < nt
  · exact steps_long L c n ps T ct nt t v w hl h ht hT hn
  · exact steps_walk L c n ps T ct nt t v w hl h ht hT hct hct2 hn
end Go.Proofs.YtbdliebjalghmaaDoor
