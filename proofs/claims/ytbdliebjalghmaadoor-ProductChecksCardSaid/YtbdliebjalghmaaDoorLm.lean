/- The law ProductChecks: its walk. -/
import Derived.Test.YtbdliebjalghmaaDoorRg
import Derived.Test.YtbdliebjalghmaaDoorRe
import Derived.Test.YtbdliebjalghmaaDoorRd
import Derived.Test.YtbdliebjalghmaaDoorMn
namespace Go.Proofs.YtbdliebjalghmaaDoor
open Go.RowKit Go Go.Maps

theorem chkT_bad {l : List Aut} {t : List Int} (h : chkL l ≠ 0) : chkT l t = chkL l := if_pos h
theorem chkV_bad {l : List Aut} {t : List Int} {v : Int} (h : chkL l ≠ 0) : chkV l t v = chkL l := by
  unfold chkV; rw [chkT_bad h, if_pos h]

set_option maxRecDepth 100000 in
set_option maxHeartbeats 6400000 in
open Classical in
theorem checks_few (L : Option Addr) (c n : Nat) (xs : List AV) (w : World) (hl : xs.length = n) (h : RdL w w.heap.size L xs) (hc1 : n ≤ c) (hc2 : c ≤ 9223372036854775807) (hf : ¬ fewP (xs.map AV.a)) :
    Calls Tryd.prog 11 #[.slice L n c] w fun e w' => e = .returned (.bool true) ∧ Below w.heap.size w w' := by
  have HK := Lib.hid (law_known w)
  have HL := Lib.hid hl; clear hl
  have HX := Lib.hid h; clear h
  have HF := Lib.hid hf; clear hf
  go_enter Tryd.func11, Tryd.ntmps11
  go_wp2_with fail
  refine HK.out.mono ?_
  rintro e w1 ⟨rfl, hb1⟩
  have HW := Lib.hid (law_few L c n xs false w1 HL.out (decide_eq_false HF.out) ((HX.out.below hb1).more hb1.size) hc1 hc2)
  have HK1 := Lib.hid (law_known w1)
  have HB1 := Lib.hid hb1; clear hb1
  go_wp2_with fail
  refine HW.out.mono ?_
  rintro e w' ⟨rfl, rfl⟩
  go_wp2_with fail
  refine HK1.out.mono ?_
  rintro e w2 ⟨rfl, hb2⟩
  go_wp2
  go_ret
  exact ⟨rfl, HB1.out.trans (hb2.mono HB1.out.size)⟩
set_option maxRecDepth 100000 in
set_option maxHeartbeats 6400000 in
open Classical in
theorem checks_ok (L : Option Addr) (c n : Nat) (xs : List AV) (w : World) (hl : xs.length = n) (h : RdL w w.heap.size L xs) (hc1 : n ≤ c) (hc2 : c ≤ 9223372036854775807) (hf : fewP (xs.map AV.a)) (hz : chkL (xs.map AV.a) = 0) :
    Calls Tryd.prog 11 #[.slice L n c] w fun e w' => e = .returned (.bool true) ∧ Below w.heap.size w w' := by
  have HK := Lib.hid (law_known w)
  have HL := Lib.hid hl; clear hl
  have HX := Lib.hid h; clear h
  have HF := Lib.hid hf; clear hf
  have HZ := Lib.hid hz; clear hz
  go_enter Tryd.func11, Tryd.ntmps11
  go_wp2_with fail
  refine HK.out.mono ?_
  rintro e w1 ⟨rfl, hb1⟩
  have HW := Lib.hid (law_few L c n xs true w1 HL.out (decide_eq_true HF.out) ((HX.out.below hb1).more hb1.size) hc1 hc2)
  have HR := Lib.hid (ref_Check6 L c n xs w1 HL.out ((HX.out.below hb1).more hb1.size) hc1 hc2)
  rw [HZ.out] at HR
  have HB1 := Lib.hid hb1; clear hb1
  go_wp2_with fail
  refine HW.out.mono ?_
  rintro e w' ⟨rfl, rfl⟩
  go_wp2_with fail
  refine HR.out.mono ?_
  rintro e w2 ⟨rfl, hb2⟩
  have hb := HB1.out.trans (hb2.mono HB1.out.size)
  have HA := Lib.hid (alphabet_ok L c n xs w2 HL.out ((HX.out.below hb).more hb.size) hc1 hc2 HZ.out)
  have HB2 := Lib.hid hb; clear hb
  clear hb2 HR HW HK HB1
  go_wp2_with fail
  refine HA.out.mono ?_
  rintro e w3 ⟨v3, rfl, ho3, hb3⟩
  obtain ⟨A3, c3, rfl⟩ := own_shape ho3
  have hb := HB2.out.trans (hb3.mono HB2.out.size)
  have HC := Lib.hid (product_Check L c n xs w3 HL.out ((HX.out.below hb).more hb.size) hc1 hc2)
  rw [HZ.out] at HC
  have HO3 := Lib.hid ho3; clear ho3
  have HB3 := Lib.hid hb; clear hb
  clear hb3 HA HB2
  go_wp2_with fail
  refine HC.out.mono ?_
  rintro e w4 ⟨rfl, hb4⟩
  have hb := HB3.out.trans (hb4.mono HB3.out.size)
  have hra := Lib.hid (((RdI.of_own HO3.out).below hb4).more hb4.size)
  have HAL := Lib.hid (ref_Alphabet6 L c n xs w4 HL.out ((HX.out.below hb).more hb.size) hc1 hc2 (chkL_wf HZ.out).2)
  have hcap := own_cap' HO3.out
  have HB4 := Lib.hid hb; clear hb
  clear hb4 HC HB3
  go_wp2_with fail
  refine HAL.out.mono ?_
  rintro e w5 ⟨v5, rfl, ho5, hb5⟩
  obtain ⟨A5, c5, rfl⟩ := own_shape ho5
  have hb := HB4.out.trans (hb5.mono HB4.out.size)
  have HS := Lib.hid (law_same_n A3 A5 c3 c5 _ _ _ _ true w5 rfl rfl (eqB_of rfl) ((hra.out.below hb5).more hb5.size) hcap.1 hcap.2 (RdI.of_own ho5))
  have HB5 := Lib.hid hb; clear hb
  clear hb5 HAL HB4 ho5 hcap
  go_wp2_with fail
  refine HS.out.mono ?_
  rintro e w6 ⟨rfl, m, rfl⟩
  go_wp2
  go_ret
  exact ⟨rfl, below_drewN HB5.out _⟩

set_option maxRecDepth 100000 in
set_option maxHeartbeats 6400000 in
open Classical in
theorem checks_bad (L : Option Addr) (c n : Nat) (xs : List AV) (w : World) (hl : xs.length = n) (h : RdL w w.heap.size L xs) (hc1 : n ≤ c) (hc2 : c ≤ 9223372036854775807) (hf : fewP (xs.map AV.a)) (hz : chkL (xs.map AV.a) ≠ 0) :
    Calls Tryd.prog 11 #[.slice L n c] w fun e w' => e = .returned (.bool true) ∧ Below w.heap.size w w' := by
  have HK := Lib.hid (law_known w)
  obtain ⟨z, hzz⟩ : ∃ z, chkL (xs.map AV.a) = z := ⟨_, rfl⟩
  have q1 : (z != 0) = true := by rw [← hzz]; simpa using hz
  have q2 : (z == 0) = false := by rw [← hzz]; simpa using hz
  have HL := Lib.hid hl; clear hl
  have HX := Lib.hid h; clear h
  have HF := Lib.hid hf; clear hf
  have HZ := Lib.hid hz; clear hz
  have HE := Lib.hid hzz; clear hzz
  go_enter Tryd.func11, Tryd.ntmps11
  go_wp2_with fail
  refine HK.out.mono ?_
  rintro e w1 ⟨rfl, hb1⟩
  have HW := Lib.hid (law_few L c n xs true w1 HL.out (decide_eq_true HF.out) ((HX.out.below hb1).more hb1.size) hc1 hc2)
  have HR := Lib.hid (ref_Check6 L c n xs w1 HL.out ((HX.out.below hb1).more hb1.size) hc1 hc2)
  rw [HE.out] at HR
  have HB1 := Lib.hid hb1; clear hb1
  go_wp2_with fail
  refine HW.out.mono ?_
  rintro e w' ⟨rfl, rfl⟩
  go_wp2_with fail
  refine HR.out.mono ?_
  rintro e w2 ⟨rfl, hb2⟩
  have hb := HB1.out.trans (hb2.mono HB1.out.size)
  have HA := Lib.hid (alphabet_err L c n xs w2 HL.out ((HX.out.below hb).more hb.size) hc1 hc2 HZ.out)
  rw [HE.out] at HA
  have HB2 := Lib.hid hb; clear hb
  clear hb2 HR HW HK HB1
  go_wp2_with fail
  refine HA.out.mono ?_
  rintro e w3 ⟨v3, rfl, ho3, hb3⟩
  obtain ⟨A3, c3, rfl⟩ := own_shape ho3
  have hb := HB2.out.trans (hb3.mono HB2.out.size)
  have HC := Lib.hid (product_Check L c n xs w3 HL.out ((HX.out.below hb).more hb.size) hc1 hc2)
  rw [HE.out] at HC
  have HB3 := Lib.hid hb; clear hb
  clear hb3 HA HB2 ho3
  go_wp2_with fail
  refine HC.out.mono ?_
  rintro e w4 ⟨rfl, hb4⟩
  have hb := HB3.out.trans (hb4.mono HB3.out.size)
  have HS := Lib.hid (syn_err L c n xs w4 HL.out ((HX.out.below hb).more hb.size) hc1 hc2 HZ.out)
  rw [HE.out] at HS
  have HB4 := Lib.hid hb; clear hb
  clear hb4 HC HB3
  go_wp2_with fail
  refine HS.out.mono ?_
  rintro e w5 ⟨hb5, rfl⟩
  have hb := HB4.out.trans (hb5.mono HB4.out.size)
  have k5 : Blk (w5.alloc (.cells #[.slice none 0 0, .int .i64 0, .slice none 0 0, .slice none 0 0] 29)) w5.heap.size 29 [.slice none 0 0, .int .i64 0, .slice none 0 0, .slice none 0 0] := Blk.new _ _ _
  have hb6 := hb.alloc hb.size (.cells #[.slice none 0 0, .int .i64 0, .slice none 0 0, .slice none 0 0] 29)
  have HC6 := Lib.hid (compose_none L c n z _ (fun W hW => by
    have hW2 := hb6.trans (hW.mono hb6.size)
    have := syn_err L c n xs W HL.out ((HX.out.below hW2).more hW2.size) hc1 hc2 HZ.out
    rwa [HE.out] at this))
  have K5 := Lib.hid k5; clear k5
  have HB6 := Lib.hid hb6; clear hb6
  clear hb5 HS HB4 hb
  go_wp2_with fail
  refine HC6.out.mono ?_
  rintro e w6 ⟨hb6, rfl⟩
  have hb := HB6.out.trans (hb6.mono HB6.out.size)
  have K6 := Lib.hid (K5.out.below hb6 K5.out.lt)
  have k6 : Blk (w6.alloc (.cells #[.slice none 0 0, .int .i64 0, .slice none 0 0, .slice none 0 0] 29)) w6.heap.size 29 [.slice none 0 0, .int .i64 0, .slice none 0 0, .slice none 0 0] := Blk.new _ _ _
  have k6' := K6.out.al (.cells #[.slice none 0 0, .int .i64 0, .slice none 0 0, .slice none 0 0] 29)
  have hb7 := hb.alloc hb.size (.cells #[.slice none 0 0, .int .i64 0, .slice none 0 0, .slice none 0 0] 29)
  have hT : chkT (xs.map AV.a) [] = z := (chkT_bad HZ.out).trans HE.out
  have hV : chkV (xs.map AV.a) [] 0 = z := (chkV_bad HZ.out).trans HE.out
  have HE7 := Lib.hid (enabled_err L c n xs none 0 0 [] _ HL.out ((HX.out.below hb7).more hb7.size) hc1 hc2 RdI.nil rfl (by rw [hT, ← HE.out]; exact HZ.out))
  rw [hT] at HE7
  have L5 := Lib.hid k6'; clear k6'
  have L6 := Lib.hid k6; clear k6
  have HB7 := Lib.hid hb7; clear hb7
  have HT := Lib.hid hT; clear hT
  have HV := Lib.hid hV; clear hV
  clear hb6 HC6 HB6 hb K6 K5
  go_wp2_with fail
  refine HE7.out.mono ?_
  rintro e w7 ⟨v7, rfl, ho7, hb8⟩
  obtain ⟨A7, c7, rfl⟩ := own_shape ho7
  have hb := HB7.out.trans (hb8.mono HB7.out.size)
  have M5 := Lib.hid (L5.out.below hb8 L5.out.lt)
  have M6 := Lib.hid (L6.out.below hb8 L6.out.lt)
  have HS8 := Lib.hid (step_err L c n xs none 0 0 [] 0 w7 HL.out ((HX.out.below hb).more hb.size) hc1 hc2 RdI.nil rfl (by rw [HV.out, ← HE.out]; exact HZ.out))
  rw [HV.out] at HS8
  have HB8 := Lib.hid hb; clear hb
  clear hb8 ho7 HE7 HB7 L5 L6
  go_wp2_with fail
  refine HS8.out.mono ?_
  rintro e w8 ⟨rfl, hb9⟩
  have hb := HB8.out.trans (hb9.mono HB8.out.size)
  have N5 := Lib.hid (M5.out.below hb9 M5.out.lt)
  have N6 := Lib.hid (M6.out.below hb9 M6.out.lt)
  have HR9 := Lib.hid (run_err L c n xs none 0 0 w8 HL.out ((HX.out.below hb).more hb.size) hc1 hc2 HZ.out)
  rw [HE.out] at HR9
  have HB9 := Lib.hid hb; clear hb
  clear hb9 HS8 HB8 M5 M6
  go_wp2_with fail
  refine HR9.out.mono ?_
  rintro e w9 ⟨rfl, hb10⟩
  have hb := HB9.out.trans (hb10.mono HB9.out.size)
  have P5 := Lib.hid (N5.out.below hb10 N5.out.lt)
  have P6 := Lib.hid (N6.out.below hb10 N6.out.lt)
  have HM10 := Lib.hid (marked_err L c n xs none 0 0 [] w9 HL.out ((HX.out.below hb).more hb.size) hc1 hc2 RdI.nil rfl (by rw [HT.out, ← HE.out]; exact HZ.out))
  rw [HT.out] at HM10
  have HB10 := Lib.hid hb; clear hb
  clear hb10 HR9 HB9 N5 N6
  go_wp2_with fail
  refine HM10.out.mono ?_
  rintro e w10 ⟨rfl, hb11⟩
  have hb := HB10.out.trans (hb11.mono HB10.out.size)
  have R5 := Lib.hid (P5.out.below hb11 P5.out.lt)
  have R6 := Lib.hid (P6.out.below hb11 P6.out.lt)
  have HF11 := Lib.hid (refusers_err L c n xs none 0 0 [] 0 w10 HL.out ((HX.out.below hb).more hb.size) hc1 hc2 RdI.nil rfl (by rw [HV.out, ← HE.out]; exact HZ.out))
  rw [HV.out] at HF11
  have HB11 := Lib.hid hb; clear hb
  clear hb11 HM10 HB10 P5 P6
  go_wp2_with fail
  refine HF11.out.mono ?_
  rintro e w11 ⟨v11, rfl, ho11, hb12⟩
  obtain ⟨A11, c11, rfl⟩ := own_shape ho11
  have hb := HB11.out.trans (hb12.mono HB11.out.size)
  have S5 := Lib.hid (R5.out.below hb12 R5.out.lt)
  have S6 := Lib.hid (R6.out.below hb12 R6.out.lt)
  have HN := Lib.hid (law_none_zero w11)
  have HB12 := Lib.hid hb; clear hb
  clear hb12 ho11 HF11 HB11 R5 R6
  have c0 := S5.out.cell (j := 0) rfl
  have c1 := S5.out.cell (j := 1) rfl
  have c2 := S5.out.cell (j := 2) rfl
  have c3 := S5.out.cell (j := 3) rfl
  go_wp2_with fail
  refine HN.out.mono ?_
  rintro e w12 ⟨rfl, hb13⟩
  have hb := HB12.out.trans (hb13.mono HB12.out.size)
  have T6 := Lib.hid (S6.out.below hb13 S6.out.lt)
  have HN2 := Lib.hid (law_none_zero w12)
  have HB13 := Lib.hid hb; clear hb
  clear hb13 HN HB12 S5 S6 c0 c1 c2 c3
  have c0 := T6.out.cell (j := 0) rfl
  have c1 := T6.out.cell (j := 1) rfl
  have c2 := T6.out.cell (j := 2) rfl
  have c3 := T6.out.cell (j := 3) rfl
  go_wp2_with fail
  refine HN2.out.mono ?_
  rintro e w13 ⟨rfl, hb14⟩
  have hb := HB13.out.trans (hb14.mono HB13.out.size)
  have HB14 := Lib.hid hb; clear hb
  clear hb14
  go_wp2
  go_ret
  exact ⟨rfl, HB14.out⟩

theorem checks_walk (L : Option Addr) (c n : Nat) (xs : List AV) (w : World) (hl : xs.length = n) (h : RdL w w.heap.size L xs) (hc1 : n ≤ c) (hc2 : c ≤ 9223372036854775807) :
    Calls Tryd.prog 11 #[.slice L n c] w fun e w' => e = .returned (.bool true) ∧ Below w.heap.size w w' := by
  by_cases hf : fewP (xs.map AV.a)
  · by_cases hz : chkL (xs.map AV.a) = 0
    · exact checks_ok L c n xs w hl h hc1 hc2 hf hz
    · exact checks_bad L c n xs w hl h hc1 hc2 hf hz
  · exact checks_few L c n xs w hl h hc1 hc2 hf
end Go.Proofs.YtbdliebjalghmaaDoor
