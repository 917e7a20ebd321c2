/- Walks: the statements' few and check of a system (chapter 45). Printed by wip/mkze.py. -/
import Derived.Test.YtioijhpbedmeaaaGreatDoorYw
namespace Go.Proofs.YtioijhpbedmeaaaGreatDoor
open Go.RowKit Go

set_option maxRecDepth 100000 in
set_option maxHeartbeats 1600000 in
theorem law_few45 (A : Option Addr) (na ca : Nat) (M : Option Addr) (nm cm : Nat) (E : Option Addr) (ne ce : Nat) (st : Int) (w : World) :
    Calls Tryz.prog 35 #[.agg #[.slice A na ca, .int .i64 st, .slice M nm cm, .slice E ne ce]] w fun e w' => ∃ r : Bool, e = .returned (.bool r) ∧ Below w.heap.size w w' := by
  have hb := box_below w (.cells #[.slice A na ca, .int .i64 st, .slice M nm cm, .slice E ne ce] 33)
  have HK := Lib.hid (Blk.new w 33 [.slice A na ca, .int .i64 st, .slice M nm cm, .slice E ne ce])
  obtain ⟨w1, hw1⟩ : ∃ w1, w1 = w.alloc (.cells #[.slice A na ca, .int .i64 st, .slice M nm cm, .slice E ne ce] 33) := ⟨_, rfl⟩
  rw [← hw1] at hb
  have HK2 := Lib.hid (show Blk w1 w.heap.size 33 [.slice A na ca, .int .i64 st, .slice M nm cm, .slice E ne ce] from by rw [hw1]; exact HK.out)
  clear HK
  have HB := Lib.hid hb; clear hb
  have HW := Lib.hid hw1; clear hw1
  go_enter Tryz.func35, Tryz.ntmps35
  go_upto_region 1 with fail
  rw [← HW.out]
  have c0 := HK2.out.cell (j := 0) rfl
  have c1 := HK2.out.cell (j := 1) rfl
  have c2 := HK2.out.cell (j := 2) rfl
  have c3 := HK2.out.cell (j := 3) rfl
  by_cases h4 : st ≤ 8
  · skip
    by_cases h3 : (na : Int) ≤ 40
    · skip
      by_cases h2 : (nm : Int) ≤ 40
      · skip
        by_cases h1 : (ne : Int) ≤ 40
        · skip
          go_wp2
          go_ret
          first | exact ⟨_, rfl, HB.out⟩ | exact ⟨.inl rfl, HB.out⟩ | exact ⟨.inr rfl, HB.out⟩ | fail
        · skip
          go_wp2
          go_ret
          first | exact ⟨_, rfl, HB.out⟩ | exact ⟨.inl rfl, HB.out⟩ | exact ⟨.inr rfl, HB.out⟩ | fail
      · skip
        go_wp2
        go_ret
        first | exact ⟨_, rfl, HB.out⟩ | exact ⟨.inl rfl, HB.out⟩ | exact ⟨.inr rfl, HB.out⟩ | fail
    · skip
      go_wp2
      go_ret
      first | exact ⟨_, rfl, HB.out⟩ | exact ⟨.inl rfl, HB.out⟩ | exact ⟨.inr rfl, HB.out⟩ | fail
  · skip
    go_wp2
    go_ret
    first | exact ⟨_, rfl, HB.out⟩ | exact ⟨.inl rfl, HB.out⟩ | exact ⟨.inr rfl, HB.out⟩ | fail
/-- the law's check's function: is an event unknown? -/
theorem check_1 (b : Nat) (A : Option Addr) (na ca : Nat) (al : List Int) (vs : List Value) (x : Int) (w : World) (hk : Blk w b 35 (.slice A na ca :: vs)) (hl : al.length = na) (h : RdI w w.heap.size A al) (h1 : na ≤ ca) (h2 : ca ≤ 9223372036854775807) :
    Calls Tryz.prog 70 #[.int .i64 x, .pointer (some ⟨b, 0, none⟩)] w fun e w' => e = .returned (.bool (!hasB al x)) ∧ w = w' := by
  have c0 := hk.cell (j := 0) rfl
  obtain ⟨q, hq⟩ : ∃ q, hasB al x = q := ⟨_, rfl⟩
  have HC := Lib.hid (slices_Contains A ca na al x q w hl hq h h1 h2)
  rw [hq]
  clear hk h hq
  go_enter Tryz.func70, Tryz.ntmps70
  go_wp2_with fail
  refine HC.out.mono ?_
  rintro e w' ⟨rfl, rfl⟩
  go_wp2
  go_ret
  exact ⟨rfl, rfl⟩
theorem minS_any (u al : List Int) : decide ((minS u al).length = 0) = !(u.any fun x => !hasB al x) := by
  unfold minS
  rw [Bool.eq_iff_iff]
  simp [List.length_eq_zero_iff, List.filter_eq_nil_iff]
set_option maxRecDepth 100000 in
set_option maxHeartbeats 3200000 in
theorem law_check45 (z : SV) (r : Int) (w : World) (h : z.ok w w.heap.size) (hr : chkF z.p.a z.s.a z.u z.f z.tick = r) :
    Calls Tryz.prog 36 #[.agg (svc z).toArray] w fun e w' => e = .returned (.int .i64 r) ∧ Below w.heap.size w w' := by
  obtain ⟨⟨A, na, ca, M, nm, cm, E, ne, ce, P⟩, ⟨A', na', ca', M', nm', cm', E', ne', ce', S⟩, U, nu, cu, u, F, nf, cf, f, tick⟩ := z
  unfold svc
  dsimp only at hr ⊢
  obtain ⟨sp, hsp⟩ : ∃ s, P.st = s := ⟨_, rfl⟩
  obtain ⟨ss, hss⟩ : ∃ s, S.st = s := ⟨_, rfl⟩
  have hb0 := box_below w (.cells #[.slice A na ca, .int .i64 P.st, .slice M nm cm, .slice E ne ce, .slice A' na' ca', .int .i64 S.st, .slice M' nm' cm', .slice E' ne' ce', .slice U nu cu, .slice F nf cf, .int .i64 tick] 35)
  have hb1 := hb0.alloc hb0.size (.cells #[.slice A na ca, .int .i64 P.st, .slice M nm cm, .slice E ne ce, .slice A' na' ca', .int .i64 S.st, .slice M' nm' cm', .slice E' ne' ce'] 33)
  obtain ⟨w1, hw9⟩ : ∃ w1, w1 = (w.alloc (.cells #[.slice A na ca, .int .i64 P.st, .slice M nm cm, .slice E ne ce, .slice A' na' ca', .int .i64 S.st, .slice M' nm' cm', .slice E' ne' ce', .slice U nu cu, .slice F nf cf, .int .i64 tick] 35)).alloc (.cells #[.slice A na ca, .int .i64 P.st, .slice M nm cm, .slice E ne ce, .slice A' na' ca', .int .i64 S.st, .slice M' nm' cm', .slice E' ne' ce'] 33) := ⟨_, rfl⟩
  have kx : Blk w1 w.heap.size 35 [.slice A na ca, .int .i64 P.st, .slice M nm cm, .slice E ne ce, .slice A' na' ca', .int .i64 S.st, .slice M' nm' cm', .slice E' ne' ce', .slice U nu cu, .slice F nf cf, .int .i64 tick] := by rw [hw9]; exact (Blk.new _ _ [_, _, _, _, _, _, _, _, _, _, _]).al _
  have kl : Blk w1 (w.heap.size + 1) 33 [.slice A na ca, .int .i64 P.st, .slice M nm cm, .slice E ne ce, .slice A' na' ca', .int .i64 S.st, .slice M' nm' cm', .slice E' ne' ce'] := by rw [hw9]; exact Blk.at_ _ _ [_, _, _, _, _, _, _, _] (by simp)
  rw [← hw9] at hb1
  have HOK := Lib.hid (fun (W : World) (hb : Below w1.heap.size w1 W) => (h.below (hb1.trans (hb.mono hb1.size))).more (hb1.trans (hb.mono hb1.size)).size)
  have HC1 := Lib.hid (fun (W : World) (hb : Below w1.heap.size w1 W) => automaton_Check A na ca M nm cm E ne ce P W (HOK.out W hb).p)
  have HC2 := Lib.hid (fun (W : World) (hb : Below w1.heap.size w1 W) => automaton_Check A' na' ca' M' nm' cm' E' ne' ce' S W (HOK.out W hb).s)
  rw [hsp] at hw9 kx kl HC1 ⊢
  rw [hss] at hw9 kx kl HC2 ⊢
  have HKX := Lib.hid (fun (W : World) (hb : Below w1.heap.size w1 W) => kx.below hb kx.lt)
  have HKA := Lib.hid (fun (W : World) (hb : Below w1.heap.size w1 W) => kl.below hb kl.lt)
  have HW9 := Lib.hid hw9; clear hw9
  have HB1 := Lib.hid hb1; clear hb1
  have HR := Lib.hid hr.symm
  clear hr h kx kl hb0 hsp hss
  have HBD := Lib.hid (fun (W : World) (hb : Below w1.heap.size w1 W) => HB1.out.trans (hb.mono HB1.out.size))
  have HS0 := Lib.hid (Below.refl w1.heap.size w1)
  go_enter Tryz.func36, Tryz.ntmps36
  go_upto_region 2 with fail
  rw [← HW9.out]
  skip
  go_loopw [4, 5, 15] (fun s4 s5 s15 wr => ∃ (v4 v5 : Value), s4 = v4 ∧ s5 = v5 ∧ (s15 = .int .i64 0 ∨ (s15 = .int .i64 1 ∧ Hid (chkA P = 0)) ∨ (s15 = .int .i64 2 ∧ Hid (chkA P = 0 ∧ chkA S = 0))) ∧ Hid (Below w1.heap.size w1 wr)) (fun _ _ s15 _ => 2 - (intOf s15).toNat)
  case atStart => exact ⟨_, _, rfl, rfl, .inl rfl, HS0⟩
  case round =>
    clear HS0
    obtain ⟨v4, v5, rfl, rfl, hk, HB⟩ := hrel
    rcases hk with rfl | ⟨rfl, HZ⟩ | ⟨rfl, HZ⟩
    · obtain ⟨q, hq⟩ : ∃ q, chkA P = q := ⟨_, rfl⟩
      have e0 := (HKA.out wr HB.out).cell (j := 0) rfl
      have e1 := (HKA.out wr HB.out).cell (j := 1) rfl
      have e2 := (HKA.out wr HB.out).cell (j := 2) rfl
      have e3 := (HKA.out wr HB.out).cell (j := 3) rfl
      try dsimp only at e0 e1 e2 e3
      have HB2 := Lib.hid (HB.out.alloc HB.out.size (.cells #[.slice A na ca, .int .i64 sp, .slice M nm cm, .slice E ne ce] 33))
      have HC := Lib.hid (HC1.out _ HB2.out)
      rw [hq] at HC
      have HQ := Lib.hid hq
      clear hq
      go_wp2_with fail
      refine HC.out.mono ?_
      rintro e w3 ⟨rfl, hb3⟩
      have HB3 := Lib.hid (HB2.out.trans (hb3.mono HB2.out.size))
      clear HC hb3 e0 e1 e2 e3
      by_cases h1 : q = 0
      · subst h1
        go_wp2
        go_roundw
        case rel => exact ⟨_, _, rfl, rfl, .inr (.inl ⟨rfl, HQ⟩), HB3⟩
        case measure => simp [intOf]
      · have e2 : (q != 0) = true := by simpa using h1
        have HE := Lib.hid (show r = q by rw [HR.out]; unfold chkF; rw [HQ.out, if_pos h1])
        clear h1
        go_wp2
        go_ret
        exact ⟨congrArg (fun z => Ending.returned (.int .i64 z)) HE.out.symm, HBD.out _ HB3.out⟩
    · obtain ⟨q, hq⟩ : ∃ q, chkA S = q := ⟨_, rfl⟩
      have e0 := (HKA.out wr HB.out).cell (j := 4) rfl
      have e1 := (HKA.out wr HB.out).cell (j := 5) rfl
      have e2 := (HKA.out wr HB.out).cell (j := 6) rfl
      have e3 := (HKA.out wr HB.out).cell (j := 7) rfl
      try dsimp only at e0 e1 e2 e3
      have HB2 := Lib.hid (HB.out.alloc HB.out.size (.cells #[.slice A' na' ca', .int .i64 ss, .slice M' nm' cm', .slice E' ne' ce'] 33))
      have HC := Lib.hid (HC2.out _ HB2.out)
      rw [hq] at HC
      have HQ := Lib.hid hq
      clear hq
      go_wp2_with fail
      refine HC.out.mono ?_
      rintro e w3 ⟨rfl, hb3⟩
      have HB3 := Lib.hid (HB2.out.trans (hb3.mono HB2.out.size))
      clear HC hb3 e0 e1 e2 e3
      by_cases h1 : q = 0
      · subst h1
        go_wp2
        go_roundw
        case rel => exact ⟨_, _, rfl, rfl, .inr (.inr ⟨rfl, Lib.hid ⟨HZ.out, HQ.out⟩⟩), HB3⟩
        case measure => simp [intOf]
      · have e2 : (q != 0) = true := by simpa using h1
        have HE := Lib.hid (show r = q by rw [HR.out]; unfold chkF; rw [if_neg (by rw [HZ.out]; simp), HQ.out, if_pos h1])
        clear h1
        go_wp2
        go_ret
        exact ⟨congrArg (fun z => Ending.returned (.int .i64 z)) HE.out.symm, HBD.out _ HB3.out⟩
    · have HRA := Lib.hid (show r = if eqB P.al S.al = false then 13 else if subE u P.al ≠ 0 then subE u P.al else if subE f P.al ≠ 0 then subE f P.al else if hasB P.al tick = false then 9 else if (hasB u tick || hasB f tick) = true then 13 else 0 by
        rw [HR.out]; unfold chkF; rw [if_neg (by rw [HZ.out.1]; simp), if_neg (by rw [HZ.out.2]; simp)])
      clear HR
      have a0 := (HKX.out wr HB.out).cell (j := 0) rfl
      have a4 := (HKX.out wr HB.out).cell (j := 4) rfl
      obtain ⟨q, hq⟩ : ∃ q, eqB P.al S.al = q := ⟨_, rfl⟩
      have HC := Lib.hid (slices_Equal_n A A' ca ca' na na' P.al S.al q wr (HOK.out wr HB.out).p.la (HOK.out wr HB.out).s.la hq (HOK.out wr HB.out).p.ra (HOK.out wr HB.out).p.ac (HOK.out wr HB.out).p.cA (HOK.out wr HB.out).s.ra)
      rw [hq] at HRA
      clear hq
      go_wp2_with fail
      refine HC.out.mono ?_
      rintro e w3 ⟨rfl, n3, rfl⟩
      have HB3 := Lib.hid (HB.out.trans ((below_drewN (Below.refl wr.heap.size wr) n3).mono HB.out.size))
      clear HC a0 a4
      generalize wr.drewN n3 = w3 at HB3 ⊢
      cases q with
      | false =>
        go_wp2
        go_ret
        exact ⟨congrArg (fun z => Ending.returned (.int .i64 z)) (by rw [HRA.out]; first | exact (if_pos rfl).symm | exact (if_pos trivial).symm), HBD.out _ HB3.out⟩
      | true =>
        have HRB := Lib.hid (HRA.out.trans (if_neg (by simp)))
        clear HRA
        have a8 := (HKX.out w3 HB3.out).cell (j := 8) rfl
        have a9 := (HKX.out w3 HB3.out).cell (j := 9) rfl
        have hx := box_below w3 (.cells #[.slice U nu cu, .slice F nf cf] 30)
        have KL := Lib.hid (show Blk (w3.alloc (.cells #[.slice U nu cu, .slice F nf cf] 30)) w3.heap.size 30 [.slice U nu cu, .slice F nf cf] from Blk.new _ _ [_, _])
        have HB4 := Lib.hid (HB3.out.trans (hx.mono HB3.out.size))
        clear hx
        go_upto_region 11 with fail
        clear a8 a9
        obtain ⟨bl, hbl⟩ : ∃ b, w3.heap.size = b := ⟨_, rfl⟩
        rw [hbl] at KL ⊢
        generalize w3.alloc (.cells #[.slice U nu cu, .slice F nf cf] 30) = w4 at KL HB4 ⊢
        clear hbl HB3 HB
        have HB3 := HB4
        have HKL := Lib.hid (fun (W : World) (hb : Below w4.heap.size w4 W) => KL.out.below hb KL.out.lt)
        have HB5 := Lib.hid (Below.refl w4.heap.size w4)
        clear HB4
        go_loopw [7, 8, 39] (fun s7 s8 s39 wr => ∃ (v7 v8 : Value), s7 = v7 ∧ s8 = v8 ∧ (s39 = .int .i64 0 ∨ (s39 = .int .i64 1 ∧ Hid (subE u P.al = 0)) ∨ (s39 = .int .i64 2 ∧ Hid (subE u P.al = 0 ∧ subE f P.al = 0))) ∧ Hid (Below w4.heap.size w4 wr)) (fun _ _ s39 _ => 2 - (intOf s39).toNat)
        case atStart => exact ⟨_, _, rfl, rfl, .inl rfl, HB5⟩
        case round =>
          clear HB5
          obtain ⟨v7, v8, rfl, rfl, hk, HBW⟩ := hrel
          have HB := Lib.hid (HB3.out.trans (HBW.out.mono HB3.out.size))
          rcases hk with rfl | ⟨rfl, HY⟩ | ⟨rfl, HY⟩
          · skip
            obtain ⟨q, hq⟩ : ∃ q, setErr u 32 = q := ⟨_, rfl⟩
            have HC := Lib.hid (alphabet_CheckSet_n U cu nu u 32 q wr (HOK.out wr HB.out).lu hq (HOK.out wr HB.out).ru (HOK.out wr HB.out).u1 (HOK.out wr HB.out).u2)
            have HQ := Lib.hid hq
            clear hq
            have e0 := (HKL.out wr HBW.out).cell (j := 0) rfl
            try dsimp only at e0
            go_wp2_with fail
            refine HC.out.mono ?_
            rintro e w4 ⟨rfl, rfl⟩
            by_cases h1 : q = 0
            · subst h1
              obtain ⟨q2, hq2⟩ : ∃ q, (u.any fun x => !hasB P.al x) = q := ⟨_, rfl⟩
              have HD := Lib.hid (ints_ContainsFunc U cu nu u 70 (.pointer (some ⟨w.heap.size, 0, none⟩)) (fun x => !hasB P.al x) q2 wr (HOK.out wr HB.out).lu (HOK.out wr HB.out).ru (Nat.le_trans (HOK.out wr HB.out).u1 (HOK.out wr HB.out).u2) (enters_of Tryz.func70 (by kernel_rfl) rfl) (fun x => check_1 w.heap.size A na ca P.al _ x wr (HKX.out wr HB.out) (HOK.out wr HB.out).p.la (HOK.out wr HB.out).p.ra (HOK.out wr HB.out).p.ac (HOK.out wr HB.out).p.cA) hq2)
              have HQ2 := Lib.hid (show decide ((minS u P.al).length = 0) = !q2 by rw [minS_any, hq2])
              clear hq2
              go_wp2_with fail
              refine HD.out.mono ?_
              rintro e w5 ⟨rfl, rfl⟩
              clear HC HD e0
              cases q2 with
              | false =>
                have HS := Lib.hid (show subE u P.al = 0 by unfold subE; rw [if_neg (by rw [HQ.out]; simp), if_pos (by simpa using HQ2.out)])
                go_wp2
                go_roundw
                case rel => exact ⟨_, _, rfl, rfl, .inr (.inl ⟨rfl, HS⟩), HBW⟩
                case measure => simp [intOf]
              | true =>
                have HS := Lib.hid (show subE u P.al = 9 by unfold subE; rw [if_neg (by rw [HQ.out]; simp), if_neg (by simpa using HQ2.out)])
                go_wp2
                go_ret
                exact ⟨congrArg (fun z => Ending.returned (.int .i64 z)) (by rw [HRB.out, HS.out, if_pos (by simp)]), HBD.out _ HB.out⟩
            · have e2 : (q != 0) = true := by simpa using h1
              have HS := Lib.hid (show subE u P.al = q by unfold subE; rw [if_pos (by rw [HQ.out]; exact h1), HQ.out])
              have HN := Lib.hid h1
              clear h1 e0
              go_wp2
              go_ret
              exact ⟨congrArg (fun z => Ending.returned (.int .i64 z)) (by rw [HRB.out, HS.out, if_pos HN.out]), HBD.out _ HB.out⟩
          · have HRC := Lib.hid (HRB.out.trans (if_neg (by rw [HY.out]; simp)))
            obtain ⟨q, hq⟩ : ∃ q, setErr f 32 = q := ⟨_, rfl⟩
            have HC := Lib.hid (alphabet_CheckSet_n F cf nf f 32 q wr (HOK.out wr HB.out).lf hq (HOK.out wr HB.out).rf (HOK.out wr HB.out).f1 (HOK.out wr HB.out).f2)
            have HQ := Lib.hid hq
            clear hq
            have e0 := (HKL.out wr HBW.out).cell (j := 1) rfl
            try dsimp only at e0
            go_wp2_with fail
            refine HC.out.mono ?_
            rintro e w4 ⟨rfl, rfl⟩
            by_cases h1 : q = 0
            · subst h1
              obtain ⟨q2, hq2⟩ : ∃ q, (f.any fun x => !hasB P.al x) = q := ⟨_, rfl⟩
              have HD := Lib.hid (ints_ContainsFunc F cf nf f 70 (.pointer (some ⟨w.heap.size, 0, none⟩)) (fun x => !hasB P.al x) q2 wr (HOK.out wr HB.out).lf (HOK.out wr HB.out).rf (Nat.le_trans (HOK.out wr HB.out).f1 (HOK.out wr HB.out).f2) (enters_of Tryz.func70 (by kernel_rfl) rfl) (fun x => check_1 w.heap.size A na ca P.al _ x wr (HKX.out wr HB.out) (HOK.out wr HB.out).p.la (HOK.out wr HB.out).p.ra (HOK.out wr HB.out).p.ac (HOK.out wr HB.out).p.cA) hq2)
              have HQ2 := Lib.hid (show decide ((minS f P.al).length = 0) = !q2 by rw [minS_any, hq2])
              clear hq2
              go_wp2_with fail
              refine HD.out.mono ?_
              rintro e w5 ⟨rfl, rfl⟩
              clear HC HD e0
              cases q2 with
              | false =>
                have HS := Lib.hid (show subE f P.al = 0 by unfold subE; rw [if_neg (by rw [HQ.out]; simp), if_pos (by simpa using HQ2.out)])
                go_wp2
                go_roundw
                case rel => exact ⟨_, _, rfl, rfl, .inr (.inr ⟨rfl, Lib.hid ⟨HY.out, HS.out⟩⟩), HBW⟩
                case measure => simp [intOf]
              | true =>
                have HS := Lib.hid (show subE f P.al = 9 by unfold subE; rw [if_neg (by rw [HQ.out]; simp), if_neg (by simpa using HQ2.out)])
                go_wp2
                go_ret
                exact ⟨congrArg (fun z => Ending.returned (.int .i64 z)) (by rw [HRC.out, HS.out, if_pos (by simp)]), HBD.out _ HB.out⟩
            · have e2 : (q != 0) = true := by simpa using h1
              have HS := Lib.hid (show subE f P.al = q by unfold subE; rw [if_pos (by rw [HQ.out]; exact h1), HQ.out])
              have HN := Lib.hid h1
              clear h1 e0
              go_wp2
              go_ret
              exact ⟨congrArg (fun z => Ending.returned (.int .i64 z)) (by rw [HRC.out, HS.out, if_pos HN.out]), HBD.out _ HB.out⟩
          · have HRC := Lib.hid ((HRB.out.trans (if_neg (by rw [HY.out.1]; simp))).trans (if_neg (by rw [HY.out.2]; simp)))
            clear HRB
            obtain ⟨q1, hq1⟩ : ∃ q, hasB P.al tick = q := ⟨_, rfl⟩
            obtain ⟨q2, hq2⟩ : ∃ q, hasB u tick = q := ⟨_, rfl⟩
            obtain ⟨q3, hq3⟩ : ∃ q, hasB f tick = q := ⟨_, rfl⟩
            have HD1 := Lib.hid (slices_Contains A ca na P.al tick q1 wr (HOK.out wr HB.out).p.la hq1 (HOK.out wr HB.out).p.ra (HOK.out wr HB.out).p.ac (HOK.out wr HB.out).p.cA)
            have HD2 := Lib.hid (slices_Contains U cu nu u tick q2 wr (HOK.out wr HB.out).lu hq2 (HOK.out wr HB.out).ru (HOK.out wr HB.out).u1 (HOK.out wr HB.out).u2)
            have HD3 := Lib.hid (slices_Contains F cf nf f tick q3 wr (HOK.out wr HB.out).lf hq3 (HOK.out wr HB.out).rf (HOK.out wr HB.out).f1 (HOK.out wr HB.out).f2)
            rw [hq1, hq2, hq3] at HRC
            clear hq1 hq2 hq3
            have a0 := (HKX.out wr HB.out).cell (j := 0) rfl
            have a8 := (HKX.out wr HB.out).cell (j := 8) rfl
            have a9 := (HKX.out wr HB.out).cell (j := 9) rfl
            have a10 := (HKX.out wr HB.out).cell (j := 10) rfl
            go_wp2_with fail
            refine HD1.out.mono ?_
            rintro e w5 ⟨rfl, rfl⟩
            cases q1 with
            | false =>
              go_wp2
              go_ret
              exact ⟨congrArg (fun z => Ending.returned (.int .i64 z)) (by rw [HRC.out]; first | exact (if_pos rfl).symm | exact (if_pos trivial).symm), HBD.out _ HB.out⟩
            | true =>
              have HRD := Lib.hid (HRC.out.trans (if_neg (by simp)))
              clear HRC
              go_wp2_with fail
              refine HD2.out.mono ?_
              rintro e w5 ⟨rfl, rfl⟩
              cases q2 with
              | true =>
                go_wp2
                go_ret
                exact ⟨congrArg (fun z => Ending.returned (.int .i64 z)) (by rw [HRD.out]; first | exact (if_pos rfl).symm | exact (if_pos trivial).symm), HBD.out _ HB.out⟩
              | false =>
                go_wp2_with fail
                refine HD3.out.mono ?_
                rintro e w5 ⟨rfl, rfl⟩
                cases q3 with
                | true =>
                  go_wp2
                  go_ret
                  exact ⟨congrArg (fun z => Ending.returned (.int .i64 z)) (by rw [HRD.out]; first | exact (if_pos rfl).symm | exact (if_pos trivial).symm), HBD.out _ HB.out⟩
                | false =>
                  go_wp2
                  go_ret
                  exact ⟨congrArg (fun z => Ending.returned (.int .i64 z)) (by rw [HRD.out]; exact (if_neg (by simp)).symm), HBD.out _ HB.out⟩
set_option maxRecDepth 100000 in
set_option maxHeartbeats 1600000 in
/-- Stops at a wrong system -/
theorem stops_bad (z : SV) (r : Int) (w : World) (h : z.ok w w.heap.size) (hc : chkF z.p.a z.s.a z.u z.f z.tick = r) (hr : r ≠ 0) :
    Calls Tryz.prog 29 #[.agg (svc z).toArray] w fun e w' => e = .returned (.tuple #[.slice none 0 0, .slice none 0 0, .bool false, .int .i64 r]) ∧ Below w.heap.size w w' := by
  have e1 : (r != 0) = true := by simpa using hr
  have hb1 := box_below w (.cells (svc z).toArray 35)
  obtain ⟨w1, hw1⟩ : ∃ w1, w1 = w.alloc (.cells (svc z).toArray 35) := ⟨_, rfl⟩
  have vs : VarS w1 w.heap.size z := by rw [hw1]; exact VarS.new h
  rw [← hw1] at hb1
  have HC := Lib.hid (open_bad z r w1 vs.ok hc hr)
  have HB1 := Lib.hid hb1; clear hb1
  have VS := Lib.hid vs; clear vs
  have HW1 := Lib.hid hw1; clear hw1
  clear h hc hr
  go_enter Tryz.func29, Tryz.ntmps29
  go_upto_region 1 with fail
  rw [← HW1.out]
  go_wp2_with (first | refine wpList_load_sys rfl _ rfl w.heap.size z (by rfl) VS.out ?_ | fail)
  refine HC.out.mono ?_
  rintro e w2 ⟨b, rfl, hb⟩
  go_wp2
  refine bodyPost_ret (v := .tuple #[.slice none 0 0, .slice none 0 0, .bool false, .int .i64 r]) (by simp [results, Tryz.results29, go_sem]) rfl ?_
  exact ⟨rfl, HB1.out.trans (hb.mono HB1.out.size)⟩
end Go.Proofs.YtioijhpbedmeaaaGreatDoor
