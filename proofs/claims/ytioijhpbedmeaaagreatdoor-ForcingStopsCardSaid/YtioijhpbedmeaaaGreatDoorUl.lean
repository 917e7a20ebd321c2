/- Walks: forcing.Check; a system as a value. -/
import Derived.Test.YtioijhpbedmeaaaGreatDoorUk
namespace Go.Proofs.YtioijhpbedmeaaaGreatDoor
open Go.RowKit Go

/-- a system: two automata, two lists, an event -/
structure SV where
 p : AV
 s : AV
 U : Option Addr
 nu : Nat
 cu : Nat
 u : List Int
 F : Option Addr
 nf : Nat
 cf : Nat
 f : List Int
 tick : Int
def svc (z : SV) : List Value := [.slice z.p.A z.p.na z.p.ca, .int .i64 z.p.a.st, .slice z.p.M z.p.nm z.p.cm, .slice z.p.E z.p.ne z.p.ce, .slice z.s.A z.s.na z.s.ca, .int .i64 z.s.a.st, .slice z.s.M z.s.nm z.s.cm, .slice z.s.E z.s.ne z.s.ce, .slice z.U z.nu z.cu, .slice z.F z.nf z.cf, .int .i64 z.tick]
structure SV.ok (w : World) (B : Nat) (z : SV) : Prop where
 p : z.p.ok w B
 s : z.s.ok w B
 lu : z.u.length = z.nu
 ru : RdI w B z.U z.u
 u1 : z.nu ≤ z.cu
 u2 : z.cu ≤ 9223372036854775807
 lf : z.f.length = z.nf
 rf : RdI w B z.F z.f
 f1 : z.nf ≤ z.cf
 f2 : z.cf ≤ 9223372036854775807
theorem SV.ok.below {w w' : World} {B : Nat} {z : SV} (h : z.ok w B) (hb : Below B w w') : z.ok w' B := ⟨AutR.below h.p hb, AutR.below h.s hb, h.lu, h.ru.below hb, h.u1, h.u2, h.lf, h.rf.below hb, h.f1, h.f2⟩
theorem SV.ok.more {w : World} {B B' : Nat} {z : SV} (h : z.ok w B) (hB : B ≤ B') : z.ok w B' := ⟨AutR.more h.p hB, AutR.more h.s hB, h.lu, h.ru.more hB, h.u1, h.u2, h.lf, h.rf.more hB, h.f1, h.f2⟩
/-- the error of a system -/
def subE (u al : List Int) : Int := if setErr u 32 ≠ 0 then setErr u 32 else if (minS u al).length = 0 then 0 else 9
def chkF (P S : Aut) (u f : List Int) (tick : Int) : Int :=
 if chkA P ≠ 0 then chkA P else if chkA S ≠ 0 then chkA S else if eqB P.al S.al = false then 13
 else if subE u P.al ≠ 0 then subE u P.al else if subE f P.al ≠ 0 then subE f P.al
 else if hasB P.al tick = false then 9 else if (hasB u tick || hasB f tick) = true then 13 else 0
theorem subE_ok {u al : List Int} (h : subE u al = 0) : setErr u 32 = 0 ∧ ∀ v ∈ u, v ∈ al := by
 unfold subE at h
 by_cases h1 : setErr u 32 ≠ 0
 ·rw [if_pos h1] at h; exact absurd h h1
 ·rw [if_neg h1] at h
  by_cases h2 : (minS u al).length = 0
  ·refine ⟨by simpa using h1, fun v hv => ?_⟩
   cases hq : hasB al v with
   | true => exact hasB_mem.1 hq
   | false =>
    have : v ∈ minS u al := by unfold minS; rw [List.mem_filter]; exact ⟨hv, by rw [hq]; rfl⟩
    rw [List.length_eq_zero_iff.1 h2] at this
    cases this
  ·rw [if_neg h2] at h; cases h
theorem idxA_0 (a b c d e f g h : Value) (W : World) : (Instr.index 115 (.agg #[a, b, c, d, e, f, g, h]) (.int .i64 0)).run Tryz.prog W = .ok (.agg #[a, b, c, d]) W := by
 simp [Instr.index, run_underlying Tryz.underlying115, asIntOf, go_sem]
theorem idxA_1 (a b c d e f g h : Value) (W : World) : (Instr.index 115 (.agg #[a, b, c, d, e, f, g, h]) (.int .i64 1)).run Tryz.prog W = .ok (.agg #[e, f, g, h]) W := by
 simp [Instr.index, run_underlying Tryz.underlying115, asIntOf, go_sem]
/-- a system's eleven cells -/
def C11 (W : World) (b : Nat) (l : List Value) : Prop := ∀ j u, l[j]? = some u → W.cell? ⟨b, j, none⟩ = some u
set_option maxRecDepth 100000 in
set_option maxHeartbeats 3200000 in
theorem forcing_Check (z : SV) (r : Int) (w : World) (h : z.ok w w.heap.size) (hr : chkF z.p.a z.s.a z.u z.f z.tick = r) :
  Calls Tryz.prog 37 #[.agg (svc z).toArray] w fun e w' => e = .returned (.int .i64 r) ∧ Below w.heap.size w w' := by
 obtain ⟨⟨A, na, ca, M, nm, cm, E, ne, ce, P⟩, ⟨A', na', ca', M', nm', cm', E', ne', ce', S⟩, U, nu, cu, u, F, nf, cf, f, tick⟩ := z
 unfold svc
 dsimp only at hr ⊢
 obtain ⟨sp, hsp⟩ : ∃ s, P.st = s := ⟨_, rfl⟩
 obtain ⟨ss, hss⟩ : ∃ s, S.st = s := ⟨_, rfl⟩
 have hb1 := box_below w (.cells #[.slice A na ca, .int .i64 P.st, .slice M nm cm, .slice E ne ce, .slice A' na' ca', .int .i64 S.st, .slice M' nm' cm', .slice E' ne' ce', .slice U nu cu, .slice F nf cf, .int .i64 tick] 35)
 obtain ⟨w1, hw9⟩ : ∃ w1, w1 = w.alloc (.cells #[.slice A na ca, .int .i64 P.st, .slice M nm cm, .slice E ne ce, .slice A' na' ca', .int .i64 S.st, .slice M' nm' cm', .slice E' ne' ce', .slice U nu cu, .slice F nf cf, .int .i64 tick] 35) := ⟨_, rfl⟩
 have kx : Blk w1 w.heap.size 35 [.slice A na ca, .int .i64 P.st, .slice M nm cm, .slice E ne ce, .slice A' na' ca', .int .i64 S.st, .slice M' nm' cm', .slice E' ne' ce', .slice U nu cu, .slice F nf cf, .int .i64 tick] := by rw [hw9]; exact Blk.new _ _ [_, _, _, _, _, _, _, _, _, _, _]
 rw [← hw9] at hb1
 have HG0 := Lib.hid (fun (W : World) (hb : Below w1.heap.size w1 W) => (show C11 W w.heap.size [.slice A na ca, .int .i64 P.st, .slice M nm cm, .slice E ne ce, .slice A' na' ca', .int .i64 S.st, .slice M' nm' cm', .slice E' ne' ce', .slice U nu cu, .slice F nf cf, .int .i64 tick] from fun j u hj => (kx.below hb kx.lt).cell hj))
 have HOK := Lib.hid (fun (W : World) (hb : Below w1.heap.size w1 W) => (h.below (hb1.trans (hb.mono hb1.size))).more (hb1.trans (hb.mono hb1.size)).size)
 have HC1 := Lib.hid (fun (W : World) (hb : Below w1.heap.size w1 W) => automaton_Check A na ca M nm cm E ne ce P W (HOK.out W hb).p)
 have HC2 := Lib.hid (fun (W : World) (hb : Below w1.heap.size w1 W) => automaton_Check A' na' ca' M' nm' cm' E' ne' ce' S W (HOK.out W hb).s)
 rw [hsp] at hw9 HG0 HC1 ⊢
 rw [hss] at hw9 HG0 HC2 ⊢
 have lx := kx.lt
 have HW9 := Lib.hid hw9; clear hw9
 have HB1 := Lib.hid hb1; clear hb1
 have HR := Lib.hid hr.symm
 clear hr h kx hsp hss
 have hx0 := fun W => idxA_0 (.slice A na ca) (.int .i64 sp) (.slice M nm cm) (.slice E ne ce) (.slice A' na' ca') (.int .i64 ss) (.slice M' nm' cm') (.slice E' ne' ce') W
 have hx1 := fun W => idxA_1 (.slice A na ca) (.int .i64 sp) (.slice M nm cm) (.slice E ne ce) (.slice A' na' ca') (.int .i64 ss) (.slice M' nm' cm') (.slice E' ne' ce') W
 have hy0 := fun W => idx2_0 (.slice U nu cu) (.slice F nf cf) W
 have hy1 := fun W => idx2_1 (.slice U nu cu) (.slice F nf cf) W
 have HBD := Lib.hid (fun (W : World) (hb : Below w1.heap.size w1 W) => HB1.out.trans (hb.mono HB1.out.size))
 have HS0 := Lib.hid (Below.refl w1.heap.size w1)
 go_enter Tryz.func37, Tryz.ntmps37
 go_upto_region 1 with fail
 rw [← HW9.out]
 have a0 := HG0.out w1 HS0.out 0 _ rfl
 have a1 := HG0.out w1 HS0.out 1 _ rfl
 have a2 := HG0.out w1 HS0.out 2 _ rfl
 have a3 := HG0.out w1 HS0.out 3 _ rfl
 have a4 := HG0.out w1 HS0.out 4 _ rfl
 have a5 := HG0.out w1 HS0.out 5 _ rfl
 have a6 := HG0.out w1 HS0.out 6 _ rfl
 have a7 := HG0.out w1 HS0.out 7 _ rfl
 go_wp2
 clear a0 a1 a2 a3 a4 a5 a6 a7
 go_loopw [4, 5, 14] (fun s4 s5 s14 wr => ∃ (v4 v5 : Value), s4 = v4 ∧ s5 = v5 ∧ (s14 = .int .i64 0 ∨ (s14 = .int .i64 1 ∧ Hid (chkA P = 0)) ∨ (s14 = .int .i64 2 ∧ Hid (chkA P = 0 ∧ chkA S = 0))) ∧ Hid (Below w1.heap.size w1 wr)) (fun _ _ s14 _ => 2 - (intOf s14).toNat)
 case atStart => exact ⟨_, _, rfl, rfl, .inl rfl, HS0⟩
 case round =>
  clear HS0
  obtain ⟨v4, v5, rfl, rfl, hk, HB⟩ := hrel
  rcases hk with rfl | ⟨rfl, HZ⟩ | ⟨rfl, HZ⟩
  ·obtain ⟨q, hq⟩ : ∃ q, chkA P = q := ⟨_, rfl⟩
   have HB2 := Lib.hid (HB.out.alloc HB.out.size (.cells #[.slice A na ca, .int .i64 sp, .slice M nm cm, .slice E ne ce] 33))
   have HC := Lib.hid (HC1.out _ HB2.out)
   rw [hq] at HC
   have HQ := Lib.hid hq
   clear hq
   go_wp2_with fail
   refine HC.out.mono ?_
   rintro e w3 ⟨rfl, hb3⟩
   have HB3 := Lib.hid (HB2.out.trans (hb3.mono HB2.out.size))
   clear HC hb3
   by_cases h1 : q = 0
   ·subst h1
    go_wp2
    go_roundw
    case rel => exact ⟨_, _, rfl, rfl, .inr (.inl ⟨rfl, HQ⟩), HB3⟩
    case measure => simp [intOf]
   ·have e2 : (q != 0) = true := by simpa using h1
    have HE := Lib.hid (show r = q by rw [HR.out]; unfold chkF; rw [HQ.out, if_pos h1])
    clear h1
    go_wp2
    go_ret
    exact ⟨congrArg (fun z => Ending.returned (.int .i64 z)) HE.out.symm, HBD.out _ HB3.out⟩
  ·obtain ⟨q, hq⟩ : ∃ q, chkA S = q := ⟨_, rfl⟩
   have HB2 := Lib.hid (HB.out.alloc HB.out.size (.cells #[.slice A' na' ca', .int .i64 ss, .slice M' nm' cm', .slice E' ne' ce'] 33))
   have HC := Lib.hid (HC2.out _ HB2.out)
   rw [hq] at HC
   have HQ := Lib.hid hq
   clear hq
   go_wp2_with fail
   refine HC.out.mono ?_
   rintro e w3 ⟨rfl, hb3⟩
   have HB3 := Lib.hid (HB2.out.trans (hb3.mono HB2.out.size))
   clear HC hb3
   by_cases h1 : q = 0
   ·subst h1
    go_wp2
    go_roundw
    case rel => exact ⟨_, _, rfl, rfl, .inr (.inr ⟨rfl, Lib.hid ⟨HZ.out, HQ.out⟩⟩), HB3⟩
    case measure => simp [intOf]
   ·have e2 : (q != 0) = true := by simpa using h1
    have HE := Lib.hid (show r = q by rw [HR.out]; unfold chkF; rw [if_neg (by rw [HZ.out]; simp), HQ.out, if_pos h1])
    clear h1
    go_wp2
    go_ret
    exact ⟨congrArg (fun z => Ending.returned (.int .i64 z)) HE.out.symm, HBD.out _ HB3.out⟩
  ·have HWP := Lib.hid (chkA_wf HZ.out.1)
   have HWS := Lib.hid (chkA_wf HZ.out.2)
   have HRA := Lib.hid (show r = if eqB P.al S.al = false then 13 else if subE u P.al ≠ 0 then subE u P.al else if subE f P.al ≠ 0 then subE f P.al else if hasB P.al tick = false then 9 else if (hasB u tick || hasB f tick) = true then 13 else 0 by
    rw [HR.out]; unfold chkF; rw [if_neg (by rw [HZ.out.1]; simp), if_neg (by rw [HZ.out.2]; simp)])
   clear HR
   have a0 := HG0.out wr HB.out 0 _ rfl
   have a4 := HG0.out wr HB.out 4 _ rfl
   obtain ⟨q, hq⟩ : ∃ q, eqB P.al S.al = q := ⟨_, rfl⟩
   have HC := Lib.hid (slices_Equal_n A A' ca ca' na na' P.al S.al q wr (HOK.out wr HB.out).p.la (HOK.out wr HB.out).s.la hq (HOK.out wr HB.out).p.ra (HOK.out wr HB.out).p.ac (HOK.out wr HB.out).p.cA (HOK.out wr HB.out).s.ra)
   rw [hq] at HRA
   clear hq
   go_wp2_with fail
   refine HC.out.mono ?_
   rintro e w3 ⟨rfl, n3, rfl⟩
   have HB3 := Lib.hid (HB.out.trans ((below_drewN (Below.refl wr.heap.size wr) n3).mono HB.out.size))
   clear HC a0 a4
   generalize wr.drewN n3 = w3 at HB3 ⊢
   cases q with
   | false =>
    go_wp2
    go_ret
    exact ⟨congrArg (fun z => Ending.returned (.int .i64 z)) (by rw [HRA.out]; first | exact (if_pos rfl).symm | exact (if_pos trivial).symm), HBD.out _ HB3.out⟩
   | true =>
    have HRB := Lib.hid (HRA.out.trans (if_neg (by simp)))
    clear HRA
    have a8 := HG0.out w3 HB3.out 8 _ rfl
    have a9 := HG0.out w3 HB3.out 9 _ rfl
    go_wp2
    clear a8 a9
    go_loopw [7, 8, 36] (fun s7 s8 s36 wr => ∃ (v7 v8 : Value), s7 = v7 ∧ s8 = v8 ∧ (s36 = .int .i64 0 ∨ (s36 = .int .i64 1 ∧ Hid (subE u P.al = 0)) ∨ (s36 = .int .i64 2 ∧ Hid (subE u P.al = 0 ∧ subE f P.al = 0))) ∧ Hid (Below w1.heap.size w1 wr)) (fun _ _ s36 _ => 2 - (intOf s36).toNat)
    case atStart => exact ⟨_, _, rfl, rfl, .inl rfl, HB3⟩
    case round =>
     clear HB3
     obtain ⟨v7, v8, rfl, rfl, hk, HB⟩ := hrel
     rcases hk with rfl | ⟨rfl, HY⟩ | ⟨rfl, HY⟩
     ·skip
      obtain ⟨q, hq⟩ : ∃ q, setErr u 32 = q := ⟨_, rfl⟩
      have HC := Lib.hid (alphabet_CheckSet_n U cu nu u 32 q wr (HOK.out wr HB.out).lu hq (HOK.out wr HB.out).ru (HOK.out wr HB.out).u1 (HOK.out wr HB.out).u2)
      have HQ := Lib.hid hq
      clear hq
      go_wp2_with fail
      refine HC.out.mono ?_
      rintro e w4 ⟨rfl, rfl⟩
      by_cases h1 : q = 0
      ·subst h1
       obtain ⟨q2, hq2⟩ : ∃ q, decide ((minS u P.al).length = 0) = q := ⟨_, rfl⟩
       have lu := inc_len (n := 32) (setErr_inc HQ.out).1 (setErr_inc HQ.out).2
       have hnp := HWP.out.al_le
       rw [(HOK.out wr HB.out).p.la] at hnp
       rw [(HOK.out wr HB.out).lu] at lu
       have HD := Lib.hid (alphabet_Subset U A nu na cu ca u P.al q2 wr (HOK.out wr HB.out).lu (HOK.out wr HB.out).ru (HOK.out wr HB.out).u1 (HOK.out wr HB.out).u2 (HOK.out wr HB.out).p.la (HOK.out wr HB.out).p.ra (HOK.out wr HB.out).p.ac (HOK.out wr HB.out).p.cA (by dsimp only at lu hnp; omega) (setErr_inc HQ.out).1 HWP.out.inc hq2)
       have HQ2 := Lib.hid hq2
       clear hq2 lu hnp
       have a0 := HG0.out wr HB.out 0 _ rfl
       go_wp2_with fail
       refine HD.out.mono ?_
       rintro e w5 ⟨rfl, hb5⟩
       have HB5 := Lib.hid (HB.out.trans (hb5.mono HB.out.size))
       clear HC HD hb5 a0
       cases q2 with
       | true =>
        have HS := Lib.hid (show subE u P.al = 0 by unfold subE; rw [if_neg (by rw [HQ.out]; simp), if_pos (by simpa using HQ2.out)])
        go_wp2
        go_roundw
        case rel => exact ⟨_, _, rfl, rfl, .inr (.inl ⟨rfl, HS⟩), HB5⟩
        case measure => simp [intOf]
       | false =>
        have HS := Lib.hid (show subE u P.al = 9 by unfold subE; rw [if_neg (by rw [HQ.out]; simp), if_neg (by simpa using HQ2.out)])
        go_wp2
        go_ret
        exact ⟨congrArg (fun z => Ending.returned (.int .i64 z)) (by rw [HRB.out, HS.out, if_pos (by simp)]), HBD.out _ HB5.out⟩
      ·have e2 : (q != 0) = true := by simpa using h1
       have HS := Lib.hid (show subE u P.al = q by unfold subE; rw [HQ.out, if_pos h1])
       have HN := Lib.hid h1
       clear h1
       go_wp2
       go_ret
       exact ⟨congrArg (fun z => Ending.returned (.int .i64 z)) (by rw [HRB.out, HS.out, if_pos HN.out]), HBD.out _ HB.out⟩
     ·have HRC := Lib.hid (HRB.out.trans (if_neg (by rw [HY.out]; simp)))
      obtain ⟨q, hq⟩ : ∃ q, setErr f 32 = q := ⟨_, rfl⟩
      have HC := Lib.hid (alphabet_CheckSet_n F cf nf f 32 q wr (HOK.out wr HB.out).lf hq (HOK.out wr HB.out).rf (HOK.out wr HB.out).f1 (HOK.out wr HB.out).f2)
      have HQ := Lib.hid hq
      clear hq
      go_wp2_with fail
      refine HC.out.mono ?_
      rintro e w4 ⟨rfl, rfl⟩
      by_cases h1 : q = 0
      ·subst h1
       obtain ⟨q2, hq2⟩ : ∃ q, decide ((minS f P.al).length = 0) = q := ⟨_, rfl⟩
       have lu := inc_len (n := 32) (setErr_inc HQ.out).1 (setErr_inc HQ.out).2
       have hnp := HWP.out.al_le
       rw [(HOK.out wr HB.out).p.la] at hnp
       rw [(HOK.out wr HB.out).lf] at lu
       have HD := Lib.hid (alphabet_Subset F A nf na cf ca f P.al q2 wr (HOK.out wr HB.out).lf (HOK.out wr HB.out).rf (HOK.out wr HB.out).f1 (HOK.out wr HB.out).f2 (HOK.out wr HB.out).p.la (HOK.out wr HB.out).p.ra (HOK.out wr HB.out).p.ac (HOK.out wr HB.out).p.cA (by dsimp only at lu hnp; omega) (setErr_inc HQ.out).1 HWP.out.inc hq2)
       have HQ2 := Lib.hid hq2
       clear hq2 lu hnp
       have a0 := HG0.out wr HB.out 0 _ rfl
       go_wp2_with fail
       refine HD.out.mono ?_
       rintro e w5 ⟨rfl, hb5⟩
       have HB5 := Lib.hid (HB.out.trans (hb5.mono HB.out.size))
       clear HC HD hb5 a0
       cases q2 with
       | true =>
        have HS := Lib.hid (show subE f P.al = 0 by unfold subE; rw [if_neg (by rw [HQ.out]; simp), if_pos (by simpa using HQ2.out)])
        go_wp2
        go_roundw
        case rel => exact ⟨_, _, rfl, rfl, .inr (.inr ⟨rfl, Lib.hid ⟨HY.out, HS.out⟩⟩), HB5⟩
        case measure => simp [intOf]
       | false =>
        have HS := Lib.hid (show subE f P.al = 9 by unfold subE; rw [if_neg (by rw [HQ.out]; simp), if_neg (by simpa using HQ2.out)])
        go_wp2
        go_ret
        exact ⟨congrArg (fun z => Ending.returned (.int .i64 z)) (by rw [HRC.out, HS.out, if_pos (by simp)]), HBD.out _ HB5.out⟩
      ·have e2 : (q != 0) = true := by simpa using h1
       have HS := Lib.hid (show subE f P.al = q by unfold subE; rw [HQ.out, if_pos h1])
       have HN := Lib.hid h1
       clear h1
       go_wp2
       go_ret
       exact ⟨congrArg (fun z => Ending.returned (.int .i64 z)) (by rw [HRC.out, HS.out, if_pos HN.out]), HBD.out _ HB.out⟩
     ·have HRC := Lib.hid ((HRB.out.trans (if_neg (by rw [HY.out.1]; simp))).trans (if_neg (by rw [HY.out.2]; simp)))
      clear HRB
      obtain ⟨iu, _⟩ := setErr_inc (subE_ok HY.out.1).1
      obtain ⟨jf, _⟩ := setErr_inc (subE_ok HY.out.2).1
      have lu := inc_len (n := 32) iu (setErr_inc (subE_ok HY.out.1).1).2
      have lf := inc_len (n := 32) jf (setErr_inc (subE_ok HY.out.2).1).2
      obtain ⟨q1, hq1⟩ : ∃ q, hasB P.al tick = q := ⟨_, rfl⟩
      obtain ⟨q2, hq2⟩ : ∃ q, hasB u tick = q := ⟨_, rfl⟩
      obtain ⟨q3, hq3⟩ : ∃ q, hasB f tick = q := ⟨_, rfl⟩
      have hnp := HWP.out.al_le
      rw [(HOK.out wr HB.out).p.la] at hnp
      rw [(HOK.out wr HB.out).lu] at lu
      rw [(HOK.out wr HB.out).lf] at lf
      have HD1 := Lib.hid (alphabet_Contains_n A ca na P.al tick q1 wr (HOK.out wr HB.out).p.la hq1 (HOK.out wr HB.out).p.ra (by dsimp only at hnp; omega) HWP.out.inc)
      have HD2 := Lib.hid (alphabet_Contains_n U cu nu u tick q2 wr (HOK.out wr HB.out).lu hq2 (HOK.out wr HB.out).ru (by dsimp only at lu; omega) iu)
      have HD3 := Lib.hid (alphabet_Contains_n F cf nf f tick q3 wr (HOK.out wr HB.out).lf hq3 (HOK.out wr HB.out).rf (by dsimp only at lf; omega) jf)
      rw [hq1, hq2, hq3] at HRC
      clear hq1 hq2 hq3 iu jf lu lf hnp
      have a0 := HG0.out wr HB.out 0 _ rfl
      have a8 := HG0.out wr HB.out 8 _ rfl
      have a9 := HG0.out wr HB.out 9 _ rfl
      have a10 := HG0.out wr HB.out 10 _ rfl
      go_wp2_with fail
      refine HD1.out.mono ?_
      rintro e w4 ⟨rfl, rfl⟩
      cases q1 with
      | false =>
       go_wp2
       go_ret
       exact ⟨congrArg (fun z => Ending.returned (.int .i64 z)) (by rw [HRC.out]; first | exact (if_pos rfl).symm | exact (if_pos trivial).symm), HBD.out _ HB.out⟩
      | true =>
       have HRD := Lib.hid (HRC.out.trans (if_neg (by simp)))
       clear HRC
       go_wp2_with fail
       refine HD2.out.mono ?_
       rintro e w4 ⟨rfl, rfl⟩
       cases q2 with
       | true =>
        go_wp2
        go_ret
        exact ⟨congrArg (fun z => Ending.returned (.int .i64 z)) (by rw [HRD.out]; first | exact (if_pos rfl).symm | exact (if_pos trivial).symm), HBD.out _ HB.out⟩
       | false =>
        go_wp2_with fail
        refine HD3.out.mono ?_
        rintro e w4 ⟨rfl, rfl⟩
        cases q3 with
        | true =>
         go_wp2
         go_ret
         exact ⟨congrArg (fun z => Ending.returned (.int .i64 z)) (by rw [HRD.out]; first | exact (if_pos rfl).symm | exact (if_pos trivial).symm), HBD.out _ HB.out⟩
        | false =>
         go_wp2
         go_ret
         exact ⟨congrArg (fun z => Ending.returned (.int .i64 z)) (by rw [HRD.out]; exact (if_neg (by simp)).symm), HBD.out _ HB.out⟩
end Go.Proofs.YtioijhpbedmeaaaGreatDoor
