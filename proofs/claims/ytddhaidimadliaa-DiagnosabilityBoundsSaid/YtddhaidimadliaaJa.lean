/- Models of diagnosability in memory; walks: reach.Dead, diagnosability.Check, classed. -/
import Derived.Test.YtddhaidimadliaaIp
import Derived.Test.YtddhaidimadliaaUe
import Derived.Test.YtddhaidimadliaaNd

namespace Go.Proofs.Ytddhaidimadliaa
open Go.RowKit Go

/-- a model as a value -/
structure DV where
 x : AV
 V : Option Addr
 nv : Nat
 cv : Nat
 l : List Ev
def dvc (z : DV) : List Value := [.slice z.x.A z.x.na z.x.ca, .int .i64 z.x.a.st, .slice z.x.M z.x.nm z.x.cm, .slice z.x.E z.x.ne z.x.ce, .slice z.V z.nv z.cv]
structure DV.ok (w : World) (B : Nat) (z : DV) : Prop where
 x : z.x.ok w B
 ll : z.l.length = z.nv
 rl : RdE w B z.V z.l
 c1 : z.nv ≤ z.cv
 c2 : z.cv ≤ 9223372036854775807
theorem DV.ok.below {w w' : World} {B : Nat} {z : DV} (h : z.ok w B) (hb : Below B w w') : z.ok w' B := ⟨AutR.below h.x hb, h.ll, h.rl.below hb, h.c1, h.c2⟩
theorem DV.ok.more {w : World} {B B' : Nat} {z : DV} (h : z.ok w B) (hB : B ≤ B') : z.ok w B' := ⟨AutR.more h.x hB, h.ll, h.rl.more hB, h.c1, h.c2⟩
/-- the error of a model -/
def dmE (z : DV) : Int := if chkE z.l ≠ 0 then chkE z.l else if chkA z.x.a ≠ 0 then chkA z.x.a else if z.x.a.al.any (fun v => decide ((z.nv : Int) ≤ v)) = true then 2 else 0
/-- the error of a model and a class -/
def clsE (z : DV) (c : Int) : Int := if dmE z ≠ 0 then dmE z else if c < 1 ∨ 4 < c then 2 else 0
theorem check1_ok (b : Nat) (V : Option Addr) (nv cv : Nat) (x : Int) (w : World) (hc : w.cell? ⟨b, 4, none⟩ = some (.slice V nv cv)) :
  Calls Try.prog 83 #[.int .i64 x, .pointer (some ⟨b, 0, none⟩)] w fun e w' => e = .returned (.bool (decide ((nv : Int) ≤ x))) ∧ w = w' := by
 go_enter Try.func83, Try.ntmps83
 go_wp2
 go_ret
 exact ⟨rfl, rfl⟩
set_option maxRecDepth 100000 in
set_option maxHeartbeats 1600000 in
theorem dm_Check (z : DV) (r : Int) (w : World) (h : z.ok w w.heap.size) (hr : dmE z = r) :
  Calls Try.prog 39 #[.agg (dvc z).toArray] w fun e w' => e = .returned (.int .i64 r) ∧ Below w.heap.size w w' := by
 obtain ⟨⟨A, na, ca, M, nm, cm, E, ne, ce, a⟩, V, nv, cv, l⟩ := z
 unfold dmE at hr
 dsimp only at hr
 have hla := h.x.la
 have hac := h.x.ac
 have hcA := h.x.cA
 dsimp only at hla hac hcA
 have hb1 := box_below w (.cells #[.slice A na ca, .int .i64 a.st, .slice M nm cm, .slice E ne ce, .slice V nv cv] 37)
 obtain ⟨w1, hw1⟩ : ∃ w1, w1 = w.alloc (.cells #[.slice A na ca, .int .i64 a.st, .slice M nm cm, .slice E ne ce, .slice V nv cv] 37) := ⟨_, rfl⟩
 have kx : Blk w1 w.heap.size 37 [.slice A na ca, .int .i64 a.st, .slice M nm cm, .slice E ne ce, .slice V nv cv] := by rw [hw1]; exact Blk.new _ _ [_, _, _, _, _]
 rw [← hw1] at hb1
 have HK := Lib.hid (fun (W : World) (hb : Below w1.heap.size w1 W) => kx.below hb kx.lt)
 have HOK := Lib.hid (fun (W : World) (hb : Below w1.heap.size w1 W) => (h.below (hb1.trans (hb.mono hb1.size))).more (hb1.trans (hb.mono hb1.size)).size)
 have HC1 := Lib.hid (alphabet_Check V cv nv l w1 h.ll (HOK.out w1 (Below.refl _ _)).rl)
 have HA := Lib.hid (fun (W : World) (hb : Below w1.heap.size w1 W) => automaton_Check A na ca M nm cm E ne ce a W (HOK.out W hb).x)
 have HRA := Lib.hid (fun (W : World) (hb : Below w1.heap.size w1 W) => (HOK.out W hb).x.ra)
 clear h
 obtain ⟨sv, hsv⟩ : ∃ s, a.st = s := ⟨_, rfl⟩
 unfold dvc
 dsimp only
 rw [hsv] at hw1 HK HA ⊢
 have a4 : w1.cell? ⟨w.heap.size, 4, none⟩ = some (.slice V nv cv) := (HK.out w1 (Below.refl _ _)).cell (j := 4) rfl
 obtain ⟨re, hre⟩ : ∃ r, chkE l = r := ⟨_, rfl⟩
 rw [hre] at HC1 hr
 obtain ⟨ra, hra⟩ : ∃ r, chkA a = r := ⟨_, rfl⟩
 rw [hra] at HA hr
 have HW1 := Lib.hid hw1; clear hw1
 have HB1 := Lib.hid hb1; clear hb1
 have HR := Lib.hid hr; clear hr
 have lx := kx.lt
 clear kx hsv hre hra
 go_enter Try.func39, Try.ntmps39
 go_wp2_with fail
 rw [← HW1.out]
 refine HC1.out.mono ?_
 rintro e w2 ⟨rfl, hb2⟩
 have HB2 := Lib.hid (HB1.out.trans (hb2.mono HB1.out.size))
 by_cases h1 : re = 0
 ·subst h1
  have k2 := HK.out w2 hb2
  have a0 := k2.cell (j := 0) rfl
  have a1 := k2.cell (j := 1) rfl
  have a2 := k2.cell (j := 2) rfl
  have a3 := k2.cell (j := 3) rfl
  have HA2 := Lib.hid (HA.out w2 hb2)
  have HB12 := Lib.hid hb2
  clear a4 k2 HC1 hb2
  go_wp2_with fail
  refine HA2.out.mono ?_
  rintro e w3 ⟨rfl, hb3⟩
  have HB3 := Lib.hid (HB2.out.trans (hb3.mono HB2.out.size))
  have HB13 := Lib.hid (HB12.out.trans (hb3.mono HB12.out.size))
  clear a0 a1 a2 a3 HA2 hb3
  by_cases h2 : ra = 0
  ·subst h2
   have k3 := HK.out w3 HB13.out
   have a0 := k3.cell (j := 0) rfl
   obtain ⟨q, hq⟩ : ∃ q, a.al.any (fun v => decide ((nv : Int) ≤ v)) = q := ⟨_, rfl⟩
   have HCF := Lib.hid (ints_ContainsFunc A ca na a.al 83 (.pointer (some ⟨w.heap.size, 0, none⟩)) (fun v => decide ((nv : Int) ≤ v)) q w3 hla (HRA.out w3 HB13.out) (by omega) (fun _ _ => rfl) (fun x => check1_ok w.heap.size V nv cv x w3 (k3.cell (j := 4) rfl)) hq)
   rw [hq] at HR
   clear k3 hq
   go_wp2_with fail
   refine HCF.out.mono ?_
   rintro e w' ⟨rfl, rfl⟩
   clear a0 HCF
   cases q with
   | true =>
    have HR2 := Lib.hid (show r = 2 from HR.out.symm.trans (by simp))
    go_wp2
    go_ret
    exact ⟨ret_int HR2.out.symm, HB3.out⟩
   | false =>
    have HR2 := Lib.hid (show r = 0 from HR.out.symm.trans (by simp))
    go_wp2
    go_ret
    exact ⟨ret_int HR2.out.symm, HB3.out⟩
  ·have e1 : (ra != 0) = true := by simpa using h2
   have HR2 := Lib.hid (show ra = r by have h9 := HR.out; rw [if_neg (by simp), if_pos h2] at h9; exact h9)
   clear h2
   go_wp2
   go_ret
   exact ⟨ret_int HR2.out, HB3.out⟩
 ·have e1 : (re != 0) = true := by simpa using h1
  have HR2 := Lib.hid (show re = r by have h9 := HR.out; rw [if_pos h1] at h9; exact h9)
  clear a4 hb2 h1
  go_wp2
  go_ret
  exact ⟨ret_int HR2.out, HB2.out⟩
end Go.Proofs.Ytddhaidimadliaa
