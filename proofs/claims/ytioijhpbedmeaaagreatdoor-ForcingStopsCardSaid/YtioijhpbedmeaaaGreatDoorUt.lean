/- Walks: forcing.Controllable. -/
import Derived.Test.YtioijhpbedmeaaaGreatDoorUs
namespace Go.Proofs.YtioijhpbedmeaaaGreatDoor
open Go.RowKit Go

theorem setErr_mk {l : List Int} {n : Int} (h1 : Inc l) (h2 : ∀ x ∈ l, 0 ≤ x ∧ x < n) : setErr l n = 0 := by
 unfold setErr
 exact setErrG_mk (fun q hq => by cases hq) h1 h2
theorem flt_head {p : Int → Bool} {n : Nat} {s : Int} {l : List Int} (h : (rngI (n : Int)).filter p = s :: l) : 0 ≤ s ∧ s < (n : Int) ∧ p s = true ∧ ∀ k : Nat, (k : Int) < s → p (k : Int) = false := by
 have hs : s ∈ (rngI (n : Int)).filter p := by rw [h]; exact List.mem_cons_self ..
 obtain ⟨h1, h2⟩ := List.mem_filter.1 hs
 obtain ⟨h3, h4⟩ := rngI_mem.1 h1
 refine ⟨h3, h4, h2, fun k hk => ?_⟩
 cases hp : p (k : Int) with
 | false => rfl
 | true =>
  have hm : (k : Int) ∈ (rngI (n : Int)).filter p := List.mem_filter.2 ⟨rngI_mem.2 ⟨by omega, by omega⟩, hp⟩
  have hi : Inc ((rngI (n : Int)).filter p) := inc_flt (rng_inc _) _
  rw [h] at hm hi
  rcases List.mem_cons.1 hm with e | e
  ·omega
  ·have := (List.pairwise_cons.1 hi).1 _ e
   omega
/-- is something in a state wrongly refused? -/
def wrgP (P q : Aut) (T : List (List Int)) (U F : List Int) (tick : Int) (i : Int) : Bool := !(wrgE P q T U F tick i).isEmpty
theorem badE_eq (P q : Aut) (T : List (List Int)) (U F : List Int) (tick : Int) (n : Nat) : badE P q T U F tick n = (rngI (n : Int)).filter (wrgP P q T U F tick) := rfl
/-- what Controllable answers, by the wrong states -/
def ctlB (P q : Aut) (T : List (List Int)) (U F : List Int) (tick : Int) (n : Nat) : List Int → List Int × Int × Bool
 | [] => ([], 0, true)
 | s :: _ => ((pathW q.ed n s).reverse, (wrgE P q T U F tick s).headD 0, false)
theorem ctlE_eq (P q : Aut) (T : List (List Int)) (U F : List Int) (tick : Int) : ctlE P q T U F tick = ctlB P q T U F tick T.length (badE P q T U F tick T.length) := by
 unfold ctlE
 cases badE P q T U F tick T.length <;> rfl
/-- what Controllable returns -/
def RetCtl (c : List Int × Int × Bool) (w : World) (e : Ending) (w' : World) : Prop :=
 ∃ v, e = .returned (.tuple #[.agg #[v, .int .i64 c.2.1], .bool c.2.2, .int .i64 0]) ∧ w'.ownsRow w.heap.size 3 1 v c.1.length (iv c.1) ∧ Below w.heap.size w w'
set_option maxHeartbeats 800000 in
theorem ctl1_ok (c5 b : Nat) (z : SV) (x : AV) (q : Aut) (B : Option Addr) (nb cb : Nat) (T : List (List Int)) (i : Int) (w : World) (hk : Blk w c5 83 [.pointer (some ⟨b, 0, none⟩)]) (h : LpR w b z x B nb cb T) (hP : Prob z.p.a z.s.a q T) (hq : x.a = q) (hU : subE z.u z.p.a.al = 0) (hF : subE z.f z.p.a.al = 0) (h0 : 0 ≤ i) (h1 : i < q.st) :
  Calls Tryz.prog 44 #[.int .i64 i, .pointer (some ⟨c5, 0, none⟩)] w fun e w' => e = .returned (.bool (wrgP z.p.a q T z.u z.f z.tick i)) ∧ Below w.heap.size w w' := by
 have HW := Lib.hid (loop_wrong b z x q B nb cb T i w h hP hq hU hF h0 h1)
 have c0 := hk.cell (j := 0) rfl
 obtain ⟨L, hL⟩ : ∃ L, wrgE z.p.a q T z.u z.f z.tick i = L := ⟨_, rfl⟩
 unfold wrgP
 rw [hL] at HW ⊢
 clear h hP hq hU hF hL hk
 go_enter Tryz.func44, Tryz.ntmps44
 go_wp2_with fail
 refine HW.out.mono ?_
 rintro e w2 ⟨v, rfl, ho, hb⟩
 obtain ⟨V, c, rfl⟩ := own_shape ho
 have HB := Lib.hid hb
 clear ho hb HW
 cases L with
 | nil =>
  go_wp2
  go_ret
  exact ⟨rfl, HB.out⟩
 | cons y l =>
  obtain ⟨m, hm⟩ : ∃ m, (y :: l).length = m := ⟨_, rfl⟩
  have HM := Lib.hid (show decide (0 < m) = true by rw [← hm]; simp)
  rw [hm]
  clear hm
  go_wp2
  go_ret
  exact ⟨by show Ending.returned (.bool (decide (0 < m))) = _; rw [HM.out]; rfl, HB.out⟩
set_option maxRecDepth 100000 in
set_option maxHeartbeats 3200000 in
theorem controllable_ok (z : SV) (q : Aut) (T : List (List Int)) (w : World) (h : z.ok w w.heap.size) (hP : Prob z.p.a z.s.a q T) (hc : chkF z.p.a z.s.a z.u z.f z.tick = 0) (hU : subE z.u z.p.a.al = 0) (hF : subE z.f z.p.a.al = 0) :
  Calls Tryz.prog 13 #[.agg (svc z).toArray] w (RetCtl (ctlE z.p.a q T z.u z.f z.tick) w) := by
 obtain ⟨⟨A, na, ca, M, nm, cm, E, ne, ce, P⟩, ⟨A', na', ca', M', nm', cm', E', ne', ce', S⟩, U, nu, cu, u, F, nf, cf, f, tick⟩ := z
 dsimp only at hc hP hU hF
 obtain ⟨sp, hsp⟩ : ∃ s, P.st = s := ⟨_, rfl⟩
 obtain ⟨ss, hss⟩ : ∃ s, S.st = s := ⟨_, rfl⟩
 have hb0 := box_below w (.cells #[.slice A na ca, .int .i64 P.st, .slice M nm cm, .slice E ne ce, .slice A' na' ca', .int .i64 S.st, .slice M' nm' cm', .slice E' ne' ce', .slice U nu cu, .slice F nf cf, .int .i64 tick] 35)
 have hb1 := hb0.alloc hb0.size (.cells #[.slice none 0 0, .int .i64 0] 42)
 obtain ⟨w1, hw9⟩ : ∃ w1, w1 = (w.alloc (.cells #[.slice A na ca, .int .i64 P.st, .slice M nm cm, .slice E ne ce, .slice A' na' ca', .int .i64 S.st, .slice M' nm' cm', .slice E' ne' ce', .slice U nu cu, .slice F nf cf, .int .i64 tick] 35)).alloc (.cells #[.slice none 0 0, .int .i64 0] 42) := ⟨_, rfl⟩
 have kx : Blk w1 w.heap.size 35 [.slice A na ca, .int .i64 P.st, .slice M nm cm, .slice E ne ce, .slice A' na' ca', .int .i64 S.st, .slice M' nm' cm', .slice E' ne' ce', .slice U nu cu, .slice F nf cf, .int .i64 tick] := by rw [hw9]; exact (Blk.new _ _ [_, _, _, _, _, _, _, _, _, _, _]).al _
 have kz : Blk w1 (w.heap.size + 1) 42 [.slice none 0 0, .int .i64 0] := by rw [hw9]; exact Blk.at_ _ _ [_, _] (by simp)
 have sz1 : w1.heap.size = w.heap.size + 2 := by rw [hw9]; simp
 rw [← hw9] at hb1
 have HG0 := Lib.hid (fun (W : World) (hb : Below w1.heap.size w1 W) => (show C11 W w.heap.size [.slice A na ca, .int .i64 P.st, .slice M nm cm, .slice E ne ce, .slice A' na' ca', .int .i64 S.st, .slice M' nm' cm', .slice E' ne' ce', .slice U nu cu, .slice F nf cf, .int .i64 tick] from fun j u hj => (kx.below hb kx.lt).cell hj))
 have HOK := Lib.hid (fun (W : World) (hb : Below w1.heap.size w1 W) => (h.below (hb1.trans (hb.mono hb1.size))).more (hb1.trans (hb.mono hb1.size)).size)
 have HCK := Lib.hid (open_ok ⟨⟨A, na, ca, M, nm, cm, E, ne, ce, P⟩, ⟨A', na', ca', M', nm', cm', E', ne', ce', S⟩, U, nu, cu, u, F, nf, cf, f, tick⟩ q T w1 (HOK.out w1 (Below.refl _ _)) hP hc)
 unfold svc at HCK ⊢
 dsimp only at HCK ⊢
 rw [hsp] at hw9 HG0 HCK ⊢
 rw [hss] at hw9 HG0 HCK ⊢
 have HW9 := Lib.hid hw9; clear hw9
 have HB1 := Lib.hid hb1; clear hb1
 have KZ := Lib.hid kz; clear kz
 have SZ1 := Lib.hid sz1; clear sz1
 have lx := kx.lt
 clear h kx hb0 hsp hss
 have HBD := Lib.hid (fun (W : World) (hb : Below w1.heap.size w1 W) => HB1.out.trans (hb.mono HB1.out.size))
 have HS0 := Lib.hid (Below.refl w1.heap.size w1)
 go_enter Tryz.func13, Tryz.ntmps13
 go_upto_region 1 with fail
 rw [← HW9.out]
 have a0 := HG0.out w1 HS0.out 0 _ rfl
 have a1 := HG0.out w1 HS0.out 1 _ rfl
 have a2 := HG0.out w1 HS0.out 2 _ rfl
 have a3 := HG0.out w1 HS0.out 3 _ rfl
 have a4 := HG0.out w1 HS0.out 4 _ rfl
 have a5 := HG0.out w1 HS0.out 5 _ rfl
 have a6 := HG0.out w1 HS0.out 6 _ rfl
 have a7 := HG0.out w1 HS0.out 7 _ rfl
 have a8 := HG0.out w1 HS0.out 8 _ rfl
 have a9 := HG0.out w1 HS0.out 9 _ rfl
 have a10 := HG0.out w1 HS0.out 10 _ rfl
 go_wp2_with fail
 clear a0 a1 a2 a3 a4 a5 a6 a7 a8 a9 a10
 refine HCK.out.mono ?_
 rintro e w2 ⟨b, ⟨A2, na2, ca2, M2, nm2, cm2, E2, ne2, ce2, q'⟩, B2, nb2, cb2, rfl, hb0, hq, hl, hB2⟩
 dsimp only at hq
 obtain rfl := hq
 clear HCK
 have hb3 := box_below w2 (.cells #[.pointer (some ⟨b, 0, none⟩)] 83)
 have hB3 := hB2.trans (hb3.mono hB2.size)
 have k5 : Blk (w2.alloc (.cells #[.pointer (some ⟨b, 0, none⟩)] 83)) w2.heap.size 83 [.pointer (some ⟨b, 0, none⟩)] := Blk.new _ _ [_]
 have hl3 := hl.below hb3
 go_upto_region 2 with fail
 generalize w2.alloc (.cells #[.pointer (some ⟨b, 0, none⟩)] 83) = w3 at hB3 k5 hl3 ⊢
 generalize w2.heap.size = c5 at k5 ⊢
 clear hb3 hB2 hb0 hl HG0 HOK
 have hT := hP.tups.1
 obtain ⟨n, hn⟩ : ∃ n, T.length = n := ⟨_, rfl⟩
 rw [hn] at hT
 have hn4 : n ≤ 4096 := by have := hP.len; omega
 have HST := Lib.hid (loop_states b 44 n (.pointer (some ⟨c5, 0, none⟩)) (wrgP P q' T u f tick) _ _ B2 nb2 cb2 T w3 hl3 hT hn4 (fun _ _ => rfl)
  (fun i W hi hb => ctl1_ok c5 b _ _ q' B2 nb2 cb2 T (i : Int) W (k5.below hb k5.lt) (hl3.below hb) hP rfl hU hF (by omega) (by rw [hT]; omega)))
 have c5c := k5.cell (j := 0) rfl
 have HL := Lib.hid (fun (W : World) (hb : Below w3.heap.size w3 W) => hl3.below hb)
 have HK5 := Lib.hid (fun (W : World) (hb : Below w3.heap.size w3 W) => (k5.below hb k5.lt).cell (j := 0) rfl)
 have HB3 := Lib.hid hB3; clear hB3
 have HPR := Lib.hid hP; clear hP
 have HT := Lib.hid hT; clear hT
 have HN := Lib.hid hn; clear hn
 have HUF := Lib.hid (show subE u P.al = 0 ∧ subE f P.al = 0 from ⟨hU, hF⟩)
 clear k5 hl3 hU hF hc
 go_wp2_with fail
 refine HST.out.mono ?_
 rintro e w4 ⟨v1, v2, rfl, ho1, ho2, hb4⟩
 rw [← badE_eq] at ho1
 have HB4 := Lib.hid hb4
 have HBA := Lib.hid (HB3.out.trans (hb4.mono HB3.out.size))
 obtain ⟨bl, hbl⟩ : ∃ l, badE P q' T u f tick n = l := ⟨_, rfl⟩
 have HCE := Lib.hid (show ctlE P q' T u f tick = ctlB P q' T u f tick n bl by rw [ctlE_eq, HN.out, hbl])
 have HBL := Lib.hid hbl
 rw [hbl] at ho1
 clear HST hb4 c5c hbl
 cases bl with
 | nil =>
  obtain ⟨V1, c1, rfl⟩ := own_shape ho1
  have hkz := KZ.out.below HBA.out KZ.out.lt
  have f0 := hkz.free 0
  have f1 := hkz.free 1
  have e0 := hkz.cell (j := 0) rfl
  have e1 := hkz.cell (j := 1) rfl
  have l9 := hkz.lt
  have HK2 := Lib.hid ((hkz.set (j := 0) (by simp) (.slice none 0 0)).set (j := 1) (by simp) (.int .i64 0))
  have HBF := Lib.hid (((HBD.out _ HBA.out).setCell (p := ⟨w.heap.size + 1, 0, none⟩) (by show w.heap.size ≤ w.heap.size + 1; omega) (.slice none 0 0)).setCell (p := ⟨w.heap.size + 1, 1, none⟩) (by show w.heap.size ≤ w.heap.size + 1; omega) (.int .i64 0))
  clear hkz
  clear ho1 ho2
  go_wp2
  have z0 := HK2.out.cell (j := 0) rfl
  have z1 := HK2.out.cell (j := 1) rfl
  refine bodyPost_ret (v := .tuple #[.agg #[.slice none 0 0, .int .i64 0], .bool true, .int .i64 0]) (by simp [results, Tryz.results13, go_sem, z0, z1]) rfl ?_
  rw [HCE.out]
  exact ⟨_, rfl, World.ownsRow_nil _ _ _ _, HBF.out⟩
 | cons s0 l0 =>
  obtain ⟨f1, f2, f3, f4⟩ := flt_head HBL.out
  obtain ⟨s, rfl⟩ : ∃ s : Nat, s0 = (s : Int) := ⟨s0.toNat, by omega⟩
  have hsn : s < n := by omega
  have hnum := HPR.out.num
  rw [HN.out] at hnum
  have hinc : Inc ((s : Int) :: l0) := by rw [← HBL.out, badE_eq]; exact inc_flt (rng_inc _) _
  have hrng : ∀ t ∈ ((s : Int) :: l0), 0 ≤ t ∧ t < (n : Int) := fun t ht => by
   rw [← HBL.out, badE_eq] at ht
   exact rngI_mem.1 (List.mem_filter.1 ht).1
  obtain ⟨V1, c1, rfl, p1, p2, r1⟩ := own_slI ho1
  obtain ⟨V2, c2, hv2, p3, p4, r2⟩ := own_slI (l := rngI (n : Int)) (by rw [rngI_len]; exact ho2)
  rw [rngI_len] at p3 hv2
  subst hv2
  have hfirst : pathS q' ((0 : Nat) : Int) (fl (inF n ((s : Int) :: l0))) (fun _ => true) = some (pathW q'.ed n s).reverse := by
   refine path_first hnum (fun _ => rfl) (by rw [HT.out]; omega) ((inF_fl hrng (by omega)).2 (List.mem_cons_self ..)) (fun k hk => ?_)
   cases hq : fl (inF n ((s : Int) :: l0)) (k : Int) with
   | false => rfl
   | true =>
    have := (inF_fl hrng (by omega)).1 hq
    rcases List.mem_cons.1 this with e | e
    ·omega
    ·have := (List.pairwise_cons.1 hinc).1 _ e
     omega
  have hPA := reach_Path ⟨A2, na2, ca2, M2, nm2, cm2, E2, ne2, ce2, q'⟩ w4 n 0 (HL.out w4 HB4.out).xo HPR.out.pwf HT.out (by omega) V1 _ c1 ((s : Int) :: l0) V2 n c2 (rngI (n : Int)) rfl r1 p1 p2 (setErr_mk hinc hrng) hrng (rngI_len n) r2 p3 p4 (setErr_mk (rng_inc _) (fun t ht => rngI_mem.1 ht)) (fun t ht => rngI_mem.1 ht)
   ((inF_fl (fun t ht => rngI_mem.1 ht) (by omega)).2 (rngI_mem.2 ⟨by omega, by omega⟩)) (fun _ => true) (fun e he => (inF_fl (fun t ht => rngI_mem.1 ht) (by have h9 : e ∈ q'.ed := he; have := HPR.out.pwf.ev_rng h9; omega)).2 (rngI_mem.2 (by have h9 : e ∈ q'.ed := he; have := HPR.out.pwf.ev_rng h9; have := HT.out; omega))) _ hfirst
  rw [show ((0 : Nat) : Int) = 0 from rfl] at hPA
  dsimp only at hPA
  rw [HT.out] at hPA
  have HPA := Lib.hid hPA; clear hPA
  obtain ⟨ws, hws⟩ : ∃ l, (pathW q'.ed n s).reverse = l := ⟨_, rfl⟩
  rw [hws] at HPA
  have hrun := path_run hnum s n (by rw [HT.out]; omega) (by omega)
  rw [hws] at hrun
  have hal := goS_al HPR.out.pwf ws 0 _ hrun
  have HRN := Lib.hid (show runS (stA q') 0 ws = ((s : Int), ws.length) from by
   rw [goS_run] at hrun
   split at hrun
   ·rename_i hq; injection hrun with hrun; exact Prod.ext hrun hq
   ·cases hrun)
  have HWS := Lib.hid hws
  have HAL := Lib.hid hal
  have HF3 := Lib.hid f3
  have HLW := Lib.hid (fun (W : World) (hb : Below w3.heap.size w3 W) => loop_wrong b _ _ q' B2 nb2 cb2 T (s : Int) W (HL.out W hb) HPR.out rfl HUF.out.1 HUF.out.2 (by omega) (by rw [HT.out]; omega))
  dsimp only at HLW
  clear hfirst hinc hrng hws hrun hal hnum f1 f2 f3 f4 ho1 ho2 r1 r2 p1 p2 p3 p4
  have k4 := HK5.out w4 HB4.out
  have a11 := (HL.out w4 HB4.out).c 11 _ rfl
  have a12 := (HL.out w4 HB4.out).c 12 _ rfl
  have a13 := (HL.out w4 HB4.out).c 13 _ rfl
  have a14 := (HL.out w4 HB4.out).c 14 _ rfl
  dsimp only at a11 a12 a13 a14
  rw [HT.out] at a12
  have g1 : ((((s : Int) :: l0).length : Nat) : Int) ≠ 0 := by simp; omega
  obtain ⟨m1, hm1⟩ : ∃ m, ((s : Int) :: l0).length = m := ⟨_, rfl⟩
  rw [hm1] at g1 HPA ⊢
  have g2 : ((m1 : Int) == 0) = false := by simpa using g1
  clear g1 hm1
  go_wp2_with fail
  clear k4 a11 a12 a13 a14
  refine HPA.out.mono ?_
  rintro e w6 ⟨v6, rfl, ho6, hb6⟩
  have HB6 := Lib.hid (HB4.out.trans (hb6.mono HB4.out.size))
  obtain ⟨V6, c6, rfl, p61, p62, r6⟩ := own_slI ho6
  have HO6 := Lib.hid ho6
  have hRU := automaton_Run A2 M2 E2 na2 ca2 nm2 cm2 ne2 ce2 q' 0 V6 c6 _ ws _ w6 (HL.out w6 HB6.out).xo HPR.out.pwf (by omega) (by rw [HT.out]; omega) rfl r6 p61 p62 HAL.out HRN.out
  rw [HT.out] at hRU
  dsimp only at hRU
  have HRU := Lib.hid hRU; clear hRU
  have k4 := HK5.out w6 HB6.out
  have a11 := (HL.out w6 HB6.out).c 11 _ rfl
  have a12 := (HL.out w6 HB6.out).c 12 _ rfl
  have a13 := (HL.out w6 HB6.out).c 13 _ rfl
  have a14 := (HL.out w6 HB6.out).c 14 _ rfl
  dsimp only at a11 a12 a13 a14
  rw [HT.out] at a12
  clear ho6 hb6 r6 p61 p62 HPA
  obtain ⟨nw, hnw⟩ : ∃ m, ws.length = m := ⟨_, rfl⟩
  rw [hnw] at HRU HO6 ⊢
  have HNW := Lib.hid hnw; clear hnw
  go_wp2_with fail
  clear k4 a11 a12 a13 a14
  refine HRU.out.mono ?_
  rintro e w7 ⟨rfl, hb7⟩
  have HB7 := Lib.hid (HB6.out.trans (hb7.mono HB6.out.size))
  have HO7 := Lib.hid (own_below HO6.out hb7)
  have k4 := HK5.out w7 HB7.out
  have HW7 := Lib.hid (HLW.out w7 HB7.out)
  clear hb7 HRU HLW HO6
  obtain ⟨L, hL⟩ : ∃ L, wrgE P q' T u f tick (s : Int) = L := ⟨_, rfl⟩
  rw [hL] at HW7
  have HLL := Lib.hid hL
  clear hL
  cases L with
  | nil =>
   exfalso
   have := HF3.out
   unfold wrgP at this
   rw [HLL.out] at this
   cases this
  | cons y L =>
   go_wp2_with fail
   clear k4
   refine HW7.out.mono ?_
   rintro e w8 ⟨v8, rfl, ho8, hb8⟩
   have HB8 := Lib.hid (HB7.out.trans (hb8.mono HB7.out.size))
   have HO8 := Lib.hid (own_below HO7.out hb8)
   obtain ⟨V8, c8, rfl, p81, p82, r8⟩ := own_slI ho8
   obtain ⟨ad, y0, rfl, _, hy0, hcell⟩ := r8.at_ (k := 0) (by simp)
   obtain rfl : y = y0 := by simpa using hy0
   have hcell := cell_zero hcell
   have HBX := Lib.hid (HB3.out.trans (HB8.out.mono HB3.out.size))
   have hlp : (0 : Int) < (((y :: L).length : Nat) : Int) := by simp
   obtain ⟨m8, hm8⟩ : ∃ m, (y :: L).length = m := ⟨_, rfl⟩
   rw [hm8] at hlp ⊢
   clear ho8 hb8 r8 p81 p82 hy0 HW7 HO7 hm8
   have hkz := KZ.out.below HBX.out KZ.out.lt
   have f0 := hkz.free 0
   have f1 := hkz.free 1
   have e0 := hkz.cell (j := 0) rfl
   have e1 := hkz.cell (j := 1) rfl
   have l9 := hkz.lt
   have HK2 := Lib.hid ((hkz.set (j := 0) (by simp) (.slice V6 nw c6)).set (j := 1) (by simp) (.int .i64 y))
   have HBF := Lib.hid (((HBD.out _ HBX.out).setCell (p := ⟨w.heap.size + 1, 0, none⟩) (by show w.heap.size ≤ w.heap.size + 1; omega) (.slice V6 nw c6)).setCell (p := ⟨w.heap.size + 1, 1, none⟩) (by show w.heap.size ≤ w.heap.size + 1; omega) (.int .i64 y))
   clear hkz
   have hg : w8.grownBy ((w8.setCell ⟨w.heap.size + 1, 0, none⟩ (.slice V6 nw c6)).setCell ⟨w.heap.size + 1, 1, none⟩ (.int .i64 y)) (some (w.heap.size + 1)) := (grown_setCell _ _ _ _).trans (grown_setCell _ _ _ _)
   have HOF := Lib.hid (own_kept_low HO8.out hg (by have := HB3.out.size; have := HB4.out.size; have := SZ1.out; omega))
   clear hg
   go_wp2
   have z0 := HK2.out.cell (j := 0) rfl
   have z1 := HK2.out.cell (j := 1) rfl
   refine bodyPost_ret (v := .tuple #[.agg #[.slice V6 nw c6, .int .i64 y], .bool false, .int .i64 0]) (by simp [results, Tryz.results13, go_sem, z0, z1]) rfl ?_
   rw [HCE.out]
   show RetCtl ((pathW q'.ed n (s : Int)).reverse, (wrgE P q' T u f tick (s : Int)).headD 0, false) _ _ _
   rw [HWS.out, HLL.out]
   exact ⟨_, rfl, by rw [HNW.out]; exact own_base HOF.out (by have := HB1.out.size; have := HB3.out.size; have := HB4.out.size; omega), HBF.out⟩
end Go.Proofs.YtioijhpbedmeaaaGreatDoor
