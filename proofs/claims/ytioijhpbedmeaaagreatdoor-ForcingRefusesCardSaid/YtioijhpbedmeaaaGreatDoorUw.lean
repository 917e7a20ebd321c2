/- Walks: forcing.Verify. -/
import Derived.Test.YtioijhpbedmeaaaGreatDoorUv
namespace Go.Proofs.YtioijhpbedmeaaaGreatDoor
open Go.RowKit Go Go.Maps

/-- the state to which a word leads from the first one -/
def endE (q : Aut) (ws : List Int) : Option Int := if q.st = 0 then none else goS (stA q) 0 ws
/-- what Verify answers -/
def verE (P q : Aut) (T : List (List Int)) (U F : List Int) (tick : Int) (ws : List Int) (ev : Int) : Int := match endE q ws with
  | none => 24
  | some s => if hasB (wrgE P q T U F tick s) ev = true then 0 else 24
theorem gA_end {q : Aut} {ws : List Int} : gA q ws = (endE q ws).isSome := by
  unfold gA endE
  by_cases h : q.st = 0
  · rw [if_pos h, decide_eq_true h]; rfl
  · rw [if_neg h, decide_eq_false h]; rfl
theorem endE_run {q : Aut} {ws : List Int} {s : Int} (h : endE q ws = some s) : q.st ≠ 0 ∧ goS (stA q) 0 ws = some s ∧ runS (stA q) 0 ws = (s, ws.length) := by
  unfold endE at h
  by_cases h0 : q.st = 0
  · rw [if_pos h0] at h; cases h
  · rw [if_neg h0] at h
    refine ⟨h0, h, ?_⟩
    rw [goS_run] at h
    split at h
    · rename_i hq; injection h with h; exact Prod.ext h hq
    · cases h
theorem goS_rng {a : Aut} (h : WF a) : ∀ (ws : List Int) (t x : Int), 0 ≤ t → t < a.st → goS (stA a) t ws = some x → 0 ≤ x ∧ x < a.st
  | [], t, x, h1, h2, e => by injection e with e; subst e; exact ⟨h1, h2⟩
  | v :: ws, t, x, h1, h2, e => by
    unfold goS at e
    cases hs : stA a t v with
    | none => rw [hs] at e; cases e
    | some y =>
      rw [hs] at e
      have hx := (nxt_ed h).2 (stA_some.1 hs)
      have := h.ev_rng hx
      exact goS_rng h ws y x (by have := (stA_some.1 hs).2; omega) (by dsimp only at this; omega) e
set_option maxRecDepth 100000 in
set_option maxHeartbeats 3200000 in
theorem verify_bad (z : SV) (r : Int) (V : Option Addr) (nw cw : Nat) (ev : Int) (w : World) (h : z.ok w w.heap.size) (hc : chkF z.p.a z.s.a z.u z.f z.tick = r) (hr : r ≠ 0) :
    Calls Tryz.prog 28 #[.agg (svc z).toArray, .agg #[.slice V nw cw, .int .i64 ev]] w fun e w' => e = .returned (.int .i64 r) ∧ Below w.heap.size w w' := by
  have hP : True := trivial
  have hU : True := trivial
  have hF : True := trivial
  obtain ⟨⟨A, na, ca, M, nm, cm, E, ne, ce, P⟩, ⟨A', na', ca', M', nm', cm', E', ne', ce', S⟩, U, nu, cu, u, F, nf, cf, f, tick⟩ := z
  dsimp only at hc hP hU hF
  obtain ⟨sp, hsp⟩ : ∃ s, P.st = s := ⟨_, rfl⟩
  obtain ⟨ss, hss⟩ : ∃ s, S.st = s := ⟨_, rfl⟩
  have hb0 := box_below w (.cells #[.slice A na ca, .int .i64 P.st, .slice M nm cm, .slice E ne ce, .slice A' na' ca', .int .i64 S.st, .slice M' nm' cm', .slice E' ne' ce', .slice U nu cu, .slice F nf cf, .int .i64 tick] 35)
  have hb1 := hb0.alloc hb0.size (.cells #[.slice V nw cw, .int .i64 ev] 42)
  obtain ⟨w1, hw9⟩ : ∃ w1, w1 = (w.alloc (.cells #[.slice A na ca, .int .i64 P.st, .slice M nm cm, .slice E ne ce, .slice A' na' ca', .int .i64 S.st, .slice M' nm' cm', .slice E' ne' ce', .slice U nu cu, .slice F nf cf, .int .i64 tick] 35)).alloc (.cells #[.slice V nw cw, .int .i64 ev] 42) := ⟨_, rfl⟩
  have kx : Blk w1 w.heap.size 35 [.slice A na ca, .int .i64 P.st, .slice M nm cm, .slice E ne ce, .slice A' na' ca', .int .i64 S.st, .slice M' nm' cm', .slice E' ne' ce', .slice U nu cu, .slice F nf cf, .int .i64 tick] := by rw [hw9]; exact (Blk.new _ _ [_, _, _, _, _, _, _, _, _, _, _]).al _
  have kz : Blk w1 (w.heap.size + 1) 42 [.slice V nw cw, .int .i64 ev] := by rw [hw9]; exact Blk.at_ _ _ [_, _] (by simp)
  have sz1 : w1.heap.size = w.heap.size + 2 := by rw [hw9]; simp
  rw [← hw9] at hb1
  have HG0 := Lib.hid (fun (W : World) (hb : Below w1.heap.size w1 W) => (show C11 W w.heap.size [.slice A na ca, .int .i64 P.st, .slice M nm cm, .slice E ne ce, .slice A' na' ca', .int .i64 S.st, .slice M' nm' cm', .slice E' ne' ce', .slice U nu cu, .slice F nf cf, .int .i64 tick] from fun j u hj => (kx.below hb kx.lt).cell hj))
  have HOK := Lib.hid (fun (W : World) (hb : Below w1.heap.size w1 W) => (h.below (hb1.trans (hb.mono hb1.size))).more (hb1.trans (hb.mono hb1.size)).size)
  have HCK := Lib.hid (open_bad ⟨⟨A, na, ca, M, nm, cm, E, ne, ce, P⟩, ⟨A', na', ca', M', nm', cm', E', ne', ce', S⟩, U, nu, cu, u, F, nf, cf, f, tick⟩ r w1 (HOK.out w1 (Below.refl _ _)) hc hr)
  unfold svc at HCK ⊢
  dsimp only at HCK ⊢
  rw [hsp] at hw9 HG0 HCK ⊢
  rw [hss] at hw9 HG0 HCK ⊢
  have HW9 := Lib.hid hw9; clear hw9
  have HB1 := Lib.hid hb1; clear hb1
  have KZ := Lib.hid kz; clear kz
  have SZ1 := Lib.hid sz1; clear sz1
  skip
  have lx := kx.lt
  clear h kx hb0 hsp hss
  have HBD := Lib.hid (fun (W : World) (hb : Below w1.heap.size w1 W) => HB1.out.trans (hb.mono HB1.out.size))
  have HS0 := Lib.hid (Below.refl w1.heap.size w1)
  go_enter Tryz.func28, Tryz.ntmps28
  go_upto_region 1 with fail
  rw [← HW9.out]
  have a0 := HG0.out w1 HS0.out 0 _ rfl
  have a1 := HG0.out w1 HS0.out 1 _ rfl
  have a2 := HG0.out w1 HS0.out 2 _ rfl
  have a3 := HG0.out w1 HS0.out 3 _ rfl
  have a4 := HG0.out w1 HS0.out 4 _ rfl
  have a5 := HG0.out w1 HS0.out 5 _ rfl
  have a6 := HG0.out w1 HS0.out 6 _ rfl
  have a7 := HG0.out w1 HS0.out 7 _ rfl
  have a8 := HG0.out w1 HS0.out 8 _ rfl
  have a9 := HG0.out w1 HS0.out 9 _ rfl
  have a10 := HG0.out w1 HS0.out 10 _ rfl
  go_wp2_with fail
  clear a0 a1 a2 a3 a4 a5 a6 a7 a8 a9 a10
  refine HCK.out.mono ?_
  rintro e w2 ⟨b, rfl, hB2⟩
  clear HCK
  have d1 : (r != 0) = true := by simpa using hr
  have HB2 := Lib.hid hB2
  clear hB2
  go_wp2
  go_ret
  exact ⟨rfl, HBD.out _ HB2.out⟩
set_option maxRecDepth 100000 in
set_option maxHeartbeats 3200000 in
theorem verify_ok (z : SV) (q : Aut) (T : List (List Int)) (V : Option Addr) (nw cw : Nat) (ws : List Int) (ev : Int) (w : World) (h : z.ok w w.heap.size) (hP : Prob z.p.a z.s.a q T) (hc : chkF z.p.a z.s.a z.u z.f z.tick = 0) (hU : subE z.u z.p.a.al = 0) (hF : subE z.f z.p.a.al = 0)
    (hlw : ws.length = nw) (hV : RdI w w.heap.size V ws) (hv1 : nw ≤ cw) (hv2 : cw ≤ 9223372036854775807) :
    Calls Tryz.prog 28 #[.agg (svc z).toArray, .agg #[.slice V nw cw, .int .i64 ev]] w fun e w' => e = .returned (.int .i64 (verE z.p.a q T z.u z.f z.tick ws ev)) ∧ Below w.heap.size w w' := by
  obtain ⟨⟨A, na, ca, M, nm, cm, E, ne, ce, P⟩, ⟨A', na', ca', M', nm', cm', E', ne', ce', S⟩, U, nu, cu, u, F, nf, cf, f, tick⟩ := z
  dsimp only at hc hP hU hF
  obtain ⟨sp, hsp⟩ : ∃ s, P.st = s := ⟨_, rfl⟩
  obtain ⟨ss, hss⟩ : ∃ s, S.st = s := ⟨_, rfl⟩
  have hb0 := box_below w (.cells #[.slice A na ca, .int .i64 P.st, .slice M nm cm, .slice E ne ce, .slice A' na' ca', .int .i64 S.st, .slice M' nm' cm', .slice E' ne' ce', .slice U nu cu, .slice F nf cf, .int .i64 tick] 35)
  have hb1 := hb0.alloc hb0.size (.cells #[.slice V nw cw, .int .i64 ev] 42)
  obtain ⟨w1, hw9⟩ : ∃ w1, w1 = (w.alloc (.cells #[.slice A na ca, .int .i64 P.st, .slice M nm cm, .slice E ne ce, .slice A' na' ca', .int .i64 S.st, .slice M' nm' cm', .slice E' ne' ce', .slice U nu cu, .slice F nf cf, .int .i64 tick] 35)).alloc (.cells #[.slice V nw cw, .int .i64 ev] 42) := ⟨_, rfl⟩
  have kx : Blk w1 w.heap.size 35 [.slice A na ca, .int .i64 P.st, .slice M nm cm, .slice E ne ce, .slice A' na' ca', .int .i64 S.st, .slice M' nm' cm', .slice E' ne' ce', .slice U nu cu, .slice F nf cf, .int .i64 tick] := by rw [hw9]; exact (Blk.new _ _ [_, _, _, _, _, _, _, _, _, _, _]).al _
  have kz : Blk w1 (w.heap.size + 1) 42 [.slice V nw cw, .int .i64 ev] := by rw [hw9]; exact Blk.at_ _ _ [_, _] (by simp)
  have sz1 : w1.heap.size = w.heap.size + 2 := by rw [hw9]; simp
  rw [← hw9] at hb1
  have HG0 := Lib.hid (fun (W : World) (hb : Below w1.heap.size w1 W) => (show C11 W w.heap.size [.slice A na ca, .int .i64 P.st, .slice M nm cm, .slice E ne ce, .slice A' na' ca', .int .i64 S.st, .slice M' nm' cm', .slice E' ne' ce', .slice U nu cu, .slice F nf cf, .int .i64 tick] from fun j u hj => (kx.below hb kx.lt).cell hj))
  have HOK := Lib.hid (fun (W : World) (hb : Below w1.heap.size w1 W) => (h.below (hb1.trans (hb.mono hb1.size))).more (hb1.trans (hb.mono hb1.size)).size)
  have HCK := Lib.hid (open_ok ⟨⟨A, na, ca, M, nm, cm, E, ne, ce, P⟩, ⟨A', na', ca', M', nm', cm', E', ne', ce', S⟩, U, nu, cu, u, F, nf, cf, f, tick⟩ q T w1 (HOK.out w1 (Below.refl _ _)) hP hc)
  unfold svc at HCK ⊢
  dsimp only at HCK ⊢
  rw [hsp] at hw9 HG0 HCK ⊢
  rw [hss] at hw9 HG0 HCK ⊢
  have HW9 := Lib.hid hw9; clear hw9
  have HB1 := Lib.hid hb1; clear hb1
  have KZ := Lib.hid kz; clear kz
  have SZ1 := Lib.hid sz1; clear sz1
  have HV:=Lib.hid (fun (W:World) (hb:Below w1.heap.size w1 W)=>(hV.below (HB1.out.trans (hb.mono HB1.out.size))).more (HB1.out.trans (hb.mono HB1.out.size)).size); clear hV
  have lx := kx.lt
  clear h kx hb0 hsp hss
  have HBD := Lib.hid (fun (W : World) (hb : Below w1.heap.size w1 W) => HB1.out.trans (hb.mono HB1.out.size))
  have HS0 := Lib.hid (Below.refl w1.heap.size w1)
  go_enter Tryz.func28, Tryz.ntmps28
  go_upto_region 1 with fail
  rw [← HW9.out]
  have a0 := HG0.out w1 HS0.out 0 _ rfl
  have a1 := HG0.out w1 HS0.out 1 _ rfl
  have a2 := HG0.out w1 HS0.out 2 _ rfl
  have a3 := HG0.out w1 HS0.out 3 _ rfl
  have a4 := HG0.out w1 HS0.out 4 _ rfl
  have a5 := HG0.out w1 HS0.out 5 _ rfl
  have a6 := HG0.out w1 HS0.out 6 _ rfl
  have a7 := HG0.out w1 HS0.out 7 _ rfl
  have a8 := HG0.out w1 HS0.out 8 _ rfl
  have a9 := HG0.out w1 HS0.out 9 _ rfl
  have a10 := HG0.out w1 HS0.out 10 _ rfl
  go_wp2_with fail
  clear a0 a1 a2 a3 a4 a5 a6 a7 a8 a9 a10
  refine HCK.out.mono ?_
  rintro e w2 ⟨b, ⟨A2, na2, ca2, M2, nm2, cm2, E2, ne2, ce2, q'⟩, B2, nb2, cb2, rfl, hb0, hq, hl, hB2⟩
  dsimp only at hq
  obtain rfl := hq
  clear HCK
  have HL := Lib.hid (fun (W : World) (hb : Below w2.heap.size w2 W) => hl.below hb)
  have HVV := Lib.hid (fun (W : World) (hb : Below w2.heap.size w2 W) => HV.out W (hB2.trans (hb.mono hB2.size)))
  obtain ⟨sq, hsq⟩ : ∃ s, q'.st = s := ⟨_, rfl⟩
  have HCC := Lib.hid (fun (W : World) (hb : Below w2.heap.size w2 W) => (show (W.cell? ⟨b, 11, none⟩ = some (.slice A2 na2 ca2) ∧ W.cell? ⟨b, 12, none⟩ = some (.int .i64 sq) ∧ W.cell? ⟨b, 13, none⟩ = some (.slice M2 nm2 cm2) ∧ W.cell? ⟨b, 14, none⟩ = some (.slice E2 ne2 ce2)) ∧ W.cell? ⟨w.heap.size + 1, 0, none⟩ = some (.slice V nw cw) ∧ W.cell? ⟨w.heap.size + 1, 1, none⟩ = some (.int .i64 ev) from
    ⟨⟨(hl.below hb).c 11 _ rfl, by rw [← hsq]; exact (hl.below hb).c 12 _ rfl, (hl.below hb).c 13 _ rfl, (hl.below hb).c 14 _ rfl⟩, (KZ.out.below (hB2.trans (hb.mono hB2.size)) KZ.out.lt).cell (j := 0) rfl, (KZ.out.below (hB2.trans (hb.mono hB2.size)) KZ.out.lt).cell (j := 1) rfl⟩))
  have HB2 := Lib.hid (HBD.out _ hB2)
  have HPR := Lib.hid (And.intro hP (And.intro hU hF))
  have HLW := Lib.hid hlw
  have HVC := Lib.hid (And.intro hv1 hv2)
  have HSQ := Lib.hid hsq
  clear hP hU hF hc hl hB2 hb0 hlw hv1 hv2 hsq HG0 HOK HV KZ HBD
  go_upto_region 4 with fail
  refine wp_region_U (fun W => (W.cell? ⟨b, 11, none⟩ = some (.slice A2 na2 ca2) ∧ W.cell? ⟨b, 12, none⟩ = some (.int .i64 sq) ∧ W.cell? ⟨b, 13, none⟩ = some (.slice M2 nm2 cm2) ∧ W.cell? ⟨b, 14, none⟩ = some (.slice E2 ne2 ce2)) ∧ W.cell? ⟨w.heap.size + 1, 0, none⟩ = some (.slice V nw cw) ∧ W.cell? ⟨w.heap.size + 1, 1, none⟩ = some (.int .i64 ev)) (fun _ => True) 11 (by kernel_rfl) ?_
  change anyU _ _ _ _ _ _ _ 12 _ _ _
  have hB0 : True := trivial
  have hbd := below_dr w2
  generalize w2.drew = wd at hbd ⊢
  have hA0 := HCC.out wd hbd
  have HGN := Lib.hid (automaton_Generates A2 M2 E2 na2 ca2 nm2 cm2 ne2 ce2 q' V cw nw ws _ wd (HL.out wd hbd).xo HPR.out.1.pwf HLW.out (HVV.out wd hbd) HVC.out.1 HVC.out.2 gA_end)
  rw [HSQ.out] at HGN
  (refine uA 0 ?_ rfl hA0 hB0 (fun W hA => ?_) ?_; rotate_left; (· (go_simp; try with_reducible rfl)); refine uA 1 ?_ rfl hA0 hB0 (fun W hA => ?_) ?_; rotate_left; (· (go_simp; try with_reducible rfl)); refine uA 2 ?_ rfl hA0 hB0 (fun W hA => ?_) ?_; rotate_left; (· (go_simp; try with_reducible rfl)); (try simp only [Act.put, List.setIfInBounds_toArray, List.set_cons_zero, List.set_cons_succ]))
  (refine uA 3 ?_ rfl hA0 hB0 (fun W hA => ?_) ?_; rotate_left; (· (obtain ⟨⟨a0, a1, a2, a3⟩, _, _⟩ := hA; go_simp; try with_reducible rfl)); (try simp only [Act.put, List.setIfInBounds_toArray, List.set_cons_zero, List.set_cons_succ]))
  (refine uA 4 ?_ rfl hA0 hB0 (fun W hA => ?_) ?_; rotate_left; (· (go_simp; try with_reducible rfl)); (try simp only [Act.put, List.setIfInBounds_toArray, List.set_cons_zero, List.set_cons_succ]))
  (refine uA 5 ?_ rfl hA0 hB0 (fun W hA => ?_) ?_; rotate_left; (· (obtain ⟨_, a0, _⟩ := hA; go_simp; try with_reducible rfl)); (try simp only [Act.put, List.setIfInBounds_toArray, List.set_cons_zero, List.set_cons_succ]))
  refine uOne (i := 6) rfl (by kernel_rfl) (fun K hK => ?_)
  go_simp
  go_at_call 55
  refine HGN.out.mono ?_
  rintro e w5 ⟨rfl, hb5⟩
  have HB5 := Lib.hid (hbd.trans (hb5.mono hbd.size))
  have hA5 := HCC.out w5 HB5.out
  clear hA0 hb5 hbd HGN
  (refine hK _ _ ⟨hA5, fun _ => hB0⟩ ?_; clear hK K; (try simp only [Act.put, List.setIfInBounds_toArray, List.set_cons_zero, List.set_cons_succ]))
  have hA0 := hA5
  (refine uA 7 ?_ rfl hA0 hB0 (fun W hA => ?_) ?_; rotate_left; (· (go_simp; try with_reducible rfl)); refine uA 8 ?_ rfl hA0 hB0 (fun W hA => ?_) ?_; rotate_left; (· (go_simp; try with_reducible rfl)); refine uA 9 ?_ rfl hA0 hB0 (fun W hA => ?_) ?_; rotate_left; (· (go_simp; try with_reducible rfl)); (try simp only [Act.put, List.setIfInBounds_toArray, List.set_cons_zero, List.set_cons_succ]))
  refine uOne (i := 10) rfl (by kernel_rfl) (fun K hK => ?_)
  go_simp
  (refine hK _ _ ⟨hA5, fun _ => hB0⟩ ?_; clear hK K; (try simp only [Act.put, List.setIfInBounds_toArray, List.set_cons_zero, List.set_cons_succ]))
  refine uOne (i := 11) rfl (by kernel_rfl) (fun K hK => ?_)
  go_simp
  (refine hK _ _ ⟨hA5, fun h => absurd (h.symm.trans (by kernel_rfl : _ = true)) Bool.false_ne_true⟩ ?_; clear hK K; (try simp only [Act.put, List.setIfInBounds_toArray, List.set_cons_zero, List.set_cons_succ]))
  refine anyU_done (by kernel_rfl) ?_ _
  clear hA5 hA0
  have HFB := Lib.hid (HB2.out.trans (HB5.out.mono HB2.out.size))
  cases hen : endE q' ws with
  | none =>
    simp only [Option.isSome_none]
    have HEN := Lib.hid hen
    clear hen
    go_wp2
    go_ret
    refine ⟨?_, HFB.out⟩
    show Ending.returned (.int .i64 24) = .returned (.int .i64 (verE P q' T u f tick ws ev))
    unfold verE
    rw [HEN.out]
  | some s =>
    simp only [Option.isSome_some]
    obtain ⟨g1, g2, g3⟩ := endE_run hen
    have hz := HPR.out.1.t0 g1
    have HS := Lib.hid (goS_rng HPR.out.1.pwf ws 0 s hz.1.1 hz.1.2 g2)
    have HAL := Lib.hid (goS_al HPR.out.1.pwf ws 0 s g2)
    have HG3 := Lib.hid g3
    have HZ := Lib.hid hz.1
    have HEN := Lib.hid hen
    clear hen g1 g2 g3 hz
    go_upto_region 7 with fail
    refine wp_region_U (fun W => (W.cell? ⟨b, 11, none⟩ = some (.slice A2 na2 ca2) ∧ W.cell? ⟨b, 12, none⟩ = some (.int .i64 sq) ∧ W.cell? ⟨b, 13, none⟩ = some (.slice M2 nm2 cm2) ∧ W.cell? ⟨b, 14, none⟩ = some (.slice E2 ne2 ce2)) ∧ W.cell? ⟨w.heap.size + 1, 0, none⟩ = some (.slice V nw cw) ∧ W.cell? ⟨w.heap.size + 1, 1, none⟩ = some (.int .i64 ev)) (fun _ => True) 13 (by kernel_rfl) ?_
    change anyU _ _ _ _ _ _ _ 14 _ _ _
    have hbd := HB5.out.trans ((below_dr w5).mono HB5.out.size)
    generalize w5.drew = wd at hbd ⊢
    have hA0 := HCC.out wd hbd
    have HRN := Lib.hid (automaton_Run A2 M2 E2 na2 ca2 nm2 cm2 ne2 ce2 q' 0 V cw nw ws _ wd (HL.out wd hbd).xo HPR.out.1.pwf HZ.out.1 HZ.out.2 HLW.out (HVV.out wd hbd) HVC.out.1 HVC.out.2 HAL.out HG3.out)
    rw [HSQ.out] at HRN
    dsimp only at HRN
    (refine uA 0 ?_ rfl hA0 hB0 (fun W hA => ?_) ?_; rotate_left; (· (go_simp; try with_reducible rfl)); refine uA 1 ?_ rfl hA0 hB0 (fun W hA => ?_) ?_; rotate_left; (· (go_simp; try with_reducible rfl)); refine uA 2 ?_ rfl hA0 hB0 (fun W hA => ?_) ?_; rotate_left; (· (go_simp; try with_reducible rfl)); (try simp only [Act.put, List.setIfInBounds_toArray, List.set_cons_zero, List.set_cons_succ]))
    (refine uA 3 ?_ rfl hA0 hB0 (fun W hA => ?_) ?_; rotate_left; (· (obtain ⟨⟨a0, a1, a2, a3⟩, _, _⟩ := hA; go_simp; try with_reducible rfl)); (try simp only [Act.put, List.setIfInBounds_toArray, List.set_cons_zero, List.set_cons_succ]))
    (refine uA 4 ?_ rfl hA0 hB0 (fun W hA => ?_) ?_; rotate_left; (· (go_simp; try with_reducible rfl)); (try simp only [Act.put, List.setIfInBounds_toArray, List.set_cons_zero, List.set_cons_succ]))
    (refine uA 5 ?_ rfl hA0 hB0 (fun W hA => ?_) ?_; rotate_left; (· (obtain ⟨_, a0, _⟩ := hA; go_simp; try with_reducible rfl)); (try simp only [Act.put, List.setIfInBounds_toArray, List.set_cons_zero, List.set_cons_succ]))
    refine uOne (i := 6) rfl (by kernel_rfl) (fun K hK => ?_)
    go_simp
    go_at_call 47
    refine HRN.out.mono ?_
    rintro e w6 ⟨rfl, hb6⟩
    have HB6 := Lib.hid (hbd.trans (hb6.mono hbd.size))
    have hA5 := HCC.out w6 HB6.out
    clear hA0 hb6 hbd HRN
    (refine hK _ _ ⟨hA5, fun _ => hB0⟩ ?_; clear hK K; (try simp only [Act.put, List.setIfInBounds_toArray, List.set_cons_zero, List.set_cons_succ]))
    have hA0 := hA5
    (refine uA 7 ?_ rfl hA0 hB0 (fun W hA => ?_) ?_; rotate_left; (· (go_simp; try with_reducible rfl)); refine uA 8 ?_ rfl hA0 hB0 (fun W hA => ?_) ?_; rotate_left; (· (go_simp; try with_reducible rfl)); refine uA 9 ?_ rfl hA0 hB0 (fun W hA => ?_) ?_; rotate_left; (· (go_simp; try with_reducible rfl)); refine uA 10 ?_ rfl hA0 hB0 (fun W hA => ?_) ?_; rotate_left; (· (go_simp; try with_reducible rfl)); (try simp only [Act.put, List.setIfInBounds_toArray, List.set_cons_zero, List.set_cons_succ]))
    refine uOne (i := 11) rfl (by kernel_rfl) (fun K hK => ?_)
    go_simp
    (refine hK _ _ ⟨hA5, fun _ => hB0⟩ ?_; clear hK K; (try simp only [Act.put, List.setIfInBounds_toArray, List.set_cons_zero, List.set_cons_succ]))
    refine uOne (i := 12) rfl (by kernel_rfl) (fun K hK => ?_)
    go_simp
    (refine hK _ _ ⟨hA5, fun _ => hB0⟩ ?_; clear hK K; (try simp only [Act.put, List.setIfInBounds_toArray, List.set_cons_zero, List.set_cons_succ]))
    refine uOne (i := 13) rfl (by kernel_rfl) (fun K hK => ?_)
    go_simp
    (refine hK _ _ ⟨hA5, fun h => absurd (h.symm.trans (by kernel_rfl : _ = true)) Bool.false_ne_true⟩ ?_; clear hK K; (try simp only [Act.put, List.setIfInBounds_toArray, List.set_cons_zero, List.set_cons_succ]))
    refine anyU_done (by kernel_rfl) ?_ _
    clear hA5 hA0 HFB
    go_upto_region 8 with fail
    refine wp_region_U (fun W => (W.cell? ⟨b, 11, none⟩ = some (.slice A2 na2 ca2) ∧ W.cell? ⟨b, 12, none⟩ = some (.int .i64 sq) ∧ W.cell? ⟨b, 13, none⟩ = some (.slice M2 nm2 cm2) ∧ W.cell? ⟨b, 14, none⟩ = some (.slice E2 ne2 ce2)) ∧ W.cell? ⟨w.heap.size + 1, 0, none⟩ = some (.slice V nw cw) ∧ W.cell? ⟨w.heap.size + 1, 1, none⟩ = some (.int .i64 ev)) (fun _ => True) 6 (by kernel_rfl) ?_
    change anyU _ _ _ _ _ _ _ 7 _ _ _
    have hbd := HB6.out.trans ((below_dr w6).mono HB6.out.size)
    generalize w6.drew = wd at hbd ⊢
    have hA0 := HCC.out wd hbd
    have HWR := Lib.hid (loop_wrong b _ _ q' B2 nb2 cb2 T s wd (HL.out wd hbd) HPR.out.1 rfl HPR.out.2.1 HPR.out.2.2 HS.out.1 HS.out.2)
    dsimp only at HWR
    have HLN := Lib.hid (show (wrgE P q' T u f tick s).length ≤ 32 ∧ Inc (wrgE P q' T u f tick s) from ⟨Nat.le_trans (List.length_filter_le _ _) HPR.out.1.wp.al_le, inc_flt HPR.out.1.wp.inc _⟩)
    obtain ⟨L, hL⟩ : ∃ L, wrgE P q' T u f tick s = L := ⟨_, rfl⟩
    rw [hL] at HWR HLN
    have HLL := Lib.hid hL
    clear hL
    (refine uA 0 ?_ rfl hA0 hB0 (fun W hA => ?_) ?_; rotate_left; (· (go_simp; try with_reducible rfl)); refine uA 1 ?_ rfl hA0 hB0 (fun W hA => ?_) ?_; rotate_left; (· (go_simp; try with_reducible rfl)); refine uA 3 ?_ rfl hA0 hB0 (fun W hA => ?_) ?_; rotate_left; (· (go_simp; try with_reducible rfl)); (try simp only [Act.put, List.setIfInBounds_toArray, List.set_cons_zero, List.set_cons_succ]))
    (refine uA 4 ?_ rfl hA0 hB0 (fun W hA => ?_) ?_; rotate_left; (· (obtain ⟨_, _, a0⟩ := hA; go_simp; try with_reducible rfl)); (try simp only [Act.put, List.setIfInBounds_toArray, List.set_cons_zero, List.set_cons_succ]))
    refine uOne (i := 2) rfl (by kernel_rfl) (fun K hK => ?_)
    go_simp
    go_at_call 45
    refine HWR.out.mono ?_
    rintro e w7 ⟨v, rfl, ho, hb7⟩
    have HB7 := Lib.hid (hbd.trans (hb7.mono hbd.size))
    have hA5 := HCC.out w7 HB7.out
    obtain ⟨V5, c5', rfl, p1, p2, r5⟩ := own_slI ho
    obtain ⟨t, ht⟩ : ∃ t, hasB L ev = t := ⟨_, rfl⟩
    have HCT := Lib.hid (alphabet_Contains_n V5 c5' L.length L ev t w7 rfl ht r5 (by have := HLN.out; omega) HLN.out.2)
    have HT := Lib.hid ht
    clear hA0 hb7 ho hbd r5 p1 p2 ht
    (refine hK _ _ ⟨hA5, fun _ => hB0⟩ ?_; clear hK K; (try simp only [Act.put, List.setIfInBounds_toArray, List.set_cons_zero, List.set_cons_succ]))
    refine uOne (i := 5) rfl (by kernel_rfl) (fun K hK => ?_)
    go_simp
    go_at_call 52
    refine HCT.out.mono ?_
    rintro e w8 ⟨rfl, rfl⟩
    (refine hK _ _ ⟨hA5, fun _ => hB0⟩ ?_; clear hK K; (try simp only [Act.put, List.setIfInBounds_toArray, List.set_cons_zero, List.set_cons_succ]))
    refine uOne (i := 6) rfl (by kernel_rfl) (fun K hK => ?_)
    go_simp
    (refine hK _ _ ⟨hA5, fun h => absurd (h.symm.trans (by kernel_rfl : _ = true)) Bool.false_ne_true⟩ ?_; clear hK K; (try simp only [Act.put, List.setIfInBounds_toArray, List.set_cons_zero, List.set_cons_succ]))
    refine anyU_done (by kernel_rfl) ?_ _
    clear hA5 HCT HWR
    have HFB := Lib.hid (HB2.out.trans (HB7.out.mono HB2.out.size))
    cases t with
    | true =>
      go_wp2
      go_ret
      refine ⟨?_, HFB.out⟩
      show Ending.returned (.int .i64 0) = .returned (.int .i64 (verE P q' T u f tick ws ev))
      unfold verE
      rw [HEN.out]
      dsimp only
      rw [HLL.out, HT.out]
      rfl
    | false =>
      go_wp2
      go_ret
      refine ⟨?_, HFB.out⟩
      show Ending.returned (.int .i64 24) = .returned (.int .i64 (verE P q' T u f tick ws ev))
      unfold verE
      rw [HEN.out]
      dsimp only
      rw [HLL.out, HT.out]
      rfl
end Go.Proofs.YtioijhpbedmeaaaGreatDoor
