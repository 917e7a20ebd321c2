/- Walks: the law's refuses, forced, wrong. -/
import Derived.Test.YtioijhpbedmeaaaGreatDoorYb
import Derived.Test.YtioijhpbedmeaaaGreatDoorUl
import Derived.Test.YtioijhpbedmeaaaGreatDoorUa
import Derived.Test.YtioijhpbedmeaaaGreatDoorUq
namespace Go.Proofs.YtioijhpbedmeaaaGreatDoor
open Go.RowKit Go Go.Maps

set_option maxRecDepth 100000 in
set_option maxHeartbeats 3200000 in
theorem law_refuses (z : SV) (x : AV) (B : Option Addr) (nb cb : Nat) (T : List (List Int)) (i : Nat) (s r v : Int) (t : Bool) (w : World) (h : z.ok w w.heap.size) (hx : x.ok w w.heap.size) (hT : RdR 2 iv w w.heap.size B T) (tl : T.length = nb) (ht : T[i]? = some [s, r]) (hr : refE z.p.a x.a T i v = t) :
    Calls Tryz.prog 22 #[.agg (svc z).toArray, .agg #[.slice x.A x.na x.ca, .int .i64 x.a.st, .slice x.M x.nm x.cm, .slice x.E x.ne x.ce], .slice B nb cb, .int .i64 (i : Int), .int .i64 v] w fun e w' => e = .returned (.bool t) ∧ Below w.heap.size w w' := by
  have hfs : fst2 T i = s := by unfold fst2; simp [List.getD_eq_getElem?_getD, ht]
  unfold refE at hr
  rw [hfs] at hr
  have hin : i < nb := by have := (List.getElem?_eq_some_iff.1 ht).1; omega
  obtain ⟨⟨A, na, ca, M, nm, cm, E, ne, ce, P⟩, ⟨A', na', ca', M', nm', cm', E', ne', ce', S⟩, U, nu, cu, u, F, nf, cf, f, tick⟩ := z
  obtain ⟨A2, na2, ca2, M2, nm2, cm2, E2, ne2, ce2, q⟩ := x
  dsimp only at *
  unfold svc
  dsimp only
  obtain ⟨sp, hsp⟩ : ∃ s, P.st = s := ⟨_, rfl⟩
  obtain ⟨ss, hss⟩ : ∃ s, S.st = s := ⟨_, rfl⟩
  obtain ⟨sq, hsq⟩ : ∃ s, q.st = s := ⟨_, rfl⟩
  have hb0 := box_below w (.cells #[.slice A na ca, .int .i64 P.st, .slice M nm cm, .slice E ne ce, .slice A' na' ca', .int .i64 S.st, .slice M' nm' cm', .slice E' ne' ce', .slice U nu cu, .slice F nf cf, .int .i64 tick] 35)
  have hb1 := hb0.alloc hb0.size (.cells #[.slice A2 na2 ca2, .int .i64 q.st, .slice M2 nm2 cm2, .slice E2 ne2 ce2] 33)
  obtain ⟨w1, hw9⟩ : ∃ w1, w1 = (w.alloc (.cells #[.slice A na ca, .int .i64 P.st, .slice M nm cm, .slice E ne ce, .slice A' na' ca', .int .i64 S.st, .slice M' nm' cm', .slice E' ne' ce', .slice U nu cu, .slice F nf cf, .int .i64 tick] 35)).alloc (.cells #[.slice A2 na2 ca2, .int .i64 q.st, .slice M2 nm2 cm2, .slice E2 ne2 ce2] 33) := ⟨_, rfl⟩
  have kx : Blk w1 w.heap.size 35 [.slice A na ca, .int .i64 P.st, .slice M nm cm, .slice E ne ce, .slice A' na' ca', .int .i64 S.st, .slice M' nm' cm', .slice E' ne' ce', .slice U nu cu, .slice F nf cf, .int .i64 tick] := by rw [hw9]; exact (Blk.new _ _ [_, _, _, _, _, _, _, _, _, _, _]).al _
  have kz : Blk w1 (w.heap.size + 1) 33 [.slice A2 na2 ca2, .int .i64 q.st, .slice M2 nm2 cm2, .slice E2 ne2 ce2] := by rw [hw9]; exact Blk.at_ _ _ [_, _, _, _] (by simp)
  rw [← hw9] at hb1
  have HCS := Lib.hid (fun (W : World) (hb : Below w1.heap.size w1 W) => (show C11 W w.heap.size [.slice A na ca, .int .i64 P.st, .slice M nm cm, .slice E ne ce, .slice A' na' ca', .int .i64 S.st, .slice M' nm' cm', .slice E' ne' ce', .slice U nu cu, .slice F nf cf, .int .i64 tick] from fun j u hj => (kx.below hb kx.lt).cell hj))
  have HCA := Lib.hid (fun (W : World) (hb : Below w1.heap.size w1 W) => (kz.below hb kz.lt).c4)
  have HZK := Lib.hid (fun (W : World) (hb : Below w1.heap.size w1 W) => (h.below (hb1.trans (hb.mono hb1.size))).more (hb1.trans (hb.mono hb1.size)).size)
  have HXK := Lib.hid (fun (W : World) (hb : Below w1.heap.size w1 W) => AutR.more (AutR.below hx (hb1.trans (hb.mono hb1.size))) (hb1.trans (hb.mono hb1.size)).size)
  have HS0 := Lib.hid (Below.refl w1.heap.size w1)
  obtain ⟨ad, rfl, hab, hcl⟩ := hT i [s, r] ht
  have HA := Lib.hid (fun (W : World) (hb : Below w1.heap.size w1 W) => (show W.cell? (ad.add (i * 2)) = some (.int .i64 s) from ((hb1.trans (hb.mono hb1.size)).cell (p := ad.add (i * 2)) (by rw [block_of_add]; exact hab)).trans (hcl 0 _ rfl)))
  clear hT ht hab hcl hfs
  obtain ⟨np, hnp⟩ : ∃ k, nxt P s v = k := ⟨_, rfl⟩
  obtain ⟨nq, hnq⟩ : ∃ k, nxt q i v = k := ⟨_, rfl⟩
  rw [hnp, hnq] at hr
  have HC1 := Lib.hid (fun (W : World) (hb : Below w1.heap.size w1 W) => law_step A na ca M nm cm E ne ce P s v W (HZK.out W hb).p)
  have HC2 := Lib.hid (fun (W : World) (hb : Below w1.heap.size w1 W) => law_step A2 na2 ca2 M2 nm2 cm2 E2 ne2 ce2 q i v W (HXK.out W hb))
  rw [hsp, hnp] at HC1
  rw [hsq, hnq] at HC2
  have t1 : ¬ (i : Int) < 0 := by omega
  have t2 : (i : Int) < (nb : Int) := by omega
  clear hnp hnq
  rw [hsp] at HCS hw9 ⊢
  rw [hss] at HCS hw9 ⊢
  rw [hsq] at HCA hw9 ⊢
  have HW9 := Lib.hid hw9; clear hw9
  have HB1 := Lib.hid hb1; clear hb1
  have HSP := Lib.hid hsp; clear hsp
  have HSS := Lib.hid hss; clear hss
  have HSQ := Lib.hid hsq; clear hsq
  clear hb0 kx kz h hx
  have HCC := Lib.hid (fun (W : World) (hb : Below w1.heap.size w1 W) => (show (W.cell? ⟨w.heap.size, 0, none⟩ = some (.slice A na ca) ∧ W.cell? ⟨w.heap.size, 1, none⟩ = some (.int .i64 sp) ∧ W.cell? ⟨w.heap.size, 2, none⟩ = some (.slice M nm cm) ∧ W.cell? ⟨w.heap.size, 3, none⟩ = some (.slice E ne ce)) ∧ (W.cell? ⟨w.heap.size + 1, 0, none⟩ = some (.slice A2 na2 ca2) ∧ W.cell? ⟨w.heap.size + 1, 1, none⟩ = some (.int .i64 sq) ∧ W.cell? ⟨w.heap.size + 1, 2, none⟩ = some (.slice M2 nm2 cm2) ∧ W.cell? ⟨w.heap.size + 1, 3, none⟩ = some (.slice E2 ne2 ce2)) ∧ W.cell? (ad.add (i * 2)) = some (.int .i64 s) from
    ⟨⟨HCS.out W hb 0 _ rfl, HCS.out W hb 1 _ rfl, HCS.out W hb 2 _ rfl, HCS.out W hb 3 _ rfl⟩, HCA.out W hb, HA.out W hb⟩))
  clear HCS HCA HA HZK HXK
  go_enter Tryz.func22, Tryz.ntmps22
  go_upto_region 1 with fail
  rw [← HW9.out]
  refine wp_region_U (fun W => (W.cell? ⟨w.heap.size, 0, none⟩ = some (.slice A na ca) ∧ W.cell? ⟨w.heap.size, 1, none⟩ = some (.int .i64 sp) ∧ W.cell? ⟨w.heap.size, 2, none⟩ = some (.slice M nm cm) ∧ W.cell? ⟨w.heap.size, 3, none⟩ = some (.slice E ne ce)) ∧ (W.cell? ⟨w.heap.size + 1, 0, none⟩ = some (.slice A2 na2 ca2) ∧ W.cell? ⟨w.heap.size + 1, 1, none⟩ = some (.int .i64 sq) ∧ W.cell? ⟨w.heap.size + 1, 2, none⟩ = some (.slice M2 nm2 cm2) ∧ W.cell? ⟨w.heap.size + 1, 3, none⟩ = some (.slice E2 ne2 ce2)) ∧ W.cell? (ad.add (i * 2)) = some (.int .i64 s)) (fun _ => True) 17 (by kernel_rfl) ?_
  change anyU _ _ _ _ _ _ _ 18 _ _ _
  have hB0 : True := trivial
  have HBD := Lib.hid (below_dr w1)
  generalize w1.drew = wd at HBD ⊢
  have hA0 := HCC.out wd HBD.out
  (refine uA 0 ?_ rfl hA0 hB0 (fun W hA => ?_) ?_; rotate_left; (· (go_simp; try with_reducible rfl)); (try simp only [Act.put, List.setIfInBounds_toArray, List.set_cons_zero, List.set_cons_succ]))
  (refine uA 1 ?_ rfl hA0 hB0 (fun W hA => ?_) ?_; rotate_left; (· (obtain ⟨⟨a0, a1, a2, a3⟩, _, _⟩ := hA; go_simp; try with_reducible rfl)); (try simp only [Act.put, List.setIfInBounds_toArray, List.set_cons_zero, List.set_cons_succ]))
  (refine uA 2 ?_ rfl hA0 hB0 (fun W hA => ?_) ?_; rotate_left; (· (go_simp; try with_reducible rfl)); refine uA 3 ?_ rfl hA0 hB0 (fun W hA => ?_) ?_; rotate_left; (· (go_simp; try with_reducible rfl)); refine uA 4 ?_ rfl hA0 hB0 (fun W hA => ?_) ?_; rotate_left; (· (go_simp; try with_reducible rfl)); refine uA 5 ?_ rfl hA0 hB0 (fun W hA => ?_) ?_; rotate_left; (· (go_simp; try with_reducible rfl)); (try simp only [Act.put, List.setIfInBounds_toArray, List.set_cons_zero, List.set_cons_succ]))
  (refine uA 6 ?_ rfl hA0 hB0 (fun W hA => ?_) ?_; rotate_left; (· (obtain ⟨_, _, a4⟩ := hA; go_simp; try with_reducible rfl)); (try simp only [Act.put, List.setIfInBounds_toArray, List.set_cons_zero, List.set_cons_succ]))
  (refine uA 7 ?_ rfl hA0 hB0 (fun W hA => ?_) ?_; rotate_left; (· (go_simp; try with_reducible rfl)); (try simp only [Act.put, List.setIfInBounds_toArray, List.set_cons_zero, List.set_cons_succ]))
  refine uOne (i := 8) rfl (by kernel_rfl) (fun K hK => ?_)
  go_simp
  go_at_call 14
  refine (HC1.out wd HBD.out).mono ?_
  rintro e w5 ⟨rfl, hb5⟩
  have HB5 := Lib.hid (HBD.out.trans (hb5.mono HBD.out.size))
  have hA5 := HCC.out w5 HB5.out
  clear hA0 hb5
  (refine hK _ _ ⟨hA5, fun _ => hB0⟩ ?_; clear hK K; (try simp only [Act.put, List.setIfInBounds_toArray, List.set_cons_zero, List.set_cons_succ]))
  have hA0 := hA5
  clear hA5
  by_cases h1 : 0 ≤ np
  · have g1 : decide (0 ≤ np) = true := decide_eq_true h1
    have g2 : (np ≥ 0) := h1
    (refine uA 9 ?_ rfl hA0 hB0 (fun W hA => ?_) ?_; rotate_left; (· (go_simp; try with_reducible rfl)); refine uA 10 ?_ rfl hA0 hB0 (fun W hA => ?_) ?_; rotate_left; (· (go_simp; try with_reducible rfl)); (try simp only [Act.put, List.setIfInBounds_toArray, List.set_cons_zero, List.set_cons_succ]))
    (refine uA 11 ?_ rfl hA0 hB0 (fun W hA => ?_) ?_; rotate_left; (· (obtain ⟨_, ⟨a0, a1, a2, a3⟩, _⟩ := hA; go_simp; try with_reducible rfl)); (try simp only [Act.put, List.setIfInBounds_toArray, List.set_cons_zero, List.set_cons_succ]))
    (refine uA 12 ?_ rfl hA0 hB0 (fun W hA => ?_) ?_; rotate_left; (· (go_simp; try with_reducible rfl)); refine uA 13 ?_ rfl hA0 hB0 (fun W hA => ?_) ?_; rotate_left; (· (go_simp; try with_reducible rfl)); (try simp only [Act.put, List.setIfInBounds_toArray, List.set_cons_zero, List.set_cons_succ]))
    refine uOne (i := 14) rfl (by kernel_rfl) (fun K hK => ?_)
    go_simp
    go_at_call 14
    refine (HC2.out w5 HB5.out).mono ?_
    rintro e w6 ⟨rfl, hb6⟩
    have HB6 := Lib.hid (HB5.out.trans (hb6.mono HB5.out.size))
    have hA6 := HCC.out w6 HB6.out
    clear hA0 hb6
    (refine hK _ _ ⟨hA6, fun _ => hB0⟩ ?_; clear hK K; (try simp only [Act.put, List.setIfInBounds_toArray, List.set_cons_zero, List.set_cons_succ]))
    have hA0 := hA6
    by_cases h2 : nq < 0
    · have g3 : decide (nq < 0) = true := decide_eq_true h2
      rw [g1, g3] at hr
      have HR := Lib.hid hr
      clear hr
      (refine uA 15 ?_ rfl hA0 hB0 (fun W hA => ?_) ?_; rotate_left; (· (go_simp; try with_reducible rfl)); refine uA 16 ?_ rfl hA0 hB0 (fun W hA => ?_) ?_; rotate_left; (· (go_simp; try with_reducible rfl)); (try simp only [Act.put, List.setIfInBounds_toArray, List.set_cons_zero, List.set_cons_succ]))
      refine uOne (i := 17) rfl (by kernel_rfl) (fun K hK => ?_)
      go_simp
      (refine hK _ _ ⟨hA6, fun h => absurd (h.symm.trans (by kernel_rfl : _ = true)) Bool.false_ne_true⟩ ?_; clear hK K; (try simp only [Act.put, List.setIfInBounds_toArray, List.set_cons_zero, List.set_cons_succ]))
      refine anyU_done (by kernel_rfl) ?_ _
      clear hA6 hA0
      have HFI := Lib.hid (HB1.out.trans (HB6.out.mono HB1.out.size))
      go_wp2
      go_ret
      exact ⟨by rw [← HR.out]; rfl, HFI.out⟩
    · have g3 : decide (nq < 0) = false := decide_eq_false h2
      rw [g1, g3] at hr
      have HR := Lib.hid hr
      clear hr
      (refine uA 15 ?_ rfl hA0 hB0 (fun W hA => ?_) ?_; rotate_left; (· (go_simp; try with_reducible rfl)); refine uA 16 ?_ rfl hA0 hB0 (fun W hA => ?_) ?_; rotate_left; (· (go_simp; try with_reducible rfl)); (try simp only [Act.put, List.setIfInBounds_toArray, List.set_cons_zero, List.set_cons_succ]))
      refine uOne (i := 17) rfl (by kernel_rfl) (fun K hK => ?_)
      go_simp
      (refine hK _ _ ⟨hA6, fun h => absurd (h.symm.trans (by kernel_rfl : _ = true)) Bool.false_ne_true⟩ ?_; clear hK K; (try simp only [Act.put, List.setIfInBounds_toArray, List.set_cons_zero, List.set_cons_succ]))
      refine anyU_done (by kernel_rfl) ?_ _
      clear hA6 hA0
      have HFI := Lib.hid (HB1.out.trans (HB6.out.mono HB1.out.size))
      go_wp2
      go_ret
      exact ⟨by rw [← HR.out]; rfl, HFI.out⟩
  · have g1 : decide (0 ≤ np) = false := decide_eq_false h1
    have g2 : ¬ (np ≥ 0) := h1
    rw [g1] at hr
    have HR := Lib.hid hr
    clear hr
    have hA5 := hA0
    (refine uA 9 ?_ rfl hA0 hB0 (fun W hA => ?_) ?_; rotate_left; (· (go_simp; try with_reducible rfl)); refine uA 10 ?_ rfl hA0 hB0 (fun W hA => ?_) ?_; rotate_left; (· (go_simp; try with_reducible rfl)); (try simp only [Act.put, List.setIfInBounds_toArray, List.set_cons_zero, List.set_cons_succ]))
    (refine uS 11 rfl hA0 hB0 ?_; refine uS 12 rfl hA0 hB0 ?_; refine uS 13 rfl hA0 hB0 ?_; refine uS 14 rfl hA0 hB0 ?_; refine uS 15 rfl hA0 hB0 ?_; (try simp only [Act.put, List.setIfInBounds_toArray, List.set_cons_zero, List.set_cons_succ]))
    (refine uA 16 ?_ rfl hA0 hB0 (fun W hA => ?_) ?_; rotate_left; (· (go_simp; try with_reducible rfl)); (try simp only [Act.put, List.setIfInBounds_toArray, List.set_cons_zero, List.set_cons_succ]))
    refine uOne (i := 17) rfl (by kernel_rfl) (fun K hK => ?_)
    go_simp
    (refine hK _ _ ⟨hA5, fun h => absurd (h.symm.trans (by kernel_rfl : _ = true)) Bool.false_ne_true⟩ ?_; clear hK K; (try simp only [Act.put, List.setIfInBounds_toArray, List.set_cons_zero, List.set_cons_succ]))
    refine anyU_done (by kernel_rfl) ?_ _
    clear hA5 hA0
    have HFI := Lib.hid (HB1.out.trans (HB5.out.mono HB1.out.size))
    go_wp2
    go_ret
    exact ⟨by rw [← HR.out]; rfl, HFI.out⟩
set_option maxRecDepth 100000 in
set_option maxHeartbeats 3200000 in
theorem law_forced (z : SV) (x : AV) (i : Int) (w : World) (h : z.ok w w.heap.size) (hx : x.ok w w.heap.size) (hF4 : z.nf ≤ 4096) :
    Calls Tryz.prog 23 #[.agg (svc z).toArray, .agg #[.slice x.A x.na x.ca, .int .i64 x.a.st, .slice x.M x.nm x.cm, .slice x.E x.ne x.ce], .int .i64 i] w (RetO 3 (frcE x.a z.f i) w) := by
  have hlf := h.lf
  obtain ⟨⟨A, na, ca, M, nm, cm, E, ne, ce, P⟩, ⟨A', na', ca', M', nm', cm', E', ne', ce', S⟩, U, nu, cu, u, F, nf, cf, f, tick⟩ := z
  obtain ⟨A2, na2, ca2, M2, nm2, cm2, E2, ne2, ce2, q⟩ := x
  dsimp only at *
  unfold svc
  dsimp only
  obtain ⟨sp, hsp⟩ : ∃ s, P.st = s := ⟨_, rfl⟩
  obtain ⟨ss, hss⟩ : ∃ s, S.st = s := ⟨_, rfl⟩
  obtain ⟨sq, hsq⟩ : ∃ s, q.st = s := ⟨_, rfl⟩
  have hb0 := box_below w (.cells #[.slice A na ca, .int .i64 P.st, .slice M nm cm, .slice E ne ce, .slice A' na' ca', .int .i64 S.st, .slice M' nm' cm', .slice E' ne' ce', .slice U nu cu, .slice F nf cf, .int .i64 tick] 35)
  have hb1 := hb0.alloc hb0.size (.cells #[.slice A2 na2 ca2, .int .i64 q.st, .slice M2 nm2 cm2, .slice E2 ne2 ce2] 33)
  obtain ⟨w1, hw9⟩ : ∃ w1, w1 = (w.alloc (.cells #[.slice A na ca, .int .i64 P.st, .slice M nm cm, .slice E ne ce, .slice A' na' ca', .int .i64 S.st, .slice M' nm' cm', .slice E' ne' ce', .slice U nu cu, .slice F nf cf, .int .i64 tick] 35)).alloc (.cells #[.slice A2 na2 ca2, .int .i64 q.st, .slice M2 nm2 cm2, .slice E2 ne2 ce2] 33) := ⟨_, rfl⟩
  have kx : Blk w1 w.heap.size 35 [.slice A na ca, .int .i64 P.st, .slice M nm cm, .slice E ne ce, .slice A' na' ca', .int .i64 S.st, .slice M' nm' cm', .slice E' ne' ce', .slice U nu cu, .slice F nf cf, .int .i64 tick] := by rw [hw9]; exact (Blk.new _ _ [_, _, _, _, _, _, _, _, _, _, _]).al _
  have kz : Blk w1 (w.heap.size + 1) 33 [.slice A2 na2 ca2, .int .i64 q.st, .slice M2 nm2 cm2, .slice E2 ne2 ce2] := by rw [hw9]; exact Blk.at_ _ _ [_, _, _, _] (by simp)
  rw [← hw9] at hb1
  have HCS := Lib.hid (fun (W : World) (hb : Below w1.heap.size w1 W) => (show C11 W w.heap.size [.slice A na ca, .int .i64 P.st, .slice M nm cm, .slice E ne ce, .slice A' na' ca', .int .i64 S.st, .slice M' nm' cm', .slice E' ne' ce', .slice U nu cu, .slice F nf cf, .int .i64 tick] from fun j u hj => (kx.below hb kx.lt).cell hj))
  have HCA := Lib.hid (fun (W : World) (hb : Below w1.heap.size w1 W) => (kz.below hb kz.lt).c4)
  have HZK := Lib.hid (fun (W : World) (hb : Below w1.heap.size w1 W) => (h.below (hb1.trans (hb.mono hb1.size))).more (hb1.trans (hb.mono hb1.size)).size)
  have HXK := Lib.hid (fun (W : World) (hb : Below w1.heap.size w1 W) => AutR.more (AutR.below hx (hb1.trans (hb.mono hb1.size))) (hb1.trans (hb.mono hb1.size)).size)
  have HS0 := Lib.hid (Below.refl w1.heap.size w1)
  have HC2 := Lib.hid (fun (v : Int) (W : World) (hb : Below w1.heap.size w1 W) => law_step A2 na2 ca2 M2 nm2 cm2 E2 ne2 ce2 q i v W (HXK.out W hb))
  rw [hsq] at HC2
  rw [hsp] at HCS hw9 ⊢
  rw [hss] at HCS hw9 ⊢
  rw [hsq] at HCA hw9 ⊢
  have HW9 := Lib.hid hw9; clear hw9
  have HB1 := Lib.hid hb1; clear hb1
  have HSP := Lib.hid hsp; clear hsp
  have HSS := Lib.hid hss; clear hss
  have HSQ := Lib.hid hsq; clear hsq
  clear hb0 kx kz h hx
  have HLF := Lib.hid hlf; clear hlf
  go_enter Tryz.func23, Tryz.ntmps23
  go_upto_region 1 with fail
  rw [← HW9.out]
  have a9 := HCS.out w1 HS0.out 9 _ rfl
  have HO0 := Lib.hid (World.ownsRow_nil w1 w1.heap.size 3 1)
  have HL0 := Lib.hid (show (((f.take 0)).filter fun v => decide (0 ≤ nxt q i v)).length = 0 from rfl)
  go_wp2
  clear a9
  go_loopw [7, 9, 13] (fun s7 s9 s13 wr => ∃ (k m : Nat) (v7 v9 : Value), s7 = v7 ∧ s9 = v9 ∧ s13 = .int .i64 k ∧ k ≤ nf ∧ m ≤ k ∧ Hid (((f.take k).filter fun v => decide (0 ≤ nxt q i v)).length = m) ∧ Hid (wr.ownsRow w1.heap.size 3 1 v7 m (iv ((f.take k).filter fun v => decide (0 ≤ nxt q i v)))) ∧ Hid (Below w1.heap.size w1 wr)) (fun _ _ s13 _ => nf - (intOf s13).toNat)
  case atStart => exact ⟨0, 0, _, _, rfl, rfl, rfl, Nat.zero_le _, Nat.le_refl _, HL0, HO0, HS0⟩
  case round =>
    clear HO0 HL0
    obtain ⟨k, m, v7, v9, rfl, rfl, rfl, hk, hmk, HML, HO, HB⟩ := hrel
    by_cases hlt : k < nf
    · have b1 : (k : Int) < (nf : Int) := by omega
      obtain ⟨ad, y, rfl, hbb, hy, hcell⟩ := (HZK.out wr HB.out).rf.at_ (k := k) (by have := HLF.out; show k < f.length; omega)
      have HX := Lib.hid hy
      obtain ⟨c0, c1, c2, c3⟩ := HCA.out wr HB.out
      have HSP2 := Lib.hid (HC2.out y wr HB.out)
      obtain ⟨ny, hny⟩ : ∃ k, nxt q i y = k := ⟨_, rfl⟩
      rw [hny] at HSP2
      have HNY := Lib.hid hny
      obtain ⟨V7, c7, rfl⟩ := own_shape HO.out
      clear hy hbb hny
      go_wp2_with fail
      refine HSP2.out.mono ?_
      rintro e w4 ⟨rfl, hb4⟩
      have HO4 := Lib.hid (own_below HO.out hb4)
      have HB4 := Lib.hid (HB.out.trans (hb4.mono HB.out.size))
      have hsz : w1.heap.size ≤ w4.heap.size := HB4.out.size
      clear hb4 c0 c1 c2 c3 hcell HSP2
      by_cases h2 : 0 ≤ ny
      · have g3 : (ny ≥ 0) := h2
        have HG := Lib.hid (flt_pos (p := fun v => decide (0 ≤ nxt q i v)) HX.out (by rw [HNY.out]; exact decide_eq_true h2))
        have HL3 := Lib.hid (show (((f.take (k + 1))).filter fun v => decide (0 ≤ nxt q i v)).length = m + 1 by rw [HG.out, List.length_append, HML.out]; rfl)
        go_wp2_with (at_builtin; refine wpList_push w4 (.int .i64 y) rfl (.tmp 22) (.tmp 24) 30 rfl w1.heap.size 3 (.int .i64 0) 8 Tryz.underlying30 int_info rfl (.slice V7 m c7) m _ rfl HO4.out rfl rfl (by omega) (by omega) hsz ?_; intro v' w' ho' hg' hb1)
        have HO5 := Lib.hid (show w'.ownsRow w1.heap.size 3 1 v' (m + 1) (iv ((f.take (k + 1)).filter fun v => decide (0 ≤ nxt q i v))) from by rw [HG.out, iv_append]; exact ho')
        have HB5 := Lib.hid (HB4.out.trans hb1)
        clear ho' hg' hb1 hsz
        go_wp2
        go_roundw
        case rel => exact ⟨k + 1, m + 1, _, _, rfl, rfl, by go_num, by omega, by omega, HL3, HO5, HB5⟩
        case measure => simp [intOf]; omega
      · have g3 : ¬ (ny ≥ 0) := h2
        have HG := Lib.hid (flt_neg (p := fun v => decide (0 ≤ nxt q i v)) HX.out (by rw [HNY.out]; exact decide_eq_false h2))
        have HL3 := Lib.hid (show (((f.take (k + 1))).filter fun v => decide (0 ≤ nxt q i v)).length = m by rw [HG.out, HML.out])
        have HO5 := Lib.hid (show w4.ownsRow w1.heap.size 3 1 (.slice V7 m c7) m (iv ((f.take (k + 1)).filter fun v => decide (0 ≤ nxt q i v))) from by rw [HG.out]; exact HO4.out)
        go_wp2
        go_roundw
        case rel => exact ⟨k + 1, m, _, _, rfl, rfl, by go_num, by omega, by omega, HL3, HO5, HB4⟩
        case measure => simp [intOf]; omega
    · obtain rfl : k = nf := by omega
      have b1 : ¬ (k : Int) < (k : Int) := by omega
      rw [List.take_of_length_le (by rw [HLF.out]; exact Nat.le_refl _)] at HO HML
      have HFI := Lib.hid (HB1.out.trans (HB.out.mono HB1.out.size))
      go_wp2
      go_ret
      unfold frcE
      exact ⟨_, rfl, by rw [HML.out]; exact own_base HO.out HB1.out.size, HFI.out⟩
set_option maxRecDepth 100000 in
set_option maxHeartbeats 3200000 in
theorem law_wrong (z : SV) (x : AV) (B : Option Addr) (nb cb : Nat) (T : List (List Int)) (i : Nat) (s r v : Int) (t : Bool) (w : World) (h : z.ok w w.heap.size) (hx : x.ok w w.heap.size) (hT : RdR 2 iv w w.heap.size B T) (tl : T.length = nb) (ht : T[i]? = some [s, r]) (hF4 : z.nf ≤ 4096) (hr : wrgB z.p.a x.a T z.u z.f z.tick i v = t) :
    Calls Tryz.prog 27 #[.agg (svc z).toArray, .agg #[.slice x.A x.na x.ca, .int .i64 x.a.st, .slice x.M x.nm x.cm, .slice x.E x.ne x.ce], .slice B nb cb, .int .i64 (i : Int), .int .i64 v] w fun e w' => e = .returned (.bool t) ∧ Below w.heap.size w w' := by
  unfold wrgB at hr
  obtain ⟨t1, ht1⟩ : ∃ t, refE z.p.a x.a T i v = t := ⟨_, rfl⟩
  rw [ht1] at hr
  have HRF := Lib.hid (fun (W : World) (hb : Below w.heap.size w W) => law_refuses z x B nb cb T i s r v t1 W ((h.below hb).more hb.size) (AutR.more (AutR.below hx hb) hb.size) ((hT.below hb).more hb.size) tl ht ht1)
  have HFC := Lib.hid (fun (W : World) (hb : Below w.heap.size w W) => law_forced z x i W ((h.below hb).more hb.size) (AutR.more (AutR.below hx hb) hb.size) hF4)
  obtain ⟨t2, ht2⟩ : ∃ t, hasB z.u v = t := ⟨_, rfl⟩
  rw [ht2] at hr
  have HCT := Lib.hid (fun (W : World) (hb : Below w.heap.size w W) => slices_Contains z.U z.cu z.nu z.u v t2 W h.lu ht2 ((h.ru.below hb).more hb.size) h.u1 h.u2)
  clear ht1 ht2 hT ht
  unfold svc at HRF HFC
  obtain ⟨⟨A, na, ca, M, nm, cm, E, ne, ce, P⟩, ⟨A', na', ca', M', nm', cm', E', ne', ce', S⟩, U, nu, cu, u, F, nf, cf, f, tick⟩ := z
  obtain ⟨A2, na2, ca2, M2, nm2, cm2, E2, ne2, ce2, q⟩ := x
  dsimp only at *
  unfold svc
  dsimp only
  obtain ⟨sp, hsp⟩ : ∃ s, P.st = s := ⟨_, rfl⟩
  obtain ⟨ss, hss⟩ : ∃ s, S.st = s := ⟨_, rfl⟩
  obtain ⟨sq, hsq⟩ : ∃ s, q.st = s := ⟨_, rfl⟩
  have hb0 := box_below w (.cells #[.slice A na ca, .int .i64 P.st, .slice M nm cm, .slice E ne ce, .slice A' na' ca', .int .i64 S.st, .slice M' nm' cm', .slice E' ne' ce', .slice U nu cu, .slice F nf cf, .int .i64 tick] 35)
  have hb1 := hb0.alloc hb0.size (.cells #[.slice A2 na2 ca2, .int .i64 q.st, .slice M2 nm2 cm2, .slice E2 ne2 ce2] 33)
  obtain ⟨w1, hw9⟩ : ∃ w1, w1 = (w.alloc (.cells #[.slice A na ca, .int .i64 P.st, .slice M nm cm, .slice E ne ce, .slice A' na' ca', .int .i64 S.st, .slice M' nm' cm', .slice E' ne' ce', .slice U nu cu, .slice F nf cf, .int .i64 tick] 35)).alloc (.cells #[.slice A2 na2 ca2, .int .i64 q.st, .slice M2 nm2 cm2, .slice E2 ne2 ce2] 33) := ⟨_, rfl⟩
  have kx : Blk w1 w.heap.size 35 [.slice A na ca, .int .i64 P.st, .slice M nm cm, .slice E ne ce, .slice A' na' ca', .int .i64 S.st, .slice M' nm' cm', .slice E' ne' ce', .slice U nu cu, .slice F nf cf, .int .i64 tick] := by rw [hw9]; exact (Blk.new _ _ [_, _, _, _, _, _, _, _, _, _, _]).al _
  have kz : Blk w1 (w.heap.size + 1) 33 [.slice A2 na2 ca2, .int .i64 q.st, .slice M2 nm2 cm2, .slice E2 ne2 ce2] := by rw [hw9]; exact Blk.at_ _ _ [_, _, _, _] (by simp)
  rw [← hw9] at hb1
  have HCS := Lib.hid (fun (W : World) (hb : Below w1.heap.size w1 W) => (show C11 W w.heap.size [.slice A na ca, .int .i64 P.st, .slice M nm cm, .slice E ne ce, .slice A' na' ca', .int .i64 S.st, .slice M' nm' cm', .slice E' ne' ce', .slice U nu cu, .slice F nf cf, .int .i64 tick] from fun j u hj => (kx.below hb kx.lt).cell hj))
  have HCA := Lib.hid (fun (W : World) (hb : Below w1.heap.size w1 W) => (kz.below hb kz.lt).c4)
  have HZK := Lib.hid (fun (W : World) (hb : Below w1.heap.size w1 W) => (h.below (hb1.trans (hb.mono hb1.size))).more (hb1.trans (hb.mono hb1.size)).size)
  have HXK := Lib.hid (fun (W : World) (hb : Below w1.heap.size w1 W) => AutR.more (AutR.below hx (hb1.trans (hb.mono hb1.size))) (hb1.trans (hb.mono hb1.size)).size)
  have HS0 := Lib.hid (Below.refl w1.heap.size w1)
  have HRF := Lib.hid (HRF.out w1 hb1)
  have HCT := Lib.hid (fun (W : World) (hb : Below w1.heap.size w1 W) => HCT.out W (hb1.trans (hb.mono hb1.size)))
  have HFC := Lib.hid (fun (W : World) (hb : Below w1.heap.size w1 W) => HFC.out W (hb1.trans (hb.mono hb1.size)))
  rw [hsp, hss, hsq] at HRF HFC
  clear HZK HXK
  rw [hsp] at HCS hw9 ⊢
  rw [hss] at HCS hw9 ⊢
  rw [hsq] at HCA hw9 ⊢
  have HW9 := Lib.hid hw9; clear hw9
  have HB1 := Lib.hid hb1; clear hb1
  have HSP := Lib.hid hsp; clear hsp
  have HSS := Lib.hid hss; clear hss
  have HSQ := Lib.hid hsq; clear hsq
  clear hb0 kx kz h hx
  go_enter Tryz.func27, Tryz.ntmps27
  go_upto_region 1 with fail
  rw [← HW9.out]
  have a0 := HCS.out w1 HS0.out 0 _ rfl
  have a1 := HCS.out w1 HS0.out 1 _ rfl
  have a2 := HCS.out w1 HS0.out 2 _ rfl
  have a3 := HCS.out w1 HS0.out 3 _ rfl
  have a4 := HCS.out w1 HS0.out 4 _ rfl
  have a5 := HCS.out w1 HS0.out 5 _ rfl
  have a6 := HCS.out w1 HS0.out 6 _ rfl
  have a7 := HCS.out w1 HS0.out 7 _ rfl
  have a8 := HCS.out w1 HS0.out 8 _ rfl
  have a9 := HCS.out w1 HS0.out 9 _ rfl
  have a10 := HCS.out w1 HS0.out 10 _ rfl
  obtain ⟨c0, c1, c2, c3⟩ := HCA.out w1 HS0.out
  go_wp2_with fail
  clear a0 a1 a2 a3 a4 a5 a6 a7 a8 a9 a10 c0 c1 c2 c3
  refine HRF.out.mono ?_
  rintro e w4 ⟨rfl, hb4⟩
  have HB4 := Lib.hid hb4
  have HF4 := Lib.hid (HB1.out.trans (hb4.mono HB1.out.size))
  clear hb4 HRF
  cases t1 with
  | false =>
    have HR := Lib.hid hr
    clear hr
    go_wp2
    go_ret
    exact ⟨by rw [← HR.out]; rfl, HF4.out⟩
  | true =>
    rw [Bool.true_and] at hr
    have a0 := HCS.out w4 HB4.out 0 _ rfl
    have a1 := HCS.out w4 HB4.out 1 _ rfl
    have a2 := HCS.out w4 HB4.out 2 _ rfl
    have a3 := HCS.out w4 HB4.out 3 _ rfl
    have a4 := HCS.out w4 HB4.out 4 _ rfl
    have a5 := HCS.out w4 HB4.out 5 _ rfl
    have a6 := HCS.out w4 HB4.out 6 _ rfl
    have a7 := HCS.out w4 HB4.out 7 _ rfl
    have a8 := HCS.out w4 HB4.out 8 _ rfl
    have a9 := HCS.out w4 HB4.out 9 _ rfl
    have a10 := HCS.out w4 HB4.out 10 _ rfl
    obtain ⟨c0, c1, c2, c3⟩ := HCA.out w4 HB4.out
    have HK := Lib.hid (HCT.out w4 HB4.out)
    cases t2 with
    | true =>
      have HR := Lib.hid hr
      clear hr
      go_wp2_with fail
      refine HK.out.mono ?_
      rintro e w5 ⟨rfl, rfl⟩
      go_wp2
      go_ret
      exact ⟨by rw [← HR.out]; rfl, HF4.out⟩
    | false =>
      rw [Bool.false_or] at hr
      by_cases hy : v = tick
      · subst hy
        have e1 : (v == v) = true := by simp
        rw [e1, Bool.true_and] at hr
        have HFD := Lib.hid (HFC.out w4 HB4.out)
        obtain ⟨L, hL⟩ : ∃ L, frcE q f i = L := ⟨_, rfl⟩
        rw [hL] at HFD hr
        clear hL
        obtain ⟨nn, hnn⟩ : ∃ nn, L.length = nn := ⟨_, rfl⟩
        have HR := Lib.hid (show (decide (nn = 0)) = t by rw [← hr, ← hnn]; cases L <;> simp)
        clear hr
        go_wp2_with fail
        refine HK.out.mono ?_
        rintro e w5 ⟨rfl, rfl⟩
        go_wp2_with fail
        refine HFD.out.mono ?_
        rintro e w6 ⟨v6, rfl, ho6, hb6⟩
        obtain ⟨V6, c6, rfl⟩ := own_shape ho6
        rw [hnn]
        have HF6 := Lib.hid (HF4.out.trans (hb6.mono HF4.out.size))
        clear ho6 hb6 hnn a0 a1 a2 a3 a4 a5 a6 a7 a8 a9 a10 c0 c1 c2 c3
        by_cases hz : nn = 0
        · subst hz
          go_wp2
          go_ret
          exact ⟨by rw [← HR.out]; rfl, HF6.out⟩
        · have hz' : ((nn : Int) == 0) = false := by simp; omega
          have HZ := Lib.hid (show decide (nn = 0) = false from decide_eq_false hz)
          clear hz
          go_wp2
          go_ret
          exact ⟨by rw [← HR.out, HZ.out]; rfl, HF6.out⟩
      · have e1 : (v == tick) = false := by simpa using hy
        rw [e1, Bool.false_and] at hr
        have HR := Lib.hid hr
        clear hr hy
        go_wp2_with fail
        refine HK.out.mono ?_
        rintro e w5 ⟨rfl, rfl⟩
        go_wp2
        go_ret
        exact ⟨by rw [← HR.out]; rfl, HF4.out⟩
end Go.Proofs.YtioijhpbedmeaaaGreatDoor
