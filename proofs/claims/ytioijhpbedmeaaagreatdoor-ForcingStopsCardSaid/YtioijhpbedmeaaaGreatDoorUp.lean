/- Walks: the loop's refused, forced. -/
import Derived.Test.YtioijhpbedmeaaaGreatDoorUo
namespace Go.Proofs.YtioijhpbedmeaaaGreatDoor
open Go.RowKit Go

theorem inc_flt {l : List Int} (h : Inc l) (p : Int → Bool) : Inc (l.filter p) := List.Pairwise.filter p h
theorem enb_len {a : Aut} (h : WF a) (s : Int) : (enbE a s).length ≤ 32 := Nat.le_trans (List.length_filter_le _ _) h.al_le
theorem enb_inc {a : Aut} (h : WF a) (s : Int) : Inc (enbE a s) := inc_flt h.inc _
theorem enb_has {a : Aut} {s v : Int} (hv : v ∈ a.al) : hasB (enbE a s) v = decide (0 ≤ nxt a s v) := by
 rw [Bool.eq_iff_iff, hasB_mem]
 unfold enbE
 rw [List.mem_filter]
 exact ⟨fun h => h.2, fun h => ⟨hv, h⟩⟩
/-- what is refused in a state -/
def refL (P q : Aut) (T : List (List Int)) (i : Int) : List Int := P.al.filter (refE P q T i)
theorem ref_minus {P S q : Aut} {T : List (List Int)} (hP : Prob P S q T) {i s r : Int} (ht : T[i.toNat]? = some [s, r]) : minS (enbE P s) (enbE q i) = refL P q T i := by
 unfold minS refL
 conv => lhs; unfold enbE
 rw [List.filter_filter]
 refine List.filter_congr fun v hv => ?_
 have hq : v ∈ q.al := by rw [hP.alq]; exact hv
 have := enb_has (s := i) hq
 unfold enbE at this
 rw [this]
 unfold refE fst2
 rw [show T.getD i.toNat [] = [s, r] by rw [List.getD_eq_getElem?_getD, ht]; rfl]
 show _ = (decide (0 ≤ nxt P s v) && decide (nxt q i v < 0))
 rw [Bool.eq_iff_iff]
 simp only [Bool.and_eq_true, Bool.not_eq_true', decide_eq_true_eq, decide_eq_false_iff_not]
 omega
/-- the forcible events that are possible -/
theorem frc_inter {q : Aut} {F : List Int} (hq : WF q) (hF : Inc F) (hs : ∀ v ∈ F, v ∈ q.al) (i : Int) : intS (enbE q i) F = frcE q F i := by
 refine inc_unique (inc_flt (enb_inc hq i) _) (inc_flt hF _) fun v => ?_
 unfold intS frcE enbE
 rw [List.mem_filter, List.mem_filter, List.mem_filter, hasB_mem]
 exact ⟨fun h => ⟨h.2, h.1.2⟩, fun h => ⟨⟨hs v h.1, h.2⟩, h.1⟩⟩
set_option maxRecDepth 100000 in
set_option maxHeartbeats 1600000 in
theorem loop_refused (b : Nat) (z : SV) (x : AV) (q : Aut) (B : Option Addr) (nb cb : Nat) (T : List (List Int)) (i : Int) (w : World) (h : LpR w b z x B nb cb T) (hP : Prob z.p.a z.s.a q T) (hq : x.a = q) (h0 : 0 ≤ i) (h1 : i < q.st) :
  Calls Tryz.prog 53 #[.pointer (some ⟨b, 0, none⟩), .int .i64 i] w (RetO 3 (refL z.p.a q T i) w) := by
 obtain ⟨s, r, ht, hs, _⟩ := hP.two_at ⟨h0, h1⟩
 have HRM := Lib.hid (ref_minus hP ht)
 have HEP := Lib.hid (fun (W : World) (hb : Below w.heap.size w W) => automaton_Enabled z.p s W ((h.below hb).zo.p) hP.wp hs.1 hs.2)
 have HEQ := Lib.hid (fun (W : World) (hb : Below w.heap.size w W) => automaton_Enabled x i W ((h.below hb).xo) (by rw [hq]; exact hP.pwf) h0 (by rw [hq]; exact h1))
 have HLN := Lib.hid (show (enbE z.p.a s).length ≤ 32 ∧ (enbE x.a i).length ≤ 32 ∧ Inc (enbE z.p.a s) ∧ Inc (enbE x.a i) from ⟨enb_len hP.wp s, by rw [hq]; exact enb_len hP.pwf i, enb_inc hP.wp s, by rw [hq]; exact enb_inc hP.pwf i⟩)
 have hi : i.toNat < nb := by have := (List.getElem?_eq_some_iff.1 ht).1; have := h.tl; omega
 have htl := h.tl
 obtain ⟨ad, hB, hab, hcl⟩ := h.ps i.toNat [s, r] ht
 have HC := Lib.hid (fun (W : World) (hb : Below w.heap.size w W) => (h.below hb).c)
 have HA := Lib.hid (fun (W : World) (hb : Below w.heap.size w W) => (show W.cell? (ad.add (i.toNat * 2)) = some (.int .i64 s) from by
  obtain ⟨ad2, hB2, _, hcl2⟩ := (h.below hb).ps i.toNat [s, r] ht
  rw [hB] at hB2; injection hB2 with hB2; subst hB2
  exact hcl2 0 _ rfl))
 subst hB
 clear hab hcl h ht
 obtain ⟨⟨A, na, ca, M, nm, cm, E, ne, ce, P⟩, ⟨A', na', ca', M', nm', cm', E', ne', ce', S⟩, U, nu, cu, u, F, nf, cf, f, tick⟩ := z
 obtain ⟨A2, na2, ca2, M2, nm2, cm2, E2, ne2, ce2, q'⟩ := x
 dsimp only at hq hP HRM HLN HEP HEQ ⊢
 obtain rfl := hq
 have HCC := Lib.hid (fun (W : World) (hb : Below w.heap.size w W) => (show (W.cell? ⟨b, 0, none⟩ = some (.slice A na ca) ∧ W.cell? ⟨b, 1, none⟩ = some (.int .i64 P.st) ∧ W.cell? ⟨b, 2, none⟩ = some (.slice M nm cm) ∧ W.cell? ⟨b, 3, none⟩ = some (.slice E ne ce)) ∧ (W.cell? ⟨b, 11, none⟩ = some (.slice A2 na2 ca2) ∧ W.cell? ⟨b, 12, none⟩ = some (.int .i64 q'.st) ∧ W.cell? ⟨b, 13, none⟩ = some (.slice M2 nm2 cm2) ∧ W.cell? ⟨b, 14, none⟩ = some (.slice E2 ne2 ce2)) ∧ W.cell? ⟨b, 15, none⟩ = some (.slice (some ad) nb cb) from
  ⟨⟨HC.out W hb 0 _ rfl, HC.out W hb 1 _ rfl, HC.out W hb 2 _ rfl, HC.out W hb 3 _ rfl⟩, ⟨HC.out W hb 11 _ rfl, HC.out W hb 12 _ rfl, HC.out W hb 13 _ rfl, HC.out W hb 14 _ rfl⟩, HC.out W hb 15 _ rfl⟩))
 obtain ⟨sp, hsp⟩ : ∃ s, P.st = s := ⟨_, rfl⟩
 obtain ⟨sq, hsq⟩ : ∃ s, q'.st = s := ⟨_, rfl⟩
 rw [hsp] at HEP HCC
 rw [hsq] at HEQ HCC
 clear HC hsp hsq hP
 obtain ⟨k, rfl⟩ : ∃ k : Nat, i = (k : Int) := ⟨i.toNat, by omega⟩
 rw [Int.toNat_natCast] at hi HA
 have t1 : ¬ (k : Int) < 0 := by omega
 have t2 : (k : Int) < (nb : Int) := by omega
 go_enter Tryz.func53, Tryz.ntmps53
 go_upto_region 1 with fail
 go_cut [5] from 7 (fun s5 wx => ∃ v5 : Value, s5 = v5 ∧ Hid (wx.ownsRow w.heap.size 3 1 v5 (enbE P s).length (iv (enbE P s))) ∧ Hid (Below w.heap.size w wx))
 case first =>
  refine wp_region_U (fun W => (W.cell? ⟨b, 0, none⟩ = some (.slice A na ca) ∧ W.cell? ⟨b, 1, none⟩ = some (.int .i64 sp) ∧ W.cell? ⟨b, 2, none⟩ = some (.slice M nm cm) ∧ W.cell? ⟨b, 3, none⟩ = some (.slice E ne ce)) ∧ W.cell? ⟨b, 15, none⟩ = some (.slice (some ad) nb cb) ∧ W.cell? (ad.add (k * 2)) = some (.int .i64 s)) (fun _ => True) 18 (by kernel_rfl) ?_
  change anyU _ _ _ _ _ _ _ 19 _ _ _
  have hB0 : True := trivial
  have hbd := below_dr w
  generalize w.drew = wd at hbd ⊢
  have hA0 := show (wd.cell? ⟨b, 0, none⟩ = some (.slice A na ca) ∧ wd.cell? ⟨b, 1, none⟩ = some (.int .i64 sp) ∧ wd.cell? ⟨b, 2, none⟩ = some (.slice M nm cm) ∧ wd.cell? ⟨b, 3, none⟩ = some (.slice E ne ce)) ∧ wd.cell? ⟨b, 15, none⟩ = some (.slice (some ad) nb cb) ∧ wd.cell? (ad.add (k * 2)) = some (.int .i64 s) from ⟨(HCC.out wd hbd).1, (HCC.out wd hbd).2.2, HA.out wd hbd⟩
  (refine uA 0 ?_ rfl hA0 hB0 (fun W hA => ?_) ?_; rotate_left; (· (go_simp; try with_reducible rfl)); refine uA 1 ?_ rfl hA0 hB0 (fun W hA => ?_) ?_; rotate_left; (· (go_simp; try with_reducible rfl)); refine uA 2 ?_ rfl hA0 hB0 (fun W hA => ?_) ?_; rotate_left; (· (go_simp; try with_reducible rfl)); refine uA 3 ?_ rfl hA0 hB0 (fun W hA => ?_) ?_; rotate_left; (· (go_simp; try with_reducible rfl)); (try simp only [Act.put, List.setIfInBounds_toArray, List.set_cons_zero, List.set_cons_succ]))
  (refine uA 4 ?_ rfl hA0 hB0 (fun W hA => ?_) ?_; rotate_left; (· (obtain ⟨⟨a0, a1, a2, a3⟩, _, _⟩ := hA; go_simp; try with_reducible rfl)); (try simp only [Act.put, List.setIfInBounds_toArray, List.set_cons_zero, List.set_cons_succ]))
  (refine uA 5 ?_ rfl hA0 hB0 (fun W hA => ?_) ?_; rotate_left; (· (go_simp; try with_reducible rfl)); refine uA 6 ?_ rfl hA0 hB0 (fun W hA => ?_) ?_; rotate_left; (· (go_simp; try with_reducible rfl)); refine uA 7 ?_ rfl hA0 hB0 (fun W hA => ?_) ?_; rotate_left; (· (go_simp; try with_reducible rfl)); (try simp only [Act.put, List.setIfInBounds_toArray, List.set_cons_zero, List.set_cons_succ]))
  (refine uA 8 ?_ rfl hA0 hB0 (fun W hA => ?_) ?_; rotate_left; (· (obtain ⟨_, a0, _⟩ := hA; go_simp; try with_reducible rfl)); (try simp only [Act.put, List.setIfInBounds_toArray, List.set_cons_zero, List.set_cons_succ]))
  (refine uA 9 ?_ rfl hA0 hB0 (fun W hA => ?_) ?_; rotate_left; (· (go_simp; try with_reducible rfl)); refine uA 10 ?_ rfl hA0 hB0 (fun W hA => ?_) ?_; rotate_left; (· (go_simp; try with_reducible rfl)); refine uA 11 ?_ rfl hA0 hB0 (fun W hA => ?_) ?_; rotate_left; (· (go_simp; try with_reducible rfl)); (try simp only [Act.put, List.setIfInBounds_toArray, List.set_cons_zero, List.set_cons_succ]))
  (refine uA 12 ?_ rfl hA0 hB0 (fun W hA => ?_) ?_; rotate_left; (· (obtain ⟨_, _, a0⟩ := hA; go_simp; try with_reducible rfl)); (try simp only [Act.put, List.setIfInBounds_toArray, List.set_cons_zero, List.set_cons_succ]))
  refine uOne (i := 13) rfl (by kernel_rfl) (fun K hK => ?_)
  go_simp
  go_at_call 88
  refine (HEP.out wd hbd).mono ?_
  rintro e w5 ⟨v, rfl, ho, hb5⟩
  have HO := Lib.hid (own_base ho hbd.size)
  have HB5 := Lib.hid (hbd.trans (hb5.mono hbd.size))
  have hA5 := show (w5.cell? ⟨b, 0, none⟩ = some (.slice A na ca) ∧ w5.cell? ⟨b, 1, none⟩ = some (.int .i64 sp) ∧ w5.cell? ⟨b, 2, none⟩ = some (.slice M nm cm) ∧ w5.cell? ⟨b, 3, none⟩ = some (.slice E ne ce)) ∧ w5.cell? ⟨b, 15, none⟩ = some (.slice (some ad) nb cb) ∧ w5.cell? (ad.add (k * 2)) = some (.int .i64 s) from ⟨(HCC.out w5 HB5.out).1, (HCC.out w5 HB5.out).2.2, HA.out w5 HB5.out⟩
  clear hA0 hb5 ho hbd
  (refine hK _ _ ⟨hA5, fun _ => hB0⟩ ?_; clear hK K; (try simp only [Act.put, List.setIfInBounds_toArray, List.set_cons_zero, List.set_cons_succ]))
  have hA0 := hA5
  (refine uA 14 ?_ rfl hA0 hB0 (fun W hA => ?_) ?_; rotate_left; (· (go_simp; try with_reducible rfl)); refine uA 15 ?_ rfl hA0 hB0 (fun W hA => ?_) ?_; rotate_left; (· (go_simp; try with_reducible rfl)); refine uA 16 ?_ rfl hA0 hB0 (fun W hA => ?_) ?_; rotate_left; (· (go_simp; try with_reducible rfl)); (try simp only [Act.put, List.setIfInBounds_toArray, List.set_cons_zero, List.set_cons_succ]))
  refine uOne (i := 17) rfl (by kernel_rfl) (fun K hK => ?_)
  go_simp
  (refine hK _ _ ⟨hA5, fun _ => hB0⟩ ?_; clear hK K; (try simp only [Act.put, List.setIfInBounds_toArray, List.set_cons_zero, List.set_cons_succ]))
  refine uOne (i := 18) rfl (by kernel_rfl) (fun K hK => ?_)
  go_simp
  (refine hK _ _ ⟨hA5, fun h => absurd (h.symm.trans (by kernel_rfl : _ = true)) Bool.false_ne_true⟩ ?_; clear hK K; (try simp only [Act.put, List.setIfInBounds_toArray, List.set_cons_zero, List.set_cons_succ]))
  refine anyU_done (by kernel_rfl) ?_ _
  clear hA5 hA0
  go_wp2_with fail
  go_meet
  case rel => exact ⟨_, rfl, HO, HB5⟩
 case rest =>
  obtain ⟨v5, rfl, HO, HB⟩ := hcut
  obtain ⟨⟨a0, a1, a2, a3⟩, ⟨d0, d1, d2, d3⟩, _⟩ := HCC.out wc HB.out
  obtain ⟨V5, c5, hv5, _, _, _⟩ := own_slI HO.out
  subst hv5
  go_wp2_with fail
  refine (HEQ.out wc HB.out).mono ?_
  rintro e w6 ⟨v6, rfl, ho6, hb6⟩
  clear a0 a1 a2 a3 d0 d1 d2 d3
  obtain ⟨V6, c6, rfl, p61, p62, r6⟩ := own_slI ho6
  have HB6 := Lib.hid (HB.out.trans (hb6.mono HB.out.size))
  obtain ⟨V7, c7, hv7, p51, p52, r5⟩ := own_slI (own_below HO.out hb6)
  injection hv7 with e1 e2 e3
  subst e1 e3
  have HM := Lib.hid (alphabet_Minus V5 V6 _ _ c5 c6 (enbE P s) (enbE q' k) w6 rfl r5 p51 p52 rfl r6 p61 p62 (by have := HLN.out; omega) HLN.out.2.2.1 HLN.out.2.2.2)
  rw [HRM.out] at HM
  clear ho6 hb6 r6 r5 p51 p52 p61 p62 e2
  go_wp2_with fail
  refine HM.out.mono ?_
  rintro e w7 ⟨v7, rfl, ho7, hb7⟩
  have HO7 := Lib.hid (own_base ho7 HB6.out.size)
  have HB7 := Lib.hid (HB6.out.trans (hb7.mono HB6.out.size))
  clear ho7 hb7
  go_wp2
  go_ret
  exact ⟨_, rfl, HO7.out, HB7.out⟩
set_option maxRecDepth 100000 in
set_option maxHeartbeats 1600000 in
theorem loop_forced (b : Nat) (z : SV) (x : AV) (q : Aut) (B : Option Addr) (nb cb : Nat) (T : List (List Int)) (i : Int) (w : World) (h : LpR w b z x B nb cb T) (hP : Prob z.p.a z.s.a q T) (hq : x.a = q) (hF : subE z.f z.p.a.al = 0) (h0 : 0 ≤ i) (h1 : i < q.st) :
  Calls Tryz.prog 54 #[.pointer (some ⟨b, 0, none⟩), .int .i64 i] w (RetO 3 (frcE q z.f i) w) := by
 have HF := Lib.hid (setErr_inc (subE_ok hF).1)
 have HRM := Lib.hid (frc_inter hP.pwf HF.out.1 (fun v hv => by rw [hP.alq]; exact (subE_ok hF).2 v hv) i)
 have HEQ := Lib.hid (fun (W : World) (hb : Below w.heap.size w W) => automaton_Enabled x i W ((h.below hb).xo) (by rw [hq]; exact hP.pwf) h0 (by rw [hq]; exact h1))
 have HLN := Lib.hid (show (enbE x.a i).length ≤ 32 ∧ z.f.length ≤ 32 ∧ Inc (enbE x.a i) from ⟨by rw [hq]; exact enb_len hP.pwf i, inc_len (n := 32) HF.out.1 HF.out.2, by rw [hq]; exact enb_inc hP.pwf i⟩)
 have HC := Lib.hid (fun (W : World) (hb : Below w.heap.size w W) => (h.below hb).c)
 have HZ := Lib.hid (fun (W : World) (hb : Below w.heap.size w W) => (h.below hb).zo)
 clear h hF
 obtain ⟨⟨A, na, ca, M, nm, cm, E, ne, ce, P⟩, ⟨A', na', ca', M', nm', cm', E', ne', ce', S⟩, U, nu, cu, u, F, nf, cf, f, tick⟩ := z
 obtain ⟨A2, na2, ca2, M2, nm2, cm2, E2, ne2, ce2, q'⟩ := x
 dsimp only at hq hP HRM HLN HEQ HF ⊢
 obtain rfl := hq
 obtain ⟨sq, hsq⟩ : ∃ s, q'.st = s := ⟨_, rfl⟩
 have d0 := HC.out w (Below.refl _ _) 11 _ rfl
 have d1 := HC.out w (Below.refl _ _) 12 _ rfl
 have d2 := HC.out w (Below.refl _ _) 13 _ rfl
 have d3 := HC.out w (Below.refl _ _) 14 _ rfl
 rw [hsq] at HEQ
 dsimp only at d0 d1 d2 d3
 rw [hsq] at d1
 clear hsq hP
 go_enter Tryz.func54, Tryz.ntmps54
 go_wp2_with fail
 refine (HEQ.out w (Below.refl _ _)).mono ?_
 rintro e w6 ⟨v6, rfl, ho6, hb6⟩
 clear d0 d1 d2 d3
 obtain ⟨V6, c6, rfl, p61, p62, r6⟩ := own_slI ho6
 have HB6 := Lib.hid hb6
 have d9 := HC.out w6 HB6.out 9 _ rfl
 have hz := HZ.out w6 HB6.out
 have HM := Lib.hid (alphabet_Intersect V6 F _ _ c6 cf (enbE q' i) f w6 rfl r6 p61 p62 hz.lf hz.rf hz.f1 hz.f2 (by have := HLN.out; have hq : f.length = nf := hz.lf; show (enbE q' i).length + nf ≤ 1000000; omega) HLN.out.2.2 HF.out.1)
 rw [HRM.out] at HM
 clear ho6 hb6 r6 p61 p62 hz
 go_wp2_with fail
 refine HM.out.mono ?_
 rintro e w7 ⟨v7, rfl, ho7, hb7⟩
 have HO7 := Lib.hid (own_base ho7 HB6.out.size)
 have HB7 := Lib.hid (HB6.out.trans (hb7.mono HB6.out.size))
 clear ho7 hb7
 go_wp2
 go_ret
 exact ⟨_, rfl, HO7.out, HB7.out⟩
end Go.Proofs.YtioijhpbedmeaaaGreatDoor
