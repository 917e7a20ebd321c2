/- The law's supremal: plain and walk. -/
import Derived.Test.YtcchnibgehonoaaDoorDm
namespace Go.Proofs.YtcchnibgehonoaaDoor
open Go.RowKit Go Go.Maps

theorem passF_congr {V V' : List Int} {back : Bool} : ∀ {ed : List Ed} {N : List Bool}, (∀ x ∈ ed, hasB V x.e = hasB V' x.e) → passF V back ed N = passF V' back ed N
 | [], _, _ => rfl
 | x :: ed, N, h => by
  show passF V back ed (stepF V back N x) = passF V' back ed (stepF V' back N x)
  have e : stepF V back N x = stepF V' back N x := by unfold stepF goE; rw [h x (List.mem_cons_self ..)]
  rw [e]
  exact passF_congr fun y hy => h y (List.mem_cons_of_mem _ hy)
theorem itF_congr {V V' : List Int} {back : Bool} {ed : List Ed} (h : ∀ x ∈ ed, hasB V x.e = hasB V' x.e) (N : List Bool) : ∀ k, itF V back ed k N = itF V' back ed k N
 | 0 => rfl
 | k + 1 => by
  show passF V back ed (itF V back ed k N) = passF V' back ed (itF V' back ed k N)
  rw [itF_congr h N k, passF_congr h]
theorem clS_congr {V V' : List Int} {back : Bool} {ed : List Ed} (h : ∀ x ∈ ed, hasB V x.e = hasB V' x.e) (n : Nat) (set : List Int) : clS ed V back n set = clS ed V' back n set := by
 unfold clS; rw [itF_congr h]
theorem hasB_int {a b : List Int} {x : Int} : hasB (intS a b) x = (hasB a x && hasB b x) := by
 rw [Bool.eq_iff_iff, Bool.and_eq_true, hasB_mem, hasB_mem, hasB_mem]
 unfold intS
 rw [List.mem_filter, hasB_mem]
section
variable {P R p : Aut} {u : List Int} {T : List (List Int)}
theorem Prob.sub (h : Prob P R u p T) : ∀ v ∈ R.al, v ∈ P.al := fun v hv => by
 have h4 := (prbE_zero h.err).2.2.2
 by_cases hm : v ∈ P.al
 ·exact hm
 ·have h5 : v ∈ minS R.al P.al := minS_mem.2 ⟨hv, hm⟩
  rw [List.eq_nil_of_length_eq_zero h4] at h5
  cases h5
theorem Prob.alq (h : Prob P R u p T) : p.al = P.al := by
 refine inc_unique h.pwf.inc h.wp.inc fun v => ?_
 rw [syn_al h.syn]
 show v ∈ mrg (mrg [] P.al) R.al ↔ _
 rw [mrg_mem, mrg_mem]
 constructor
 ·rintro ((h1 | h1) | h1)
  ·cases h1
  ·exact h1
  ·exact h.sub v h1
 ·intro h1; exact .inl (.inr h1)
theorem Prob.ev (h : Prob P R u p T) : ∀ x ∈ p.ed, hasB u x.e = hasB (intS u P.al) x.e := fun x hx => by
 have h1 := (h.pwf.erng x hx).2
 rw [h.alq] at h1
 rw [hasB_int, h1, Bool.and_true]
end
theorem witA_can {a : Aut} {set : List Int} (h : WF a) : canA (witA a set) = witA a set := by
 unfold witA
 split
 ·exact canA_idem (rst_wf h)
 ·rfl
theorem clo_can {a : Aut} (h : canA a = a) : cloA a = mrkA a := by unfold cloA mrkA; rw [h]
theorem sup_eq {P R p : Aut} {u : List Int} {T : List (List Int)} {n : Nat} (h : Prob P R u p T) : cloA (witA p (minS (rngI (n : Int)) (clS p.ed u true n (badI P R u T n)))) = supA P R (intS u P.al) p T n := by
 rw [clo_can (witA_can h.pwf), clS_congr h.ev, badI_mem h.wp]; rfl

set_option maxRecDepth 100000 in
set_option maxHeartbeats 6400000 in
theorem law_supremal (A M E A' M' E' : Option Addr) (na ca nm cm ne ce na' ca' nm' cm' ne' ce' : Nat) (P R : Aut) (U : Option Addr) (cu nu : Nat) (u : List Int) (w : World) (hx : AutR w w.heap.size A na ca M nm cm E ne ce P) (hy : AutR w w.heap.size A' na' ca' M' nm' cm' E' ne' ce' R)
  (hul : u.length = nu) (hu : RdI w w.heap.size U u) (hu1 : nu ≤ cu) (hu2 : cu ≤ 9223372036854775807) (p : Aut) (T : List (List Int)) (hp : Prob P R u p T) (n : Nat) (hn : T.length = n) :
  Calls Tryd.prog 28 #[.agg #[.slice A na ca, .int .i64 P.st, .slice M nm cm, .slice E ne ce], .agg #[.slice A' na' ca', .int .i64 R.st, .slice M' nm' cm', .slice E' ne' ce'], .slice U nu cu] w (RetA (supA P R (intS u P.al) p T n) w) := by
 obtain ⟨sp, hsp⟩ : ∃ s, P.st = s := ⟨_, rfl⟩
 obtain ⟨sr, hsr⟩ : ∃ s, R.st = s := ⟨_, rfl⟩
 rw [hsp, hsr]
 have hb1 := box_below w (.cells #[.slice A na ca, .int .i64 sp, .slice M nm cm, .slice E ne ce] 25)
 have hb2 := hb1.alloc hb1.size (.cells #[.slice A' na' ca', .int .i64 sr, .slice M' nm' cm', .slice E' ne' ce'] 25)
 have hb3 := hb2.alloc hb2.size (.cells #[.slice none 0 0, .int .i64 0, .slice none 0 0, .slice none 0 0] 25)
 obtain ⟨w1, hw1⟩ : ∃ w1, w1 = (((w.alloc (.cells #[.slice A na ca, .int .i64 sp, .slice M nm cm, .slice E ne ce] 25)).alloc (.cells #[.slice A' na' ca', .int .i64 sr, .slice M' nm' cm', .slice E' ne' ce'] 25)).alloc (.cells #[.slice none 0 0, .int .i64 0, .slice none 0 0, .slice none 0 0] 25)) := ⟨_, rfl⟩
 have kR : Blk w1 (w.heap.size + 1 + 1) 25 [.slice none 0 0, .int .i64 0, .slice none 0 0, .slice none 0 0] := by rw [hw1]; exact Blk.at_ _ _ [_, _, _, _] (by simp)
 rw [← hw1] at hb3
 have hu3 := (hu.below hb3).more hb3.size
 have HC := Lib.hid (law_refusals A M E A' M' E' na ca nm cm ne ce na' ca' nm' cm' ne' ce' P R U cu nu u w1 ((hx.below hb3).more hb3.size) ((hy.below hb3).more hb3.size) hul hu3 hu1 hu2 p T hp n hn)
 rw [hsp, hsr] at HC
 have hst : p.st = (n : Int) := by rw [hp.tups.1, hn]
 have hn4 : n ≤ 3600 := by rw [← hn]; exact hp.len
 have HUW := Lib.hid (fun (W : World) (hb : Below w1.heap.size w1 W) => (hu3.below hb).more hb.size)
 have HSUP := Lib.hid (sup_eq (n := n) hp)
 have HWF := Lib.hid hp.pwf
 have HW1 := Lib.hid hw1; clear hw1
 have HB1 := Lib.hid hb3; clear hb3
 have KR := Lib.hid kR; clear kR
 have HST := Lib.hid hst; clear hst
 have HUL := Lib.hid hul; clear hul
 clear hb1 hb2 hx hy hu hu3 hsp hsr hn
 obtain ⟨BI, hBI⟩ : ∃ l, badI P R u T n = l := ⟨_, rfl⟩
 obtain ⟨nb, hnb⟩ : ∃ m, BI.length = m := ⟨_, rfl⟩
 have HBR := Lib.hid (show ∀ s ∈ BI, 0 ≤ s ∧ s < (n : Int) by rw [← hBI]; exact badI_rng)
 rw [hBI] at HC HSUP
 have HNB := Lib.hid hnb; clear hnb
 go_enter Tryd.func28, Tryd.ntmps28
 go_wp2_with fail
 rw [← HW1.out]
 refine HC.out.mono ?_
 rintro e w2 ⟨A2, na2, ca2, M2, nm2, cm2, E2, ne2, ce2, v1, v2, rfl, haR, ho1, _, hb⟩
 rw [HNB.out] at ho1
 obtain ⟨S1, c1, rfl⟩ := own_shape ho1
 rw [HST.out]
 have HB2 := Lib.hid hb
 have hx2 := box_below w2 (.cells #[.slice A2 na2 ca2, .int .i64 (n : Int), .slice M2 nm2 cm2, .slice E2 ne2 ce2] 25)
 have KV := Lib.hid (show Blk (w2.alloc (.cells #[.slice A2 na2 ca2, .int .i64 (n : Int), .slice M2 nm2 cm2, .slice E2 ne2 ce2] 25)) w2.heap.size 25 [.slice A2 na2 ca2, .int .i64 (n : Int), .slice M2 nm2 cm2, .slice E2 ne2 ce2] from Blk.new _ _ [_, _, _, _])
 have HB3 := Lib.hid (HB2.out.trans (hx2.mono HB2.out.size))
 have HAR := Lib.hid ((haR.below hx2).more hx2.size)
 have HO1 := Lib.hid (own_below ho1 hx2)
 clear hb haR ho1 hx2 HC hBI
 go_upto_region 2 with fail
 obtain ⟨w3, hw3⟩ : ∃ w3, w3 = w2.alloc (.cells #[.slice A2 na2 ca2, .int .i64 (n : Int), .slice M2 nm2 cm2, .slice E2 ne2 ce2] 25) := ⟨_, rfl⟩
 rw [← hw3] at KV HB3 HAR HO1 ⊢
 clear hw3
 obtain ⟨hc1, hc2⟩ := own_cap' HO1.out
 have HC := Lib.hid (law_reached true A2 M2 E2 na2 ca2 nm2 cm2 ne2 ce2 p S1 c1 nb BI U cu nu u n w3 HAR.out HWF.out HST.out HNB.out (RdI.of_own HO1.out) HBR.out hc1 hc2 HUL.out (HUW.out w3 HB3.out) (by omega))
 rw [HST.out] at HC
 obtain ⟨BD, hBD⟩ : ∃ l, clS p.ed u true n BI = l := ⟨_, rfl⟩
 obtain ⟨nd, hnd⟩ : ∃ m, BD.length = m := ⟨_, rfl⟩
 rw [hBD] at HC HSUP
 have hnd4 : nd ≤ 3600 := by have := clS_len (ed := p.ed) (V := u) (back := true) (n := n) (set := BI); rw [hBD, hnd] at this; omega
 have HND := Lib.hid hnd; clear hnd
 have a0 := KV.out.cell (j := 0) rfl
 have a1 := KV.out.cell (j := 1) rfl
 have a2 := KV.out.cell (j := 2) rfl
 have a3 := KV.out.cell (j := 3) rfl
 have lv := KV.out.lt
 clear hBD
 go_wp2_with fail
 refine HC.out.mono ?_
 rintro e w4 ⟨vd, rfl, hod, hb⟩
 rw [HND.out] at hod
 obtain ⟨D4, d4, rfl⟩ := own_shape hod
 have HB34 := Lib.hid hb
 have KV4 := Lib.hid (KV.out.below hb KV.out.lt)
 have HDW := Lib.hid (fun (W : World) (hw : Below w4.heap.size w4 W) => RdI.of_own (own_below hod hw))
 have HAW := Lib.hid (fun (W : World) (hw : Below w4.heap.size w4 W) => (((HAR.out.below hb).more hb.size).below hw).more hw.size)
 have HB4 := Lib.hid (HB3.out.trans (hb.mono HB3.out.size))
 clear a0 a1 a2 a3 lv HC hb hod KV
 go_wp2
 go_loopw [11, 12] (fun s11 s12 wr => ∃ (k m : Nat) (v : Value), s12 = .int .i64 k ∧ s11 = v ∧ k ≤ n ∧ m ≤ k ∧ Hid ((minS (rngI (k : Int)) BD).length = m) ∧ Hid (wr.ownsRow w4.heap.size 3 1 v m (iv (minS (rngI (k : Int)) BD))) ∧ Hid (Below w4.heap.size w4 wr)) (fun _ s12 _ => n - (intOf s12).toNat)
 case atStart => exact ⟨0, 0, _, rfl, rfl, Nat.zero_le _, Nat.le_refl _, Lib.hid rfl, Lib.hid (World.ownsRow_nil _ _ _ _), Lib.hid (Below.refl _ _)⟩
 case round =>
  obtain ⟨k, m, v, rfl, rfl, hk, hm, HM, HO, HB⟩ := hrel
  obtain ⟨KA, kc, rfl⟩ := own_shape HO.out
  have d1 := (KV4.out.below HB.out KV4.out.lt).cell (j := 1) rfl
  by_cases hlt : k < n
  ·have b1 : (k : Int) < (n : Int) := by omega
   have hsz := HB.out.size
   obtain ⟨hv, hhv⟩ : ∃ b, hasB BD (k : Int) = b := ⟨_, rfl⟩
   have HH := Lib.hid (law_has D4 d4 nd BD (k : Int) hv wr HND.out (HDW.out wr HB.out) (by omega) hhv)
   have HSN := Lib.hid (minS_snoc BD k)
   rw [hhv] at HSN
   clear hhv
   cases hv with
   | true =>
    go_wp2_with fail
    refine HH.out.mono ?_
    rintro e wx ⟨rfl, rfl⟩
    go_wp2
    go_roundw
    case rel => exact ⟨k + 1, m, _, by go_num, rfl, by omega, by omega, Lib.hid (by rw [HSN.out]; simpa using HM.out), Lib.hid (by rw [HSN.out]; simpa using HO.out), HB⟩
    case measure => simp [intOf]; omega
   | false =>
    go_wp2_with fail
    refine HH.out.mono ?_
    rintro e wx ⟨rfl, rfl⟩
    go_wp2_with (at_builtin; refine wpList_push wr (.int .i64 (k : Int)) rfl (.tmp 37) (.tmp 39) 22 rfl w4.heap.size 3 (.int .i64 0) 8 Tryd.underlying22 int_info rfl (.slice KA m kc) m _ rfl HO.out rfl rfl (by omega) (by omega) hsz ?_; intro v' w' ho' hg' hb1)
    go_roundw
    case rel => exact ⟨k + 1, m + 1, _, by go_num, rfl, by omega, by omega, Lib.hid (by rw [HSN.out, if_neg (by simp), List.length_append, HM.out]; rfl), Lib.hid (by rw [HSN.out, if_neg (by simp), iv_append]; exact ho'), Lib.hid (HB.out.trans hb1)⟩
    case measure => simp [intOf]; omega
  ·obtain rfl : k = n := by omega
   obtain ⟨KP, hKP⟩ : ∃ l, minS (rngI (k : Int)) BD = l := ⟨_, rfl⟩
   rw [hKP] at HM HO HSUP
   obtain ⟨hk1, hk2⟩ := own_cap' HO.out
   have HC := Lib.hid (law_within A2 M2 E2 na2 ca2 nm2 cm2 ne2 ce2 p KA kc m KP wr (HAW.out wr HB.out) HWF.out HM.out (RdI.of_own HO.out) (by omega))
   rw [HST.out] at HC
   have kv := KV4.out.below HB.out KV4.out.lt
   have a0 := kv.cell (j := 0) rfl
   have a2 := kv.cell (j := 2) rfl
   have a3 := kv.cell (j := 3) rfl
   have lv := kv.lt
   have b9 : ¬ (k : Int) < (k : Int) := by omega
   clear hKP hlt kv
   go_wp2_with fail
   refine HC.out.mono ?_
   rintro e w7 ⟨A7, na7, ca7, M7, nm7, cm7, E7, ne7, ce7, rfl, haR7, hb7⟩
   have HB7 := Lib.hid (HB4.out.trans ((HB.out.trans (hb7.mono HB.out.size)).mono HB4.out.size))
   have HCL := Lib.hid (automaton_Closed A7 na7 ca7 M7 nm7 cm7 E7 ne7 ce7 (witA p KP) w7 haR7 (witA_wf HWF.out))
   rw [HSUP.out] at HCL
   clear a0 a2 a3 lv d1 b9 hb7 haR7 HC
   go_wp2_with fail
   refine HCL.out.mono ?_
   rintro e w8 ⟨A8, na8, ca8, M8, nm8, cm8, E8, ne8, ce8, rfl, ho8, hb8⟩
   obtain ⟨SA, hSA⟩ : ∃ x, supA P R (intS u P.al) p T k = x := ⟨_, rfl⟩
   rw [hSA] at ho8 ⊢
   have hx8 := box_below w8 (.cells #[.slice A8 na8 ca8, .int .i64 SA.st, .slice M8 nm8 cm8, .slice E8 ne8 ce8] 25)
   have hB8 := HB7.out.trans (hb8.mono HB7.out.size)
   have hB9 := hB8.trans (hx8.mono hB8.size)
   have kR9 := KR.out.below hB9 KR.out.lt
   have ko : Blk (w8.alloc (.cells #[.slice A8 na8 ca8, .int .i64 SA.st, .slice M8 nm8 cm8, .slice E8 ne8 ce8] 25)) w8.heap.size 25 [.slice A8 na8 ca8, .int .i64 SA.st, .slice M8 nm8 cm8, .slice E8 ne8 ce8] := Blk.new _ _ [_, _, _, _]
   have l7 := HB7.out.size
   have l1 := HB1.out.size
   have hV : VarO w.heap.size (w.heap.size + 1 + 1) w8.heap.size w (w8.alloc (.cells #[.slice A8 na8 ca8, .int .i64 SA.st, .slice M8 nm8 cm8, .slice E8 ne8 ce8] 25)) A8 na8 ca8 M8 nm8 cm8 E8 ne8 ce8 SA := ⟨HB1.out.trans (hB9.mono HB1.out.size), kR9, ko, (ho8.down (b0 := w.heap.size + 1 + 1 + 1) (by have := KR.out.lt; omega)).below hx8, by omega, by have h1 := KR.out.lt; have h2 := hB8.size; omega⟩
   have HSA := Lib.hid hSA; clear hSA
   clear hb8 hx8 hB8 hB9 kR9 ko ho8 l7 l1 HCL
   go_upto_region 10 with fail
   obtain ⟨w9, hw9⟩ : ∃ w9, w9 = w8.alloc (.cells #[.slice A8 na8 ca8, .int .i64 SA.st, .slice M8 nm8 cm8, .slice E8 ne8 ce8] 25) := ⟨_, rfl⟩
   rw [← hw9] at hV ⊢
   clear hw9
   have hfin := hV.fin
   have o0 := hV.var.cell (j := 0) rfl
   have o1 := hV.var.cell (j := 1) rfl
   have o2 := hV.var.cell (j := 2) rfl
   have o3 := hV.var.cell (j := 3) rfl
   have f0 := hV.res.free 0
   have f1 := hV.res.free 1
   have f2 := hV.res.free 2
   have f3 := hV.res.free 3
   have e0 := hV.res.cell (j := 0) rfl
   have e1 := hV.res.cell (j := 1) rfl
   have e2 := hV.res.cell (j := 2) rfl
   have e3 := hV.res.cell (j := 3) rfl
   have l9 : w.heap.size + 1 + 1 < w9.heap.size := hV.res.lt
   have HFIN := Lib.hid hfin; clear hfin
   clear hV
   go_wp2
   obtain ⟨r1, r2, r3⟩ := HFIN.out
   have z0 := r1.cell (j := 0) rfl
   have z1 := r1.cell (j := 1) rfl
   have z2 := r1.cell (j := 2) rfl
   have z3 := r1.cell (j := 3) rfl
   refine bodyPost_ret (v := .agg #[.slice A8 na8 ca8, .int .i64 SA.st, .slice M8 nm8 cm8, .slice E8 ne8 ce8]) (by simp [results, Tryd.results28, go_sem, z0, z1, z2, z3]) rfl ?_
   rw [HSA.out]
   exact ⟨A8, na8, ca8, M8, nm8, cm8, E8, ne8, ce8, rfl, r2, r3⟩
end Go.Proofs.YtcchnibgehonoaaDoor
