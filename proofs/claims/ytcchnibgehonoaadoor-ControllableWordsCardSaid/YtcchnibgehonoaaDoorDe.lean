/- Walks: Supremal at a right problem. -/
import Derived.Test.YtcchnibgehonoaaDoorDa
namespace Go.Proofs.YtcchnibgehonoaaDoor
open Go.RowKit Go Go.Maps

theorem clS_inc {ed : List Ed} {V set : List Int} {back : Bool} {n : Nat} : Inc (clS ed V back n set) := onF_inc _
theorem clS_rng {ed : List Ed} {V set : List Int} {back : Bool} {n : Nat} : ∀ s ∈ clS ed V back n set, 0 ≤ s ∧ s < (n : Int) := fun s hs => by
 have h := (onF_mem.1 hs).1
 rw [itF_len, inF_len] at h
 exact h
theorem clS_len {ed : List Ed} {V set : List Int} {back : Bool} {n : Nat} : (clS ed V back n set).length ≤ n := inc_len clS_inc clS_rng
theorem keep_inc {l bad : List Int} (h : Inc l) : Inc (minS l bad) := List.Pairwise.filter _ h
theorem keep_len {bad : List Int} (n : Nat) : (minS (rngI (n : Int)) bad).length ≤ n := by
 have := List.length_filter_le (fun z => !hasB bad z) (rngI (n : Int))
 rw [rngI_lenN] at this
 exact this
theorem witA_wf {a : Aut} {set : List Int} (h : WF a) : WF (witA a set) := by
 unfold witA
 split
 ·exact canA_wf (rst_wf h)
 ·exact ⟨h.inc, h.rng, by simp, by simp, List.Pairwise.nil, fun x hx => by simp at hx, List.Pairwise.nil, fun x hx => by simp at hx⟩

set_option maxRecDepth 100000 in
set_option maxHeartbeats 6400000 in
theorem supremal_ok (A M E A' M' E' : Option Addr) (na ca nm cm ne ce na' ca' nm' cm' ne' ce' : Nat) (P R : Aut) (U : Option Addr) (cu nu : Nat) (u : List Int) (w : World) (hx : AutR w w.heap.size A na ca M nm cm E ne ce P) (hy : AutR w w.heap.size A' na' ca' M' nm' cm' E' ne' ce' R)
  (hul : u.length = nu) (hu : RdI w w.heap.size U u) (hu1 : nu ≤ cu) (hu2 : cu ≤ 9223372036854775807) (p : Aut) (T : List (List Int)) (hp : Prob P R u p T) (n : Nat) (hn : T.length = n) :
  Calls Tryd.prog 16 #[.agg #[.slice A na ca, .int .i64 P.st, .slice M nm cm, .slice E ne ce], .agg #[.slice A' na' ca', .int .i64 R.st, .slice M' nm' cm', .slice E' ne' ce'], .slice U nu cu] w (RetAE (supA P R (intS u P.al) p T n) w) := by
 obtain ⟨sp, hsp⟩ : ∃ s, P.st = s := ⟨_, rfl⟩
 obtain ⟨sr, hsr⟩ : ∃ s, R.st = s := ⟨_, rfl⟩
 rw [hsp, hsr]
 have hb1 := box_below w (.cells #[.slice A na ca, .int .i64 sp, .slice M nm cm, .slice E ne ce] 25)
 have hb2 := hb1.alloc hb1.size (.cells #[.slice A' na' ca', .int .i64 sr, .slice M' nm' cm', .slice E' ne' ce'] 25)
 have hb3 := hb2.alloc hb2.size (.cells #[.slice none 0 0, .int .i64 0, .slice none 0 0, .slice none 0 0] 25)
 obtain ⟨w1, hw1⟩ : ∃ w1, w1 = (((w.alloc (.cells #[.slice A na ca, .int .i64 sp, .slice M nm cm, .slice E ne ce] 25)).alloc (.cells #[.slice A' na' ca', .int .i64 sr, .slice M' nm' cm', .slice E' ne' ce'] 25)).alloc (.cells #[.slice none 0 0, .int .i64 0, .slice none 0 0, .slice none 0 0] 25)) := ⟨_, rfl⟩
 have kR : Blk w1 (w.heap.size + 1 + 1) 25 [.slice none 0 0, .int .i64 0, .slice none 0 0, .slice none 0 0] := by rw [hw1]; exact Blk.at_ _ _ [_, _, _, _] (by simp)
 rw [← hw1] at hb3
 have HC := Lib.hid (ctl_open_ok A M E A' M' E' na ca nm cm ne ce na' ca' nm' cm' ne' ce' P R U cu nu u w1 ((hx.below hb3).more hb3.size) ((hy.below hb3).more hb3.size) hul ((hu.below hb3).more hb3.size) hu1 hu2 p T hp)
 rw [hsp, hsr] at HC
 have hst : p.st = (n : Int) := by rw [hp.tups.1, hn]
 have hn4 : n ≤ 3600 := by rw [← hn]; exact hp.len
 have HW1 := Lib.hid hw1; clear hw1
 have HB1 := Lib.hid hb3; clear hb3
 have KR := Lib.hid kR; clear kR
 have HP := Lib.hid hp; clear hp
 have HN := Lib.hid hn; clear hn
 have HST := Lib.hid hst; clear hst
 clear hb1 hb2 hx hy hu hsp hsr hul
 go_enter Tryd.func16, Tryd.ntmps16
 go_wp2_with fail
 rw [← HW1.out]
 refine HC.out.mono ?_
 rintro e w2 ⟨b, v, rfl, hb0, hpr, hb⟩
 obtain ⟨mp, np, mr, nr, RA, nra, cra, UA, nU, cU, ⟨XA, xna, xca, XM, xnm, xcm, XE, xne, xce, xa⟩, TB, nt, ct, ts⟩ := v
 have hxa : xa = p := hpr.xa
 subst hxa
 have HB := Lib.hid (HB1.out.trans (hb.mono HB1.out.size))
 have c5 : w2.cell? ⟨b, 5, none⟩ = some (.int .i64 (n : Int)) := by
  have := hpr.blk.cell (j := 5) rfl
  rw [show xa.st = (n : Int) from HST.out] at this
  exact this
 have hxo : AutR w2 w2.heap.size XA xna xca XM xnm xcm XE xne xce xa := hpr.xo
 have KR2 := Lib.hid (KR.out.below hb KR.out.lt)
 have HT0 := Lib.hid (show TwoR w2.heap.size w2 w2 (.slice none 0 0) (.slice none 0 0) 0 0 (badI P R (intS u P.al) T 0) [] from TwoR.start w2)
 have HPWF := Lib.hid HP.out.pwf
 have HUI := Lib.hid (show Inc (intS u P.al) from List.Pairwise.filter _ HP.out.ui)
 have hUL : nU ≤ 4611686018427387903 := by
  have h1 : (intS u P.al).length = nU := hpr.ul
  have h2 := inc_len (n := 32) HUI.out (fun x hx => HP.out.ur x (List.mem_filter.1 hx).1)
  omega
 have HPR := Lib.hid hpr; clear hpr
 have HXO := Lib.hid hxo; clear hxo
 clear hb HC hb0 KR
 go_wp2
 clear c5
 go_loopw [10, 29] (fun s10 s29 wr => ∃ (k ns : Nat) (A1 : Option Addr) (c1 : Nat), s10 = .slice A1 ns c1 ∧ s29 = .int .i64 k ∧ k ≤ n ∧ ns ≤ k ∧ Hid (TwoR w2.heap.size w2 wr (.slice A1 ns c1) (.slice none 0 0) ns 0 (badI P R (intS u P.al) T k) [])) (fun _ s29 _ => n - (intOf s29).toNat)
 case atStart => exact ⟨0, 0, none, 0, rfl, rfl, Nat.zero_le _, Nat.le_refl _, HT0⟩
 case round =>
  clear HT0
  obtain ⟨k, ns, A1, c1, rfl, rfl, hk, hns, HT⟩ := hrel
  by_cases hlt : k < n
  ·have b1 : (k : Int) < (n : Int) := by omega
   obtain ⟨t, ht⟩ : ∃ t, T[k]? = some t := ⟨_, List.getElem?_eq_getElem (by rw [HN.out]; exact hlt)⟩
   obtain ⟨q, hq⟩ : ∃ q, refT P R (intS u P.al) t = q := ⟨_, rfl⟩
   have HR := Lib.hid (refused_at HP.out b _ k t wr (HPR.out.below HT.out.bel) ht q hq)
   have HTK := Lib.hid ht; clear ht
   have HQ := Lib.hid hq; clear hq
   by_cases h0 : 0 ≤ q
   ·have d1 : decide (0 ≤ q) = true := decide_eq_true h0
    have HI := Lib.hid (show badI P R (intS u P.al) T (k + 1) = badI P R (intS u P.al) T k ++ [(k : Int)] by rw [badI_snoc P R _ T HTK.out, HQ.out, if_pos h0])
    clear h0
    go_wp2_with fail
    refine HR.out.mono ?_
    rintro e w5 ⟨rfl, hb5⟩
    have HT5 := Lib.hid (HT.out.quiet hb5)
    have hbs : w2.heap.size ≤ w5.heap.size := HT5.out.siz
    clear hb5 HR HT
    go_wp2_with (at_builtin; refine wpList_pushA w5 [.int .i64 (k : Int)] rfl (.tmp 36) (.tmp 38) 22 rfl w2.heap.size 3 (.int .i64 0) 1 8 Tryd.underlying22 int_info rfl (by decide) rfl (.slice A1 ns c1) ns _ rfl HT5.out.o1 rfl (fun z hz => by simp at hz; subst hz; rfl) (by omega) (by omega) hbs ?_; intro A3 c3 w6 ho6 hg6 hl6; have HT6 := Lib.hid (HT5.out.push ho6 hg6 hl6); clear ho6 hg6 hl6)
    have hT7 := HT6.out
    rw [← HI.out] at hT7
    have HT8 := Lib.hid hT7; clear hT7
    go_roundw
    case rel => exact ⟨k + 1, ns + 1, A3, c3, rfl, by go_num, by omega, by omega, HT8⟩
    case measure => simp [intOf]; omega
   ·have d1 : decide (0 ≤ q) = false := decide_eq_false h0
    have HI := Lib.hid (show badI P R (intS u P.al) T (k + 1) = badI P R (intS u P.al) T k by rw [badI_snoc P R _ T HTK.out, HQ.out, if_neg h0, List.append_nil])
    clear h0
    go_wp2_with fail
    refine HR.out.mono ?_
    rintro e w5 ⟨rfl, hb5⟩
    have hT5 := HT.out.quiet hb5
    rw [← HI.out] at hT5
    have HT5 := Lib.hid hT5; clear hT5
    clear hb5 HR HT
    go_wp2
    go_roundw
    case rel => exact ⟨k + 1, ns, A1, c1, rfl, by go_num, by omega, by omega, HT5⟩
    case measure => simp [intOf]; omega
  ·obtain rfl : k = n := by omega
   obtain ⟨BI, hBI⟩ : ∃ l, badI P R (intS u P.al) T k = l := ⟨_, rfl⟩
   obtain ⟨BD, hBD⟩ : ∃ l, clS xa.ed (intS u P.al) true k BI = l := ⟨_, rfl⟩
   obtain ⟨nb, hnb⟩ : ∃ m, BD.length = m := ⟨_, rfl⟩
   obtain ⟨KP, hKP⟩ : ∃ l, minS (rngI (k : Int)) BD = l := ⟨_, rfl⟩
   obtain ⟨nk, hnk0⟩ : ∃ m, KP.length = m := ⟨_, rfl⟩
   obtain ⟨WA, hWA⟩ : ∃ a, witA xa KP = a := ⟨_, rfl⟩
   have HSUP := Lib.hid (show supA P R (intS u P.al) xa T k = mrkA WA by unfold supA supK; rw [hBI, hBD, hKP, hWA])
   have HBIR := Lib.hid (show ∀ s ∈ BI, 0 ≤ s ∧ s < (k : Int) by rw [← hBI]; exact badI_rng)
   have HBDI := Lib.hid (show Inc BD by rw [← hBD]; exact clS_inc)
   have hnb4 : nb ≤ 3600 := by have := clS_len (ed := xa.ed) (V := intS u P.al) (back := true) (n := k) (set := BI); rw [hBD] at this; omega
   have HKPI := Lib.hid (show Inc KP by rw [← hKP]; exact keep_inc (rng_inc _))
   have hnk : nk ≤ 4096 := by have := keep_len (bad := BD) k; rw [hKP] at this; omega
   have HWAW := Lib.hid (show WF WA by rw [← hWA]; exact witA_wf HPWF.out)
   rw [hBI] at HT
   have HBDE := Lib.hid hBD; clear hBD
   have HBDL := Lib.hid hnb; clear hnb
   have HKPE := Lib.hid hKP; clear hKP
   have HKPL := Lib.hid hnk0; clear hnk0
   have HWA := Lib.hid hWA; clear hWA
   clear hBI
   have HAT := Lib.hid (fun (W : World) (hb : Below w2.heap.size w2 W) => (show W.cell? ⟨b, 3, none⟩ = some (.slice UA nU cU) ∧ W.cell? ⟨b, 4, none⟩ = some (.slice XA xna xca) ∧ W.cell? ⟨b, 5, none⟩ = some (.int .i64 (k : Int)) ∧ W.cell? ⟨b, 6, none⟩ = some (.slice XM xnm xcm) ∧ W.cell? ⟨b, 7, none⟩ = some (.slice XE xne xce) from by
    have kb := HPR.out.blk.below hb HPR.out.blk.lt
    refine ⟨kb.cell (j := 3) rfl, kb.cell (j := 4) rfl, ?_, kb.cell (j := 6) rfl, kb.cell (j := 7) rfl⟩
    have := kb.cell (j := 5) rfl
    rw [show xa.st = (k : Int) from HST.out] at this
    exact this))
   go_upto_region 11 with fail
   refine wp_region_U (fun W => W.cell? ⟨b, 3, none⟩ = some (.slice UA nU cU) ∧ W.cell? ⟨b, 4, none⟩ = some (.slice XA xna xca) ∧ W.cell? ⟨b, 5, none⟩ = some (.int .i64 (k : Int)) ∧ W.cell? ⟨b, 6, none⟩ = some (.slice XM xnm xcm) ∧ W.cell? ⟨b, 7, none⟩ = some (.slice XE xne xce)) (fun _ => True) 10 (by kernel_rfl) ?_
   change anyU _ _ _ _ _ _ _ 11 _ _ _
   have hB0 : True := trivial
   have hTd := HT.out.quiet (below_dr wr)
   generalize wr.drew = wd at hTd ⊢
   have hA0 := HAT.out wd hTd.bel
   have HCL := Lib.hid (ctl_closureS true XA XM XE xna xca xnm xcm xne xce xa A1 c1 ns BI UA cU nU (intS u P.al) k wd (AutR.more (AutR.below HXO.out hTd.bel) hTd.bel.size) HPWF.out HST.out hTd.e1 (RdI.of_own hTd.o1) HBIR.out (own_cap' hTd.o1).1 (own_cap' hTd.o1).2 HPR.out.ul ((HPR.out.ua.below hTd.bel).more hTd.bel.size) HUI.out hUL)
   rw [HST.out, HBDE.out] at HCL
   have HBD := Lib.hid hTd.bel
   clear hTd HT
   (refine uA 0 ?_ rfl hA0 hB0 (fun W hA => ?_) ?_; rotate_left; (· (go_simp; try with_reducible rfl)); refine uA 1 ?_ rfl hA0 hB0 (fun W hA => ?_) ?_; rotate_left; (· (go_simp; try with_reducible rfl)); refine uA 2 ?_ rfl hA0 hB0 (fun W hA => ?_) ?_; rotate_left; (· (go_simp; try with_reducible rfl)); (try simp only [Act.put, List.setIfInBounds_toArray, List.set_cons_zero, List.set_cons_succ]))
   (refine uA 3 ?_ rfl hA0 hB0 (fun W hA => ?_) ?_; rotate_left; (· (obtain ⟨a3, a4, a5, a6, a7⟩ := hA; go_simp; try with_reducible rfl)); (try simp only [Act.put, List.setIfInBounds_toArray, List.set_cons_zero, List.set_cons_succ]))
   (refine uA 4 ?_ rfl hA0 hB0 (fun W hA => ?_) ?_; rotate_left; (· (go_simp; try with_reducible rfl)); refine uA 5 ?_ rfl hA0 hB0 (fun W hA => ?_) ?_; rotate_left; (· (go_simp; try with_reducible rfl)); refine uA 6 ?_ rfl hA0 hB0 (fun W hA => ?_) ?_; rotate_left; (· (go_simp; try with_reducible rfl)); refine uA 7 ?_ rfl hA0 hB0 (fun W hA => ?_) ?_; rotate_left; (· (go_simp; try with_reducible rfl)); (try simp only [Act.put, List.setIfInBounds_toArray, List.set_cons_zero, List.set_cons_succ]))
   (refine uA 8 ?_ rfl hA0 hB0 (fun W hA => ?_) ?_; rotate_left; (· (obtain ⟨a3, a4, a5, a6, a7⟩ := hA; go_simp; try with_reducible rfl)); (try simp only [Act.put, List.setIfInBounds_toArray, List.set_cons_zero, List.set_cons_succ]))
   refine uOne (i := 9) rfl (by kernel_rfl) (fun K hK => ?_)
   go_simp
   go_at_call 51
   refine HCL.out.mono ?_
   rintro e w5 ⟨v5, rfl, ho5, hb5⟩
   rw [HBDL.out] at ho5
   obtain ⟨A5, c5, rfl⟩ := own_shape ho5
   have HB5 := Lib.hid (HBD.out.trans (hb5.mono HBD.out.size))
   obtain ⟨hcb1, hcb2⟩ := own_cap' ho5
   have HR5 := Lib.hid (RdI.of_own ho5)
   have hA5 := HAT.out w5 HB5.out
   clear ho5 hb5 HCL hA0
   (refine hK _ _ ⟨hA5, fun _ => hB0⟩ ?_; clear hK K; (try simp only [Act.put, List.setIfInBounds_toArray, List.set_cons_zero, List.set_cons_succ]))
   refine uOne (i := 10) rfl (by kernel_rfl) (fun K hK => ?_)
   go_simp
   (refine hK _ _ ⟨hA5, fun h => absurd (h.symm.trans (by kernel_rfl : _ = true)) Bool.false_ne_true⟩ ?_; clear hK K; (try simp only [Act.put, List.setIfInBounds_toArray, List.set_cons_zero, List.set_cons_succ]))
   refine anyU_done (by kernel_rfl) ?_ _
   clear hA5
   go_upto_region 12 with fail
   go_cut [12] from 13 (fun s12 wx => ∃ (o : Nat) (A9 : Option Addr) (na9 ca9 : Nat) (M9 : Option Addr) (nm9 cm9 : Nat) (E9 : Option Addr) (ne9 ce9 : Nat), s12 = .pointer (some ⟨o, 0, none⟩) ∧ Hid (VarO w.heap.size (w.heap.size + 1 + 1) o w wx A9 na9 ca9 M9 nm9 cm9 E9 ne9 ce9 WA))
   case first =>
    refine wp_region_U (fun W => W.cell? ⟨b, 3, none⟩ = some (.slice UA nU cU) ∧ W.cell? ⟨b, 4, none⟩ = some (.slice XA xna xca) ∧ W.cell? ⟨b, 5, none⟩ = some (.int .i64 (k : Int)) ∧ W.cell? ⟨b, 6, none⟩ = some (.slice XM xnm xcm) ∧ W.cell? ⟨b, 7, none⟩ = some (.slice XE xne xce)) (fun _ => True) 14 (by kernel_rfl) ?_
    change anyU _ _ _ _ _ _ _ 15 _ _ _
    have hB0 : True := trivial
    have hd := below_dr w5
    generalize w5.drew = we at hd ⊢
    have HRU := Lib.hid (fun (W : World) (hb : Below we.heap.size we W) => (((HR5.out.below hd).more hd.size).below hb).more hb.size)
    have HBE := Lib.hid (HB5.out.trans (hd.mono HB5.out.size))
    have HAU := Lib.hid (fun (W : World) (hb : Below we.heap.size we W) => HAT.out W (HBE.out.trans (hb.mono HBE.out.size)))
    have HXU := Lib.hid (fun (W : World) (hb : Below we.heap.size we W) => AutR.more (AutR.below HXO.out (HBE.out.trans (hb.mono HBE.out.size))) (HBE.out.trans (hb.mono HBE.out.size)).size)
    have HBU := Lib.hid (fun (W : World) (hb : Below we.heap.size we W) => HB.out.trans ((HBE.out.trans (hb.mono HBE.out.size)).mono HB.out.size))
    have HKU := Lib.hid (fun (W : World) (hb : Below we.heap.size we W) => KR2.out.below (HBE.out.trans (hb.mono HBE.out.size)) KR2.out.lt)
    have HB00 := Lib.hid (Below.refl we.heap.size we)
    have hA0 := HAU.out we HB00.out
    have hrb : w.heap.size + 1 + 1 < we.heap.size := by have h1 := KR2.out.lt; have h2 := HBE.out.size; omega
    clear hd HAT HR5 HXO HPR
    (refine uA 0 ?_ rfl hA0 hB0 (fun W hA => ?_) ?_; rotate_left; (· (go_simp; try with_reducible rfl)); refine uA 1 ?_ rfl hA0 hB0 (fun W hA => ?_) ?_; rotate_left; (· (go_simp; try with_reducible rfl)); refine uA 2 ?_ rfl hA0 hB0 (fun W hA => ?_) ?_; rotate_left; (· (go_simp; try with_reducible rfl)); (try simp only [Act.put, List.setIfInBounds_toArray, List.set_cons_zero, List.set_cons_succ]))
    (refine uA 3 ?_ rfl hA0 hB0 (fun W hA => ?_) ?_; rotate_left; (· (obtain ⟨a3, a4, a5, a6, a7⟩ := hA; go_simp; try with_reducible rfl)); (try simp only [Act.put, List.setIfInBounds_toArray, List.set_cons_zero, List.set_cons_succ]))
    (refine uA 4 ?_ rfl hA0 hB0 (fun W hA => ?_) ?_; rotate_left; (· (go_simp; try with_reducible rfl)); refine uA 5 ?_ rfl hA0 hB0 (fun W hA => ?_) ?_; rotate_left; (· (go_simp; try with_reducible rfl)); refine uA 6 ?_ rfl hA0 hB0 (fun W hA => ?_) ?_; rotate_left; (· (go_simp; try with_reducible rfl)); refine uA 7 ?_ rfl hA0 hB0 (fun W hA => ?_) ?_; rotate_left; (· (go_simp; try with_reducible rfl)); (try simp only [Act.put, List.setIfInBounds_toArray, List.set_cons_zero, List.set_cons_succ]))
    (refine uA 8 ?_ rfl hA0 hB0 (fun W hA => ?_) ?_; rotate_left; (· (obtain ⟨a3, a4, a5, a6, a7⟩ := hA; go_simp; try with_reducible rfl)); (try simp only [Act.put, List.setIfInBounds_toArray, List.set_cons_zero, List.set_cons_succ]))
    (refine uA 10 ?_ rfl hA0 hB0 (fun W hA => ?_) ?_; rotate_left; (· (go_simp; try with_reducible rfl)); (try simp only [Act.put, List.setIfInBounds_toArray, List.set_cons_zero, List.set_cons_succ]))
    clear hA0
    refine uTwo (i := 9) (j := 13) rfl rfl (by kernel_rfl) (fun K hK => ?_) (fun K hK => ?_)
    ·skip
     have HALL := Lib.hid (ctl_all k we (by omega))
     go_simp
     go_at_call 54
     refine HALL.out.mono ?_
     rintro e wa ⟨va, rfl, hoa, hba⟩
     obtain ⟨AA, cA, rfl⟩ := own_shape hoa
     rw [rngI_lenN] at hoa ⊢
     have HBA := Lib.hid (HB00.out.trans (hba.mono HB00.out.size))
     obtain ⟨hca1, hca2⟩ := own_cap' hoa
     have HRA := Lib.hid (RdI.of_own hoa)
     skip
     have hA1 := HAU.out wa HBA.out
     have HMIN := Lib.hid (fun (W : World) (hbw : Below wa.heap.size wa W) => alphabet_Minus AA A5 k nb cA c5 (rngI (k : Int)) BD W (rngI_lenN k) ((HRA.out.below hbw).more hbw.size) hca1 hca2 HBDL.out (HRU.out W (HBA.out.trans (hbw.mono HBA.out.size))) hcb1 hcb2 (by omega) (rng_inc _) HBDI.out)
     clear hoa hba HALL
     (refine hK _ _ ⟨hA1, fun _ => hB0⟩ ?_; clear hK K; (try simp only [Act.put, List.setIfInBounds_toArray, List.set_cons_zero, List.set_cons_succ]))
     refine uTwo (i := 11) (j := 13) rfl rfl (by kernel_rfl) (fun K hK => ?_) (fun K hK => ?_)
     ·skip
      go_simp
      go_at_call 53
      refine (HMIN.out wa (Below.refl _ _)).mono ?_
      rintro e wm ⟨vm, rfl, hom, hbm⟩
      obtain ⟨AM, cM, rfl⟩ := own_shape hom
      rw [HKPE.out, HKPL.out] at hom
      rw [HKPE.out, HKPL.out]
      have HBM := Lib.hid (HBA.out.trans (hbm.mono HBA.out.size))
      obtain ⟨hcm1, hcm2⟩ := own_cap' hom
      have HRM := Lib.hid (RdI.of_own hom)
      skip
      have hA2 := HAU.out wm HBM.out
      have HWIT := Lib.hid (fun (W : World) (hbw : Below wm.heap.size wm W) => ctl_within XA XM XE xna xca xnm xcm xne xce xa AM cM nk KP W (HXU.out W (HBM.out.trans (hbw.mono HBM.out.size))) HPWF.out HKPL.out ((HRM.out.below hbw).more hbw.size) hcm1 hcm2 hnk HKPI.out)
      rw [HST.out, HWA.out] at HWIT
      clear hom hbm HMIN HRA
      (refine hK _ _ ⟨hA2, fun _ => hB0⟩ ?_; clear hK K; (try simp only [Act.put, List.setIfInBounds_toArray, List.set_cons_zero, List.set_cons_succ]))
      refine uTwo (i := 12) (j := 13) rfl rfl (by kernel_rfl) (fun K hK => ?_) (fun K hK => ?_)
      ·skip
       go_simp
       go_at_call 52
       refine (HWIT.out wm (Below.refl _ _)).mono ?_
       rintro e ww ⟨A9, na9, ca9, M9, nm9, cm9, E9, ne9, ce9, rfl, ho9, hb9⟩
       have HBW := Lib.hid (HBM.out.trans (hb9.mono HBM.out.size))
       have lww := HBM.out.size
       skip
       have HO9 := Lib.hid (ho9.down (b0 := w.heap.size + 1 + 1 + 1) (by omega))
       have HBF := Lib.hid (HBU.out ww HBW.out)
       have hA3 := HAU.out ww HBW.out
       clear ho9 hb9 HWIT HRM
       (refine hK _ _ ⟨hA3, fun _ => hB0⟩ ?_; clear hK K; (try simp only [Act.put, List.setIfInBounds_toArray, List.set_cons_zero, List.set_cons_succ]))
       refine uOne (i := 13) rfl (by kernel_rfl) (fun K hK => ?_)
       go_simp
       have hAz := HAU.out _ (HBW.out.alloc HBW.out.size (.cells #[.slice none 0 0, .int .i64 0, .slice none 0 0, .slice none 0 0] 25))
       (refine hK _ _ ⟨hAz, fun _ => hB0⟩ ?_; clear hK K; (try simp only [Act.put, List.setIfInBounds_toArray, List.set_cons_zero, List.set_cons_succ]))
       refine uOne (i := 14) rfl (by kernel_rfl) (fun K hK => ?_)
       go_simp
       have hAf := HAU.out _ (HBW.out.alloc HBW.out.size (.cells #[.slice A9 na9 ca9, .int .i64 WA.st, .slice M9 nm9 cm9, .slice E9 ne9 ce9] 25))
       (refine hK _ _ ⟨hAf, fun h => absurd (h.symm.trans (by kernel_rfl : _ = true)) Bool.false_ne_true⟩ ?_; clear hK K; (try simp only [Act.put, List.setIfInBounds_toArray, List.set_cons_zero, List.set_cons_succ]))
       refine anyU_done (by kernel_rfl) ?_ _
       have HV := Lib.hid (VarO.new (B := w.heap.size) (rb := w.heap.size + 1 + 1) HBF.out (HKU.out ww HBW.out) HO9.out (by omega))
       clear hAz hAf
       go_wp2_with fail
       go_meet
       case rel => exact ⟨ww.heap.size, A9, na9, ca9, M9, nm9, cm9, E9, ne9, ce9, rfl, HV⟩
      ·skip
       go_simp
       have HKZ := Lib.hid (show Blk (World.alloc wm (.cells #[.slice none 0 0, .int .i64 0, .slice none 0 0, .slice none 0 0] 25)) (wm).heap.size 25 [.slice none 0 0, .int .i64 0, .slice none 0 0, .slice none 0 0] from Blk.new _ _ [_, _, _, _])
       have HBX := Lib.hid (box_below wm (.cells #[.slice none 0 0, .int .i64 0, .slice none 0 0, .slice none 0 0] 25))
       have HBZ := Lib.hid (HBM.out.trans (HBX.out.mono HBM.out.size))
       have hAz := HAU.out _ HBZ.out
       have lz := HBM.out.size
       (refine hK _ _ ⟨hAz, fun _ => hB0⟩ ?_; clear hK K; (try simp only [Act.put, List.setIfInBounds_toArray, List.set_cons_zero, List.set_cons_succ]))
       refine uOne (i := 12) rfl (by kernel_rfl) (fun K hK => ?_)
       go_simp
       go_at_call 52
       refine (HWIT.out _ HBX.out).mono ?_
       rintro e ww ⟨A9, na9, ca9, M9, nm9, cm9, E9, ne9, ce9, rfl, ho9, hb9⟩
       have HBW := Lib.hid (HBZ.out.trans (hb9.mono HBZ.out.size))
       have lww := HBZ.out.size
       have HKZ := Lib.hid (HKZ.out.below hb9 HKZ.out.lt)
       have HO9 := Lib.hid (ho9.down (b0 := w.heap.size + 1 + 1 + 1) (by omega))
       have HBF := Lib.hid (HBU.out ww HBW.out)
       have hA3 := HAU.out ww HBW.out
       clear ho9 hb9 HWIT HRM
       (refine hK _ _ ⟨hA3, fun _ => hB0⟩ ?_; clear hK K; (try simp only [Act.put, List.setIfInBounds_toArray, List.set_cons_zero, List.set_cons_succ]))
       refine uOne (i := 14) rfl (by kernel_rfl) (fun K hK => ?_)
       have f0 := HKZ.out.free 0
       have f1 := HKZ.out.free 1
       have f2 := HKZ.out.free 2
       have f3 := HKZ.out.free 3
       have e0 := HKZ.out.cell (j := 0) rfl
       have e1 := HKZ.out.cell (j := 1) rfl
       have e2 := HKZ.out.cell (j := 2) rfl
       have e3 := HKZ.out.cell (j := 3) rfl
       have l9 : wm.heap.size < ww.heap.size := HKZ.out.lt
       have HV := Lib.hid (VarO.put (B := w.heap.size) (rb := w.heap.size + 1 + 1) (o := wm.heap.size) HBF.out (HKU.out ww HBW.out) HKZ.out HO9.out (by omega) (by omega))
       have hAf := HAU.out _ (below_set4 (b := wm.heap.size) (v0 := .slice A9 na9 ca9) (v1 := .int .i64 WA.st) (v2 := .slice M9 nm9 cm9) (v3 := .slice E9 ne9 ce9) HBW.out (by omega))
       go_simp
       (refine hK _ _ ⟨hAf, fun h => absurd (h.symm.trans (by kernel_rfl : _ = true)) Bool.false_ne_true⟩ ?_; clear hK K; (try simp only [Act.put, List.setIfInBounds_toArray, List.set_cons_zero, List.set_cons_succ]))
       refine anyU_done (by kernel_rfl) ?_ _
       clear hAf f0 f1 f2 f3 e0 e1 e2 e3 l9
       go_wp2_with fail
       go_meet
       case rel => exact ⟨wm.heap.size, A9, na9, ca9, M9, nm9, cm9, E9, ne9, ce9, rfl, HV⟩
     ·skip
      go_simp
      have HKZ := Lib.hid (show Blk (World.alloc wa (.cells #[.slice none 0 0, .int .i64 0, .slice none 0 0, .slice none 0 0] 25)) (wa).heap.size 25 [.slice none 0 0, .int .i64 0, .slice none 0 0, .slice none 0 0] from Blk.new _ _ [_, _, _, _])
      have HBX := Lib.hid (box_below wa (.cells #[.slice none 0 0, .int .i64 0, .slice none 0 0, .slice none 0 0] 25))
      have HBZ := Lib.hid (HBA.out.trans (HBX.out.mono HBA.out.size))
      have hAz := HAU.out _ HBZ.out
      have lz := HBA.out.size
      (refine hK _ _ ⟨hAz, fun _ => hB0⟩ ?_; clear hK K; (try simp only [Act.put, List.setIfInBounds_toArray, List.set_cons_zero, List.set_cons_succ]))
      refine uOne (i := 11) rfl (by kernel_rfl) (fun K hK => ?_)
      go_simp
      go_at_call 53
      refine (HMIN.out _ HBX.out).mono ?_
      rintro e wm ⟨vm, rfl, hom, hbm⟩
      obtain ⟨AM, cM, rfl⟩ := own_shape hom
      rw [HKPE.out, HKPL.out] at hom
      rw [HKPE.out, HKPL.out]
      have HBM := Lib.hid (HBZ.out.trans (hbm.mono HBZ.out.size))
      obtain ⟨hcm1, hcm2⟩ := own_cap' hom
      have HRM := Lib.hid (RdI.of_own hom)
      have HKZ := Lib.hid (HKZ.out.below hbm HKZ.out.lt)
      have hA2 := HAU.out wm HBM.out
      have HWIT := Lib.hid (fun (W : World) (hbw : Below wm.heap.size wm W) => ctl_within XA XM XE xna xca xnm xcm xne xce xa AM cM nk KP W (HXU.out W (HBM.out.trans (hbw.mono HBM.out.size))) HPWF.out HKPL.out ((HRM.out.below hbw).more hbw.size) hcm1 hcm2 hnk HKPI.out)
      rw [HST.out, HWA.out] at HWIT
      clear hom hbm HMIN HRA
      (refine hK _ _ ⟨hA2, fun _ => hB0⟩ ?_; clear hK K; (try simp only [Act.put, List.setIfInBounds_toArray, List.set_cons_zero, List.set_cons_succ]))
      refine uOne (i := 12) rfl (by kernel_rfl) (fun K hK => ?_)
      go_simp
      go_at_call 52
      refine (HWIT.out wm (Below.refl _ _)).mono ?_
      rintro e ww ⟨A9, na9, ca9, M9, nm9, cm9, E9, ne9, ce9, rfl, ho9, hb9⟩
      have HBW := Lib.hid (HBM.out.trans (hb9.mono HBM.out.size))
      have lww := HBM.out.size
      have HKZ := Lib.hid (HKZ.out.below hb9 HKZ.out.lt)
      have HO9 := Lib.hid (ho9.down (b0 := w.heap.size + 1 + 1 + 1) (by omega))
      have HBF := Lib.hid (HBU.out ww HBW.out)
      have hA3 := HAU.out ww HBW.out
      clear ho9 hb9 HWIT HRM
      (refine hK _ _ ⟨hA3, fun _ => hB0⟩ ?_; clear hK K; (try simp only [Act.put, List.setIfInBounds_toArray, List.set_cons_zero, List.set_cons_succ]))
      refine uOne (i := 14) rfl (by kernel_rfl) (fun K hK => ?_)
      have f0 := HKZ.out.free 0
      have f1 := HKZ.out.free 1
      have f2 := HKZ.out.free 2
      have f3 := HKZ.out.free 3
      have e0 := HKZ.out.cell (j := 0) rfl
      have e1 := HKZ.out.cell (j := 1) rfl
      have e2 := HKZ.out.cell (j := 2) rfl
      have e3 := HKZ.out.cell (j := 3) rfl
      have l9 : wa.heap.size < ww.heap.size := HKZ.out.lt
      have HV := Lib.hid (VarO.put (B := w.heap.size) (rb := w.heap.size + 1 + 1) (o := wa.heap.size) HBF.out (HKU.out ww HBW.out) HKZ.out HO9.out (by omega) (by omega))
      have hAf := HAU.out _ (below_set4 (b := wa.heap.size) (v0 := .slice A9 na9 ca9) (v1 := .int .i64 WA.st) (v2 := .slice M9 nm9 cm9) (v3 := .slice E9 ne9 ce9) HBW.out (by omega))
      go_simp
      (refine hK _ _ ⟨hAf, fun h => absurd (h.symm.trans (by kernel_rfl : _ = true)) Bool.false_ne_true⟩ ?_; clear hK K; (try simp only [Act.put, List.setIfInBounds_toArray, List.set_cons_zero, List.set_cons_succ]))
      refine anyU_done (by kernel_rfl) ?_ _
      clear hAf f0 f1 f2 f3 e0 e1 e2 e3 l9
      go_wp2_with fail
      go_meet
      case rel => exact ⟨wa.heap.size, A9, na9, ca9, M9, nm9, cm9, E9, ne9, ce9, rfl, HV⟩
    ·skip
     go_simp
     have HKZ := Lib.hid (show Blk (World.alloc we (.cells #[.slice none 0 0, .int .i64 0, .slice none 0 0, .slice none 0 0] 25)) (we).heap.size 25 [.slice none 0 0, .int .i64 0, .slice none 0 0, .slice none 0 0] from Blk.new _ _ [_, _, _, _])
     have HBX := Lib.hid (box_below we (.cells #[.slice none 0 0, .int .i64 0, .slice none 0 0, .slice none 0 0] 25))
     have HBZ := Lib.hid (HB00.out.trans (HBX.out.mono HB00.out.size))
     have hAz := HAU.out _ HBZ.out
     have lz := HB00.out.size
     (refine hK _ _ ⟨hAz, fun _ => hB0⟩ ?_; clear hK K; (try simp only [Act.put, List.setIfInBounds_toArray, List.set_cons_zero, List.set_cons_succ]))
     refine uOne (i := 9) rfl (by kernel_rfl) (fun K hK => ?_)
     have HALL := Lib.hid (ctl_all k (we.alloc (.cells #[.slice none 0 0, .int .i64 0, .slice none 0 0, .slice none 0 0] 25)) (by omega))
     go_simp
     go_at_call 54
     refine HALL.out.mono ?_
     rintro e wa ⟨va, rfl, hoa, hba⟩
     obtain ⟨AA, cA, rfl⟩ := own_shape hoa
     rw [rngI_lenN] at hoa ⊢
     have HBA := Lib.hid (HBZ.out.trans (hba.mono HBZ.out.size))
     obtain ⟨hca1, hca2⟩ := own_cap' hoa
     have HRA := Lib.hid (RdI.of_own hoa)
     have HKZ := Lib.hid (HKZ.out.below hba HKZ.out.lt)
     have hA1 := HAU.out wa HBA.out
     have HMIN := Lib.hid (fun (W : World) (hbw : Below wa.heap.size wa W) => alphabet_Minus AA A5 k nb cA c5 (rngI (k : Int)) BD W (rngI_lenN k) ((HRA.out.below hbw).more hbw.size) hca1 hca2 HBDL.out (HRU.out W (HBA.out.trans (hbw.mono HBA.out.size))) hcb1 hcb2 (by omega) (rng_inc _) HBDI.out)
     clear hoa hba HALL
     (refine hK _ _ ⟨hA1, fun _ => hB0⟩ ?_; clear hK K; (try simp only [Act.put, List.setIfInBounds_toArray, List.set_cons_zero, List.set_cons_succ]))
     refine uOne (i := 11) rfl (by kernel_rfl) (fun K hK => ?_)
     go_simp
     go_at_call 53
     refine (HMIN.out wa (Below.refl _ _)).mono ?_
     rintro e wm ⟨vm, rfl, hom, hbm⟩
     obtain ⟨AM, cM, rfl⟩ := own_shape hom
     rw [HKPE.out, HKPL.out] at hom
     rw [HKPE.out, HKPL.out]
     have HBM := Lib.hid (HBA.out.trans (hbm.mono HBA.out.size))
     obtain ⟨hcm1, hcm2⟩ := own_cap' hom
     have HRM := Lib.hid (RdI.of_own hom)
     have HKZ := Lib.hid (HKZ.out.below hbm HKZ.out.lt)
     have hA2 := HAU.out wm HBM.out
     have HWIT := Lib.hid (fun (W : World) (hbw : Below wm.heap.size wm W) => ctl_within XA XM XE xna xca xnm xcm xne xce xa AM cM nk KP W (HXU.out W (HBM.out.trans (hbw.mono HBM.out.size))) HPWF.out HKPL.out ((HRM.out.below hbw).more hbw.size) hcm1 hcm2 hnk HKPI.out)
     rw [HST.out, HWA.out] at HWIT
     clear hom hbm HMIN HRA
     (refine hK _ _ ⟨hA2, fun _ => hB0⟩ ?_; clear hK K; (try simp only [Act.put, List.setIfInBounds_toArray, List.set_cons_zero, List.set_cons_succ]))
     refine uOne (i := 12) rfl (by kernel_rfl) (fun K hK => ?_)
     go_simp
     go_at_call 52
     refine (HWIT.out wm (Below.refl _ _)).mono ?_
     rintro e ww ⟨A9, na9, ca9, M9, nm9, cm9, E9, ne9, ce9, rfl, ho9, hb9⟩
     have HBW := Lib.hid (HBM.out.trans (hb9.mono HBM.out.size))
     have lww := HBM.out.size
     have HKZ := Lib.hid (HKZ.out.below hb9 HKZ.out.lt)
     have HO9 := Lib.hid (ho9.down (b0 := w.heap.size + 1 + 1 + 1) (by omega))
     have HBF := Lib.hid (HBU.out ww HBW.out)
     have hA3 := HAU.out ww HBW.out
     clear ho9 hb9 HWIT HRM
     (refine hK _ _ ⟨hA3, fun _ => hB0⟩ ?_; clear hK K; (try simp only [Act.put, List.setIfInBounds_toArray, List.set_cons_zero, List.set_cons_succ]))
     refine uOne (i := 14) rfl (by kernel_rfl) (fun K hK => ?_)
     have f0 := HKZ.out.free 0
     have f1 := HKZ.out.free 1
     have f2 := HKZ.out.free 2
     have f3 := HKZ.out.free 3
     have e0 := HKZ.out.cell (j := 0) rfl
     have e1 := HKZ.out.cell (j := 1) rfl
     have e2 := HKZ.out.cell (j := 2) rfl
     have e3 := HKZ.out.cell (j := 3) rfl
     have l9 : we.heap.size < ww.heap.size := HKZ.out.lt
     have HV := Lib.hid (VarO.put (B := w.heap.size) (rb := w.heap.size + 1 + 1) (o := we.heap.size) HBF.out (HKU.out ww HBW.out) HKZ.out HO9.out (by omega) (by omega))
     have hAf := HAU.out _ (below_set4 (b := we.heap.size) (v0 := .slice A9 na9 ca9) (v1 := .int .i64 WA.st) (v2 := .slice M9 nm9 cm9) (v3 := .slice E9 ne9 ce9) HBW.out (by omega))
     go_simp
     (refine hK _ _ ⟨hAf, fun h => absurd (h.symm.trans (by kernel_rfl : _ = true)) Bool.false_ne_true⟩ ?_; clear hK K; (try simp only [Act.put, List.setIfInBounds_toArray, List.set_cons_zero, List.set_cons_succ]))
     refine anyU_done (by kernel_rfl) ?_ _
     clear hAf f0 f1 f2 f3 e0 e1 e2 e3 l9
     go_wp2_with fail
     go_meet
     case rel => exact ⟨we.heap.size, A9, na9, ca9, M9, nm9, cm9, E9, ne9, ce9, rfl, HV⟩
   case rest =>
    obtain ⟨o, A9, na9, ca9, M9, nm9, cm9, E9, ne9, ce9, rfl, HV⟩ := hcut
    obtain ⟨ns9, hns9⟩ : ∃ m : Nat, WA.st = (m : Int) := ⟨WA.st.toNat, by have := HWAW.out.st0; omega⟩
    have hn9 : ns9 ≤ 4096 := by have := HWAW.out.st1; omega
    have HALL := Lib.hid (ctl_all ns9 wc hn9)
    have o1 : wc.cell? ⟨o, 1, none⟩ = some (.int .i64 (ns9 : Int)) := by
     have := HV.out.var.cell (j := 1) rfl
     rw [hns9] at this
     exact this
    have HNS := Lib.hid hns9; clear hns9
    clear HAT HR5 HXO HPR HB5
    go_wp2_with fail
    refine HALL.out.mono ?_
    rintro e wd ⟨vd, rfl, hod, hbd⟩
    obtain ⟨MD, cD, rfl⟩ := own_shape hod
    rw [rngI_lenN] at hod ⊢
    have hV2 := HV.out.quiet hbd
    have f2 := hV2.var.free 2
    have l2 := hV2.var.lt
    have g2 := hV2.var.cell (j := 2) rfl
    have hV3 := hV2.mark (own_base (base := w.heap.size + 1 + 1 + 1) hod (by have h1 := HV.out.res.lt; omega)) (rngI_lenN ns9)
    have hfin := hV3.fin
    have HMR := Lib.hid (show mrkA WA = ⟨WA.al, WA.st, rngI (ns9 : Int), WA.ed⟩ by unfold mrkA; rw [HNS.out])
    clear o1 HALL HV hbd hod
    go_upto_region 14 with fail
    clear f2 l2 g2 hV2
    generalize wd.setCell ⟨o, 2, none⟩ (.slice MD ns9 cD) = we at hV3 hfin ⊢
    have o0 := hV3.var.cell (j := 0) rfl
    have o1 := hV3.var.cell (j := 1) rfl
    have o2 := hV3.var.cell (j := 2) rfl
    have o3 := hV3.var.cell (j := 3) rfl
    have f0 := hV3.res.free 0
    have f1 := hV3.res.free 1
    have f2 := hV3.res.free 2
    have f3 := hV3.res.free 3
    have e0 := hV3.res.cell (j := 0) rfl
    have e1 := hV3.res.cell (j := 1) rfl
    have e2 := hV3.res.cell (j := 2) rfl
    have e3 := hV3.res.cell (j := 3) rfl
    have l9 : w.heap.size + 1 + 1 < we.heap.size := hV3.res.lt
    have HFIN := Lib.hid hfin; clear hfin
    clear hV3
    go_wp2
    obtain ⟨r1, r2, r3⟩ := HFIN.out
    have z0 := r1.cell (j := 0) rfl
    have z1 := r1.cell (j := 1) rfl
    have z2 := r1.cell (j := 2) rfl
    have z3 := r1.cell (j := 3) rfl
    refine bodyPost_ret (v := .tuple #[.agg #[.slice A9 na9 ca9, .int .i64 WA.st, .slice MD ns9 cD, .slice E9 ne9 ce9], .int .i64 0]) (by simp [results, Tryd.results16, go_sem, z0, z1, z2, z3]) rfl ?_
    rw [HSUP.out, HMR.out]
    exact ⟨A9, na9, ca9, MD, ns9, cD, E9, ne9, ce9, rfl, r2, r3⟩
end Go.Proofs.YtcchnibgehonoaaDoor
