/- Walks: diagnosability.Live. Printed by wip/mkjc.py. -/
import Derived.Test.YtddhaidimadliaaJb
namespace Go.Proofs.Ytddhaidimadliaa
open Go.RowKit Go

theorem setErr_mk {l : List Int} {n : Int} (h1 : Inc l) (h2 : ∀ x ∈ l, 0 ≤ x ∧ x < n) : setErr l n = 0 := by
 unfold setErr
 exact setErrG_mk (fun q hq => by cases hq) h1 h2
theorem rngI_snoc (k : Nat) : rngI ((k + 1 : Nat) : Int) = rngI (k : Int) ++ [(k : Int)] := by
 unfold rngI
 rw [Int.toNat_natCast, Int.toNat_natCast, List.range_succ, List.map_append]
 rfl
def livM : Option (List Int) → List Int × Bool
 | some w => (w, false)
 | none => ([], true)
/-- what Live returns -/
def RetLiv (r : List Int × Bool) (w : World) (e : Ending) (w' : World) : Prop := ∃ v, e = .returned (.tuple #[v, .bool r.2, .int .i64 0]) ∧ w'.ownsRow w.heap.size 3 1 v r.1.length (iv r.1) ∧ Below w.heap.size w w'
theorem dmE_wf {z : DV} (h : dmE z = 0) : WF z.x.a := by
 unfold dmE at h
 by_cases h1 : chkE z.l ≠ 0
 ·rw [if_pos h1] at h; exact absurd h h1
 rw [if_neg h1] at h
 by_cases h2 : chkA z.x.a ≠ 0
 ·rw [if_pos h2] at h; exact absurd h h2
 exact chkA_wf (Classical.not_not.1 h2)
set_option maxRecDepth 100000 in
set_option maxHeartbeats 1600000 in
theorem dm_Live (z : DV) (w : World) (h : z.ok w w.heap.size) (hd : dmE z = 0) :
  Calls Try.prog 11 #[.agg (dvc z).toArray] w (RetLiv (liveR z.x.a) w) := by
 have hw := dmE_wf hd
 obtain ⟨⟨A, na, ca, M, nm, cm, E, ne, ce, a⟩, V, nv, cv, l⟩ := z
 have hb1 := box_below w (.cells #[.slice A na ca, .int .i64 a.st, .slice M nm cm, .slice E ne ce, .slice V nv cv] 37)
 obtain ⟨w1, hw1⟩ : ∃ w1, w1 = w.alloc (.cells #[.slice A na ca, .int .i64 a.st, .slice M nm cm, .slice E ne ce, .slice V nv cv] 37) := ⟨_, rfl⟩
 have kx : Blk w1 w.heap.size 37 [.slice A na ca, .int .i64 a.st, .slice M nm cm, .slice E ne ce, .slice V nv cv] := by rw [hw1]; exact Blk.new _ _ [_, _, _, _, _]
 rw [← hw1] at hb1
 have HK := Lib.hid (fun (W : World) (hb : Below w1.heap.size w1 W) => kx.below hb kx.lt)
 have HOK := Lib.hid (fun (W : World) (hb : Below w1.heap.size w1 W) => (h.below (hb1.trans (hb.mono hb1.size))).more (hb1.trans (hb.mono hb1.size)).size)
 have lx := kx.lt
 clear kx h
 dsimp only at hw
 have HC := Lib.hid (dm_Check _ 0 w1 (HOK.out w1 (Below.refl _ _)) hd)
 unfold dvc at HC ⊢
 dsimp only at HC ⊢
 obtain ⟨n, hn⟩ : ∃ n : Nat, a.st = (n : Int) := ⟨a.st.toNat, by have := hw.st0; omega⟩
 have hn4 : n ≤ 4096 := by have := hw.st1; omega
 have HDD := Lib.hid (fun (W : World) (hb : Below w1.heap.size w1 W) => reach_Dead ⟨A, na, ca, M, nm, cm, E, ne, ce, a⟩ n W (HOK.out W hb).x hw hn)
 dsimp only at HDD
 obtain ⟨dL, hdL⟩ : ∃ l, deadL a = l := ⟨_, rfl⟩
 have HDM := Lib.hid (show Inc dL ∧ ∀ v ∈ dL, 0 ≤ v ∧ v < (n : Int) from by
  rw [← hdL, ← hn]
  exact ⟨List.Pairwise.filter _ (rng_inc _), fun v hv => (deadL_mem.1 hv).1⟩)
 obtain ⟨R, hR⟩ : ∃ R, liveR a = R := ⟨_, rfl⟩
 rw [hR]
 unfold liveR at hR
 rw [hdL, hn, Int.toNat_natCast] at hR
 rw [hdL] at HDD
 have HPT := Lib.hid (fun (W : World) (hb : Below w1.heap.size w1 W) => (show ∀ (TA : Option Addr) (ct : Nat) (WA : Option Addr) (cw : Nat), 0 < n → RdI W W.heap.size TA dL → dL.length ≤ ct → ct ≤ 9223372036854775807 → RdI W W.heap.size WA (rngI (n : Int)) → n ≤ cw → cw ≤ 9223372036854775807 →
   Calls Try.prog 13 #[.agg #[.slice A na ca, .int .i64 a.st, .slice M nm cm, .slice E ne ce], .int .i64 0, .slice TA dL.length ct, .slice WA n cw] W (RetPath (pathS a 0 (fl (inF n dL)) anyE) W) from fun TA ct WA cw h0 hT h1 h2 hW h3 h4 =>
   reach_Path ⟨A, na, ca, M, nm, cm, E, ne, ce, a⟩ W n 0 (HOK.out W hb).x hw hn h0 TA dL.length ct dL WA n cw (rngI (n : Int)) rfl hT h1 h2 (setErr_mk HDM.out.1 HDM.out.2) HDM.out.2 (by rw [rngI_len, Int.toNat_natCast]) hW h3 h4 (setErr_mk (rng_inc _) (fun v hv => rngI_mem.1 hv)) (fun v hv => rngI_mem.1 hv)
    ((inF_fl (fun v hv => rngI_mem.1 hv) (Int.le_refl 0)).2 (rngI_mem.2 (by omega))) anyE (fun e he => by
     have hg := hw.ev_rng he
     exact (inF_fl (fun v hv => rngI_mem.1 hv) hg.2.2.1).2 (rngI_mem.2 (by omega))) _ rfl))
 rw [hn] at hw1 HK HC HDD HPT ⊢
 have k0 := HK.out w1 (Below.refl _ _)
 have a0 := k0.cell (j := 0) rfl
 have a1 := k0.cell (j := 1) rfl
 have a2 := k0.cell (j := 2) rfl
 have a3 := k0.cell (j := 3) rfl
 have a4 := k0.cell (j := 4) rfl
 clear k0
 have HW1 := Lib.hid hw1; clear hw1
 have HB1 := Lib.hid hb1; clear hb1
 have HR := Lib.hid hR; clear hR
 clear hn hdL hd hw
 go_enter Try.func11, Try.ntmps11
 go_wp2_with fail
 rw [← HW1.out]
 refine HC.out.mono ?_
 rintro e w2 ⟨rfl, hb2⟩
 have HB2 := Lib.hid (HB1.out.trans (hb2.mono HB1.out.size))
 have HB12 := Lib.hid hb2
 clear a0 a1 a2 a3 a4 HC hb2
 have k0 := HK.out w2 HB12.out
 have a0 := k0.cell (j := 0) rfl
 have a1 := k0.cell (j := 1) rfl
 have a2 := k0.cell (j := 2) rfl
 have a3 := k0.cell (j := 3) rfl
 clear k0
 have HD2 := Lib.hid (HDD.out w2 HB12.out)
 go_wp2_with fail
 refine HD2.out.mono ?_
 rintro e w3 ⟨v3, rfl, ho3, hb3⟩
 obtain ⟨DA, dc, rfl, p1, p2, rd⟩ := own_slI ho3
 have HRD := Lib.hid rd
 have HB3 := Lib.hid (HB2.out.trans (hb3.mono HB2.out.size))
 have HB13 := Lib.hid (HB12.out.trans (hb3.mono HB12.out.size))
 clear a0 a1 a2 a3 HD2 HDD ho3 rd hb3
 go_upto_region 6 with fail
 have k0 := HK.out w3 HB13.out
 have a0 := k0.cell (j := 0) rfl
 have a1 := k0.cell (j := 1) rfl
 clear k0
 go_wp2
 clear a0 a1
 go_loopw [8, 9, 25] (fun s8 s9 s25 wr => ∃ (k : Nat) (v9 : Value), s25 = .int .i64 k ∧ s9 = v9 ∧ k ≤ n ∧ Hid (wr.ownsRow w3.heap.size 3 1 s8 k (iv (rngI (k : Int)))) ∧ Hid (Below w3.heap.size w3 wr)) (fun _ _ s25 _ => n - (intOf s25).toNat)
 case atStart => exact ⟨0, _, rfl, rfl, Nat.zero_le _, Lib.hid (World.ownsRow_nil _ _ _ _), Lib.hid (Below.refl _ _)⟩
 case round =>
  obtain ⟨k, v9, rfl, rfl, hk, HO, HBL⟩ := hrel
  by_cases hlt : k < n
  ·have b1 : (k : Int) < (n : Int) := by omega
   have hsz := HBL.out.size
   go_wp2_with (first | (at_builtin; refine wpList_push wr (.int .i64 (k : Int)) rfl (.tmp 28) (.tmp 30) 31 rfl w3.heap.size 3 (.int .i64 0) 8 Try.underlying31 int_info rfl _ k _ rfl HO.out rfl rfl (by omega) (by omega) hsz ?_; intro v' w' ho' hg' hb1) | fail)
   go_roundw
   case rel => exact ⟨k + 1, _, by go_num, rfl, by omega, Lib.hid (by rw [rngI_snoc, iv_append]; exact ho'), Lib.hid (HBL.out.trans hb1)⟩
   case measure => simp [intOf]; omega
  ·obtain rfl : k = n := by omega
   have b1 : ¬ (k : Int) < (k : Int) := by omega
   have HB4 := Lib.hid (HB3.out.trans (HBL.out.mono HB3.out.size))
   by_cases hde : dL = []
   ·have HR2 := Lib.hid (show ([], true) = R by have h9 := HR.out; rw [if_pos hde] at h9; exact h9)
    have d0 : dL.length = 0 := by rw [hde]; rfl
    rw [d0]
    clear hde d0
    go_wp2
    refine bodyPost_ret (v := .tuple #[.slice none 0 0, .bool true, .int .i64 0]) (by simp [results, Try.results11, go_sem]) rfl ?_
    rw [← HR2.out]
    exact ⟨_, rfl, World.ownsRow_nil _ _ _ _, HB4.out⟩
   ·have hpos : 0 < dL.length := List.length_pos_iff.2 hde
    have hk0 : 0 < k := by
     obtain ⟨d, hdm⟩ := List.exists_mem_of_ne_nil _ hde
     have := HDM.out.2 d hdm
     omega
    have HB14 := Lib.hid (HB13.out.trans (HBL.out.mono HB13.out.size))
    have hra : (rngI (k : Int)).length = k := by rw [rngI_len, Int.toNat_natCast]
    obtain ⟨AA, ac, rfl⟩ := own_shape HO.out
    have HP := Lib.hid (HPT.out wr HB14.out DA dc AA ac hk0 ((HRD.out.below HBL.out).more HBL.out.size) p1 p2 (RdI.of_own HO.out) (own_cap' HO.out).1 (own_cap' HO.out).2)
    obtain ⟨res, hres⟩ : ∃ r, pathS a 0 (fl (inF k dL)) anyE = r := ⟨_, rfl⟩
    rw [hres] at HP
    have HR2 := Lib.hid (show livM res = R by have h9 := HR.out; rw [if_neg hde, hres] at h9; rw [← h9]; cases res <;> rfl)
    have e0 : ((dL.length : Int) == 0) = false := by rw [beq_eq_false_iff_ne]; omega
    have k0 := HK.out wr HB14.out
    have a0 := k0.cell (j := 0) rfl
    have a1 := k0.cell (j := 1) rfl
    have a2 := k0.cell (j := 2) rfl
    have a3 := k0.cell (j := 3) rfl
    clear k0
    clear hde hres hra
    go_wp2_with fail
    refine HP.out.mono ?_
    rintro e w5 hr5
    clear a0 a1 a2 a3 HP
    cases res with
    | none =>
     obtain ⟨rfl, hb5⟩ := hr5
     have HB5 := Lib.hid (HB4.out.trans (hb5.mono HB4.out.size))
     go_wp2
     refine bodyPost_ret (v := .tuple #[.slice none 0 0, .bool true, .int .i64 0]) (by simp [results, Try.results11, go_sem]) rfl ?_
     rw [← HR2.out]
     exact ⟨_, rfl, World.ownsRow_nil _ _ _ _, HB5.out⟩
    | some ws =>
     obtain ⟨v5, rfl, ho5, hb5⟩ := hr5
     have HB5 := Lib.hid (HB4.out.trans (hb5.mono HB4.out.size))
     have HO5 := Lib.hid (own_base ho5 HB4.out.size)
     clear ho5 hb5
     go_wp2
     refine bodyPost_ret (v := .tuple #[v5, .bool false, .int .i64 0]) (by simp [results, Try.results11, go_sem]) rfl ?_
     rw [← HR2.out]
     exact ⟨_, rfl, HO5.out, HB5.out⟩
end Go.Proofs.Ytddhaidimadliaa
