/- Walks: diagnosability.Model.moves. Printed by wip/mkjg.py. -/
import Derived.Test.YtddhaidimadliaaJg
namespace Go.Proofs.Ytddhaidimadliaa
open Go.RowKit Go

theorem TwoG.base {w00 w0 w : World} {e1 e2 : TypeId} {s1 s2 : Nat} {v1 v2 : Value} {n1 n2 : Nat} {l1 l2 : List Value} (h : TwoG w0.heap.size w0 w e1 e2 s1 s2 v1 v2 n1 n2 l1 l2) (hb : Below w00.heap.size w00 w0) : TwoG w00.heap.size w00 w e1 e2 s1 s2 v1 v2 n1 n2 l1 l2 :=
 ⟨hb.trans (h.bel.mono hb.size), Nat.le_trans hb.size h.siz, own_base h.o1 hb.size, own_base h.o2 hb.size, h.apt⟩

set_option maxRecDepth 100000 in
set_option maxHeartbeats 3200000 in
theorem dm_moves (z : DV) (p : TwS) (c : Int) (w : World) (h : z.ok w w.heap.size) (hw : WF z.x.a) (hev : ∀ x ∈ z.x.a.al, 0 ≤ x ∧ x < (z.nv : Int)) (hna : z.x.na ≤ 4096) (h0 : 0 ≤ p.1) (h1 : p.1 < z.x.a.st) (h2 : 0 ≤ p.2.2) (h3 : p.2.2 < z.x.a.st) :
  Calls Try.prog 64 #[.agg (dvc z).toArray, .agg #[.int .i64 p.1, .bool p.2.1, .int .i64 p.2.2], .int .i64 c] w fun e w' => ∃ (A1 A2 : Option Addr) (n c1 c2 : Nat), e = .returned (.tuple #[.slice A1 n c1, .slice A2 n c2]) ∧ n = (mvP z.m c p z.x.a.al).length ∧ TwoG w.heap.size w w' 62 59 4 3 (.slice A1 n c1) (.slice A2 n c2) n n (mvCs (mvP z.m c p z.x.a.al)) (prCs (mvP z.m c p z.x.a.al)) := by
 obtain ⟨⟨A, na, ca, M, nm, cm, E, ne, ce, a⟩, V, nv, cv, l⟩ := z
 obtain ⟨p1, pf, p2⟩ := p
 dsimp only at hw hev hna h0 h1 h2 h3 ⊢
 have HLA := Lib.hid h.x.la
 have HLL := Lib.hid h.ll
 have HEV := Lib.hid hev
 obtain ⟨w1, hw1⟩ : ∃ w1, w1 = w.alloc (.cells #[.slice A na ca, .int .i64 a.st, .slice M nm cm, .slice E ne ce, .slice V nv cv] 37) := ⟨_, rfl⟩
 have hb1 := box_below w (.cells #[.slice A na ca, .int .i64 a.st, .slice M nm cm, .slice E ne ce, .slice V nv cv] 37)
 have kx : Blk w1 w.heap.size 37 [.slice A na ca, .int .i64 a.st, .slice M nm cm, .slice E ne ce, .slice V nv cv] := by rw [hw1]; exact Blk.new _ _ [_, _, _, _, _]
 rw [← hw1] at hb1
 obtain ⟨w2, hw2⟩ : ∃ w2, w2 = w1.alloc (.cells #[.int .i64 p1, .bool pf, .int .i64 p2] 59) := ⟨_, rfl⟩
 have hb2 := box_below w1 (.cells #[.int .i64 p1, .bool pf, .int .i64 p2] 59)
 have ky : Blk w2 w1.heap.size 59 [.int .i64 p1, .bool pf, .int .i64 p2] := by rw [hw2]; exact Blk.new _ _ [_, _, _]
 rw [← hw2] at hb2
 have hs1 : w1.heap.size = w.heap.size + 1 := by rw [hw1]; simp
 rw [hs1] at ky
 have hb02 : Below w.heap.size w w2 := hb1.trans (hb2.mono hb1.size)
 have HK := Lib.hid (fun (W : World) (hb : Below w2.heap.size w2 W) => (kx.below hb2 kx.lt).below hb (kx.below hb2 kx.lt).lt)
 have HY := Lib.hid (fun (W : World) (hb : Below w2.heap.size w2 W) => ky.below hb ky.lt)
 have HOK := Lib.hid (fun (W : World) (hb : Below w2.heap.size w2 W) => (h.below (hb02.trans (hb.mono hb02.size))).more (hb02.trans (hb.mono hb02.size)).size)
 have HB02 := Lib.hid hb02
 have HS := Lib.hid (fun (W : World) (hb : Below w2.heap.size w2 W) (s v : Int) (g0 : 0 ≤ s) (g1 : s < a.st) => dm_step ⟨⟨A, na, ca, M, nm, cm, E, ne, ce, a⟩, V, nv, cv, l⟩ s v W (HOK.out W hb) hw g0 g1)
 clear h kx ky hb02 hb1 hb2
 unfold dvc
 unfold dvc at HS
 dsimp only at HS ⊢
 obtain ⟨mm, hmm⟩ : ∃ m, DV.m ⟨⟨A, na, ca, M, nm, cm, E, ne, ce, a⟩, V, nv, cv, l⟩ = m := ⟨_, rfl⟩
 rw [hmm]
 obtain ⟨sv, hsv⟩ : ∃ s, a.st = s := ⟨_, rfl⟩
 obtain ⟨al, hal⟩ : ∃ s, a.al = s := ⟨_, rfl⟩
 rw [hsv] at hw1 HK HS h1 h3 ⊢
 rw [hal] at HLA HEV ⊢
 have HMM := Lib.hid hmm; clear hmm
 have HW1 := Lib.hid hw1; clear hw1
 have HW2 := Lib.hid hw2; clear hw2
 have HS1 := Lib.hid hs1; clear hs1
 have HSV := Lib.hid hsv; clear hsv
 have HW := Lib.hid hw; clear hw
 have HT0 := Lib.hid (TwoG.start w2 62 59 4 3)
 have HAL := Lib.hid hal; clear hal
 clear hev
 go_enter Try.func64, Try.ntmps64
 go_upto_region 1 with fail
 rw [← HW1.out, ← HW2.out]
 have k0 := HK.out w2 (Below.refl _ _)
 have a0 := k0.cell (j := 0) rfl
 clear k0
 go_wp2_with fail
 clear a0
 go_loopw [6, 7, 9, 10, 11, 12, 13, 14, 19] (fun s6 s7 s9 s10 s11 s12 s13 s14 s19 wr => ∃ (k n : Nat) (A1 A2 : Option Addr) (c1 c2 : Nat) (v9 v10 v11 v12 v13 v14 : Value), s6 = .slice A2 n c2 ∧ s7 = .slice A1 n c1 ∧ s9 = v9 ∧ s10 = v10 ∧ s11 = v11 ∧ s12 = v12 ∧ s13 = v13 ∧ s14 = v14 ∧ s19 = .int .i64 k ∧ k ≤ na ∧ n ≤ 2 * k ∧ Hid (n = (mvP mm c (p1, pf, p2) (al.take k)).length) ∧ Hid (TwoG w2.heap.size w2 wr 62 59 4 3 (.slice A2 n c2) (.slice A1 n c1) n n (mvCs (mvP mm c (p1, pf, p2) (al.take k))) (prCs (mvP mm c (p1, pf, p2) (al.take k))))) (fun _ _ _ _ _ _ _ _ s19 _ => na - (intOf s19).toNat)
 case atStart => exact ⟨0, 0, none, none, 0, 0, _, _, _, _, _, _, rfl, rfl, rfl, rfl, rfl, rfl, rfl, rfl, rfl, Nat.zero_le _, Nat.zero_le _, Lib.hid rfl, HT0⟩
 case round =>
  clear HT0
  obtain ⟨k, n, A1, A2, c1, c2, v9, v10, v11, v12, v13, v14, rfl, rfl, rfl, rfl, rfl, rfl, rfl, rfl, rfl, hk, hnk, HN, HT⟩ := hrel
  by_cases hlt : k < na
  ·obtain ⟨x, hx⟩ : ∃ x, al[k]? = some x := ⟨_, List.getElem?_eq_getElem (by have := HLA.out; omega)⟩
   have hok := HOK.out wr HT.out.bel
   obtain ⟨ad, rfl, hab, hcx⟩ := hok.x.ra k (.int .i64 x) (by dsimp only; rw [HAL.out]; simp [iv, hx])
   have hxr := HEV.out x (List.mem_of_getElem? hx)
   obtain ⟨j, rfl⟩ : ∃ j : Nat, x = (j : Int) := ⟨x.toNat, by omega⟩
   obtain ⟨ev, e, rfl, hvb, hje, hes, q0, q1, q2, q3, q4⟩ := hok.rl.at_ (k := j) (by have h9 := HLL.out; dsimp only at h9 ⊢; omega)
   have p1' := ev_cells (j := 0) q1
   have p2' := ev_cells (j := 1) q2
   have p3' := ev_cells (j := 2) q3
   have p4' := ev_cells (j := 3) q4
   have b1 : (k : Int) < (na : Int) := by omega
   have b2 : (j : Int) < (nv : Int) := by omega
   have k0 := HK.out wr HT.out.bel
   have a0 := k0.cell (j := 0) rfl
   have a1 := k0.cell (j := 4) rfl
   clear k0 hok
   have HXK := Lib.hid hx; clear hx
   have HJE := Lib.hid hje; clear hje
   go_upto_block 1 with fail
   go_cut [6, 7, 9, 10, 11, 12, 13, 14, 19] from 19 to 111 (fun s6 s7 s9 s10 s11 s12 s13 s14 s19 wx => ∃ (n9 : Nat) (D1 D2 : Option Addr) (m1 m2 : Nat) (v9 v10 v11 v12 v13 v14 : Value), s9 = v9 ∧ s10 = v10 ∧ s11 = v11 ∧ s12 = v12 ∧ s13 = v13 ∧ s14 = v14 ∧ s6 = .slice D2 n9 m2 ∧ s7 = .slice D1 n9 m1 ∧ s19 = .int .i64 k ∧ n9 ≤ 2 * k + 2 ∧ Hid (n9 = (mvP mm c (p1, pf, p2) (al.take (k + 1))).length) ∧ Hid (TwoG w2.heap.size w2 wx 62 59 4 3 (.slice D2 n9 m2) (.slice D1 n9 m1) n9 n9 (mvCs (mvP mm c (p1, pf, p2) (al.take (k + 1)))) (prCs (mvP mm c (p1, pf, p2) (al.take (k + 1))))))
   case rest =>
    obtain ⟨n9, D1, D2, m1, m2, v9, v10, v11, v12, v13, v14, rfl, rfl, rfl, rfl, rfl, rfl, rfl, rfl, rfl, hn9, HN9, HT9⟩ := hcut
    go_wp2
    go_roundw
    case rel => exact ⟨k + 1, n9, D1, D2, m1, m2, _, _, _, _, _, _, rfl, rfl, rfl, rfl, rfl, rfl, rfl, rfl, by go_num, by omega, by omega, HN9, HT9⟩
    case measure => simp [intOf]; omega
   case first =>
    go_upto_region 5 with fail
    obtain ⟨w4, hw4⟩ : ∃ w4, w4 = wr.alloc (.cells #[.string e.nm, .bool e.c, .bool e.o, .bool e.f, .int .i64 e.fault] 67) := ⟨_, rfl⟩
    rw [← hw4]
    have hb4 : Below wr.heap.size wr w4 := by rw [hw4]; exact box_below _ _
    have ke : Blk w4 wr.heap.size 67 [.string e.nm, .bool e.c, .bool e.o, .bool e.f, .int .i64 e.fault] := by rw [hw4]; exact Blk.new _ _ [_, _, _, _, _]
    obtain ⟨be, hbe⟩ : ∃ b, wr.heap.size = b := ⟨_, rfl⟩
    have HT4 := Lib.hid (HT.out.quiet hb4)
    rw [hbe] at ke ⊢
    have HE4 := Lib.hid ke
    clear hb4 hw4 ke hbe q0 q1 q2 q3 q4 p1' p2' p3' p4' a0 a1 hvb hab hcx hes
    have k0 := HK.out w4 HT4.out.bel
    have a0 := k0.cell (j := 0) rfl
    have a1 := k0.cell (j := 1) rfl
    have a2 := k0.cell (j := 2) rfl
    have a3 := k0.cell (j := 3) rfl
    have a4 := k0.cell (j := 4) rfl
    have d0 := (HY.out w4 HT4.out.bel).cell (j := 0) rfl
    clear k0
    have HC := Lib.hid (HS.out w4 HT4.out.bel p1 (j : Int) h0 h1)
    obtain ⟨to1, ht1⟩ : ∃ z, stpV a p1 (j : Int) = z := ⟨_, rfl⟩
    obtain ⟨f1, hf1⟩ : ∃ z, decide (0 ≤ nxt a p1 (j : Int)) = z := ⟨_, rfl⟩
    rw [ht1, hf1] at HC
    have HT1 := Lib.hid ht1; clear ht1
    have HF1 := Lib.hid hf1; clear hf1
    go_wp2_with fail
    refine HC.out.mono ?_
    rintro _ w5 ⟨rfl, hb5⟩
    have HT5 := Lib.hid (HT4.out.quiet hb5)
    have HE5 := Lib.hid (HE4.out.below hb5 HE4.out.lt)
    clear HC a0 a1 a2 a3 a4 d0 hb5 HT4 HE4
    go_upto_region 6 with fail
    have k0 := HK.out w5 HT5.out.bel
    have a0 := k0.cell (j := 0) rfl
    have a1 := k0.cell (j := 1) rfl
    have a2 := k0.cell (j := 2) rfl
    have a3 := k0.cell (j := 3) rfl
    have a4 := k0.cell (j := 4) rfl
    have d0 := (HY.out w5 HT5.out.bel).cell (j := 2) rfl
    clear k0
    have HC := Lib.hid (HS.out w5 HT5.out.bel p2 (j : Int) h2 h3)
    obtain ⟨to2, ht2⟩ : ∃ z, stpV a p2 (j : Int) = z := ⟨_, rfl⟩
    obtain ⟨f2, hf2⟩ : ∃ z, decide (0 ≤ nxt a p2 (j : Int)) = z := ⟨_, rfl⟩
    rw [ht2, hf2] at HC
    have HT2 := Lib.hid ht2; clear ht2
    have HF2 := Lib.hid hf2; clear hf2
    go_wp2_with fail
    refine HC.out.mono ?_
    rintro _ w6 ⟨rfl, hb6⟩
    have HT6 := Lib.hid (HT5.out.quiet hb6)
    have HE6 := Lib.hid (HE5.out.below hb6 HE5.out.lt)
    clear HC a0 a1 a2 a3 a4 d0 hb6 HT5 HE5 HT
    have g2 := HE6.out.cell (j := 2) rfl
    go_upto_region 11 with fail
    obtain ⟨ob, hob⟩ : ∃ b, e.o = b := ⟨_, rfl⟩
    rw [hob] at g2
    have HOB := Lib.hid hob; clear hob
    have HO := Lib.hid (show mm.ob (j : Int) = ob by rw [← HMM.out, ← HOB.out]; simp [Dm.ob, DV.m, fl, HJE.out])
    have HFT := Lib.hid (show mm.ft (j : Int) = e.fault by rw [← HMM.out]; simp [Dm.ft, DV.m, gI, HJE.out])
    have HMA := Lib.hid (show mm.a = a by rw [← HMM.out]; rfl)
    have e3 : 3 * (j : Int) / 3 = (j : Int) := by omega
    have e4 : 3 * (j : Int) % 3 = 0 := by omega
    have HE3 := Lib.hid e3; clear e3
    have HE4' := Lib.hid e4; clear e4
    cases ob
    ·have e5 : (3 * (j : Int) + 1) / 3 = (j : Int) := by omega
     have e6 : (3 * (j : Int) + 1) % 3 = 1 := by omega
     have e7 : (3 * (j : Int) + 2) / 3 = (j : Int) := by omega
     have e8 : (3 * (j : Int) + 2) % 3 = 2 := by omega
     have HE5 := Lib.hid e5; clear e5
     have HE6' := Lib.hid e6; clear e6
     have HE7' := Lib.hid e7; clear e7
     have HE8' := Lib.hid e8; clear e8
     obtain ⟨L0, hL0⟩ : ∃ L, mvP mm c (p1, pf, p2) (al.take k) = L := ⟨_, rfl⟩
     obtain ⟨L1, hL1⟩ : ∃ L : List (Int × TwS), (if f1 = true then [(3 * (j : Int) + 1, to1, (pf || e.fault == c), p2)] else []) = L := ⟨_, rfl⟩
     obtain ⟨L2, hL2⟩ : ∃ L : List (Int × TwS), (if f2 = true ∧ e.fault ≠ c then [(3 * (j : Int) + 2, p1, pf, to2)] else []) = L := ⟨_, rfl⟩
     have HXN := Lib.hid (show mvP mm c (p1, pf, p2) (al.take (k + 1)) = L0 ++ (L1 ++ L2) by
      have t1 := HT1.out
      have t2 := HT2.out
      have g1 := HF1.out
      have g2 := HF2.out
      have q1 : f1 = true ↔ 0 ≤ nxt a p1 (j : Int) := by rw [← g1]; exact decide_eq_true_iff
      have q2 : f2 = true ↔ 0 ≤ nxt a p2 (j : Int) := by rw [← g2]; exact decide_eq_true_iff
      unfold stpV at t1 t2
      rw [mvP_at HXK.out, hL0, mvX_un HO.out, HMA.out, HFT.out, ← hL1, ← hL2]
      congr 1
      dsimp only
      congr 1
      ·by_cases z1 : 0 ≤ nxt a p1 (j : Int)
       ·rw [if_pos z1] at t1 ⊢; rw [if_pos (q1.2 z1), t1]
       ·rw [if_neg z1, if_neg (fun z => z1 (q1.1 z))]
      ·by_cases z2 : 0 ≤ nxt a p2 (j : Int) ∧ e.fault ≠ c
       ·rw [if_pos z2.1] at t2; rw [if_pos z2, if_pos ⟨q2.2 z2.1, z2.2⟩, t2]
       ·rw [if_neg z2, if_neg (fun z => z2 ⟨q2.1 z.1, z.2⟩)])
     rw [hL0] at HN HT6
     have HL1 := Lib.hid hL1; clear hL1
     have HL2 := Lib.hid hL2; clear hL2
     go_upto_if 44 with fail
     go_cut [6, 7, 19] from 19 to 111 (fun s6 s7 s19 wx => ∃ (n8 : Nat) (A1 A2 : Option Addr) (c1 c2 : Nat), s6 = .slice A2 n8 c2 ∧ s7 = .slice A1 n8 c1 ∧ s19 = .int .i64 k ∧ n8 ≤ 2 * k + 1 ∧ Hid (n8 = (L0 ++ L1).length) ∧ Hid (TwoG w2.heap.size w2 wx 62 59 4 3 (.slice A2 n8 c2) (.slice A1 n8 c1) n8 n8 (mvCs (L0 ++ L1)) (prCs (L0 ++ L1))) ∧ Hid (Blk wx be 67 [.string e.nm, .bool e.c, .bool e.o, .bool e.f, .int .i64 e.fault]))
     case first =>
      have d1 := (HY.out w6 HT6.out.bel).cell (j := 1) rfl
      have d2 := (HY.out w6 HT6.out.bel).cell (j := 2) rfl
      have g4 := HE6.out.cell (j := 4) rfl
      have lt6 := (HY.out w6 HT6.out.bel).lt
      have lt7 := HE6.out.lt
      cases f1
      ·have HZ := Lib.hid (show L0 ++ L1 = L0 by rw [← HL1.out, if_neg (by simp), List.append_nil])
       go_wp2_with fail
       go_meet
       case rel => exact ⟨n, A1, A2, c1, c2, rfl, rfl, rfl, by omega, Lib.hid (by rw [HZ.out]; exact HN.out), Lib.hid (by rw [HZ.out]; exact HT6.out), HE6⟩
      ·have HQ := HT6
       cases pf
       ·have HZ := Lib.hid (show L0 ++ L1 = L0 ++ [(3 * (j : Int) + 1, to1, (e.fault == c), p2)] by rw [← HL1.out, if_pos rfl, Bool.false_or])
        go_upto_region 8 with fail
        refine wp_region_U (fun W => W.cell? ⟨w.heap.size + 1, 1, none⟩ = some (.bool false) ∧ W.cell? ⟨w.heap.size + 1, 2, none⟩ = some (.int .i64 p2) ∧ W.cell? ⟨be, 4, none⟩ = some (.int .i64 e.fault)) (fun _ => True) 19 (by kernel_rfl) ?_
        change anyU _ _ _ _ _ _ _ 22 _ _ _
        have hB0 : True := trivial
        have HTd := Lib.hid (HQ.out.quiet (below_dr w6))
        have HEd := Lib.hid (HE6.out.below (below_dr w6) HE6.out.lt)
        generalize w6.drew = wd at HTd HEd ⊢
        have hA0 : wd.cell? ⟨w.heap.size + 1, 1, none⟩ = some (.bool false) ∧ wd.cell? ⟨w.heap.size + 1, 2, none⟩ = some (.int .i64 p2) ∧ wd.cell? ⟨be, 4, none⟩ = some (.int .i64 e.fault) := ⟨(HY.out wd HTd.out.bel).cell (j := 1) rfl, (HY.out wd HTd.out.bel).cell (j := 2) rfl, HEd.out.cell (j := 4) rfl⟩
        (refine uA 0 ?_ rfl hA0 hB0 (fun W hA => ?_) ?_; rotate_left; (· (go_simp; try with_reducible rfl)); refine uA 1 ?_ rfl hA0 hB0 (fun W hA => ?_) ?_; rotate_left; (· (go_simp; try with_reducible rfl)); refine uA 2 ?_ rfl hA0 hB0 (fun W hA => ?_) ?_; rotate_left; (· (go_simp; try with_reducible rfl)); refine uA 5 ?_ rfl hA0 hB0 (fun W hA => ?_) ?_; rotate_left; (· (go_simp; try with_reducible rfl)); refine uA 6 ?_ rfl hA0 hB0 (fun W hA => ?_) ?_; rotate_left; (· (go_simp; try with_reducible rfl)); refine uA 7 ?_ rfl hA0 hB0 (fun W hA => ?_) ?_; rotate_left; (· (go_simp; try with_reducible rfl)); (try simp only [Act.put, List.setIfInBounds_toArray, List.set_cons_zero, List.set_cons_succ]))
        (refine uA 8 ?_ rfl hA0 hB0 (fun W hA => ?_) ?_; rotate_left; (· (obtain ⟨h0, h1, h2⟩ := hA; go_simp; try with_reducible rfl)); (try simp only [Act.put, List.setIfInBounds_toArray, List.set_cons_zero, List.set_cons_succ]))
        (refine uA 15 ?_ rfl hA0 hB0 (fun W hA => ?_) ?_; rotate_left; (· (go_simp; try with_reducible rfl)); (try simp only [Act.put, List.setIfInBounds_toArray, List.set_cons_zero, List.set_cons_succ]))
        (refine uA 16 ?_ rfl hA0 hB0 (fun W hA => ?_) ?_; rotate_left; (· (obtain ⟨h0, h1, h2⟩ := hA; go_simp; try with_reducible rfl)); (try simp only [Act.put, List.setIfInBounds_toArray, List.set_cons_zero, List.set_cons_succ]))
        refine uOne (i := 3) rfl (by kernel_rfl) (fun K hK => ?_)
        go_simp
        have hbx := box_below wd (.cells #[.int .i64 0, .int .i64 (j : Int), .int .i64 1, .int .i64 0] 62)
        have hkx : Blk (wd.alloc (.cells #[.int .i64 0, .int .i64 (j : Int), .int .i64 1, .int .i64 0] 62)) wd.heap.size 62 [.int .i64 0, .int .i64 (j : Int), .int .i64 1, .int .i64 0] := Blk.new _ _ [.int .i64 0, .int .i64 (j : Int), .int .i64 1, .int .i64 0]
        have HTe := Lib.hid (HTd.out.quiet hbx)
        have HEe := Lib.hid (HEd.out.below hbx HEd.out.lt)
        clear hA0
        have hA0 : (wd.alloc (.cells #[.int .i64 0, .int .i64 (j : Int), .int .i64 1, .int .i64 0] 62)).cell? ⟨w.heap.size + 1, 1, none⟩ = some (.bool false) ∧ (wd.alloc (.cells #[.int .i64 0, .int .i64 (j : Int), .int .i64 1, .int .i64 0] 62)).cell? ⟨w.heap.size + 1, 2, none⟩ = some (.int .i64 p2) ∧ (wd.alloc (.cells #[.int .i64 0, .int .i64 (j : Int), .int .i64 1, .int .i64 0] 62)).cell? ⟨be, 4, none⟩ = some (.int .i64 e.fault) := ⟨(HY.out _ HTe.out.bel).cell (j := 1) rfl, (HY.out _ HTe.out.bel).cell (j := 2) rfl, HEe.out.cell (j := 4) rfl⟩
        (refine hK _ _ ⟨hA0, fun _ => hB0⟩ ?_; clear hK K; (try simp only [Act.put, List.setIfInBounds_toArray, List.set_cons_zero, List.set_cons_succ]))
        generalize wd.alloc (.cells #[.int .i64 0, .int .i64 (j : Int), .int .i64 1, .int .i64 0] 62) = wd1 at hkx HTe HEe hA0 ⊢
        refine uOne (i := 4) rfl (by kernel_rfl) (fun K hK => ?_)
        refine step_pushG rfl (.tmp 45) (.tmp 48) 52 rfl w2.heap.size 62 (.agg #[.int .i64 0, .int .i64 0, .int .i64 0, .int .i64 0]) 4 32 Try.underlying52 mov_info rfl (by decide) rfl _ [.int .i64 0, .int .i64 (j : Int), .int .i64 1, .int .i64 0] rfl HTe.out hkx rfl (mov_one _ _ _ _) (by omega) (by omega) ?_
        intro AM cM wd2 hTx hkk
        have HTf := Lib.hid hTx
        have HEf := Lib.hid (hkk _ _ _ (by decide) HEe.out)
        clear hTx hkk hkx hbx hA0
        have hA0 : wd2.cell? ⟨w.heap.size + 1, 1, none⟩ = some (.bool false) ∧ wd2.cell? ⟨w.heap.size + 1, 2, none⟩ = some (.int .i64 p2) ∧ wd2.cell? ⟨be, 4, none⟩ = some (.int .i64 e.fault) := ⟨(HY.out wd2 HTf.out.bel).cell (j := 1) rfl, (HY.out wd2 HTf.out.bel).cell (j := 2) rfl, HEf.out.cell (j := 4) rfl⟩
        (refine hK _ _ ⟨hA0, fun _ => hB0⟩ ?_; clear hK K; (try simp only [Act.put, List.setIfInBounds_toArray, List.set_cons_zero, List.set_cons_succ]))
        (refine uA 9 ?_ rfl hA0 hB0 (fun W hA => ?_) ?_; rotate_left; (· (go_simp; try with_reducible rfl)); refine uA 10 ?_ rfl hA0 hB0 (fun W hA => ?_) ?_; rotate_left; (· (go_simp; try with_reducible rfl)); (try simp only [Act.put, List.setIfInBounds_toArray, List.set_cons_zero, List.set_cons_succ]))
        (refine uA 11 ?_ rfl hA0 hB0 (fun W hA => ?_) ?_; rotate_left; (· (obtain ⟨h0, h1, h2⟩ := hA; go_simp; try with_reducible rfl)); (try simp only [Act.put, List.setIfInBounds_toArray, List.set_cons_zero, List.set_cons_succ]))
        (refine uA 12 ?_ rfl hA0 hB0 (fun W hA => ?_) ?_; rotate_left; (· (go_simp; try with_reducible rfl)); refine uA 13 ?_ rfl hA0 hB0 (fun W hA => ?_) ?_; rotate_left; (· (go_simp; try with_reducible rfl)); refine uA 14 ?_ rfl hA0 hB0 (fun W hA => ?_) ?_; rotate_left; (· (go_simp; try with_reducible rfl)); refine uA 17 ?_ rfl hA0 hB0 (fun W hA => ?_) ?_; rotate_left; (· (go_simp; try with_reducible rfl)); (try simp only [Act.put, List.setIfInBounds_toArray, List.set_cons_zero, List.set_cons_succ]))
        refine uOne (i := 18) rfl (by kernel_rfl) (fun K hK => ?_)
        go_simp
        have hbx := box_below wd2 (.cells #[.int .i64 to1, .bool (e.fault == c), .int .i64 p2] 59)
        have hkx : Blk (wd2.alloc (.cells #[.int .i64 to1, .bool (e.fault == c), .int .i64 p2] 59)) wd2.heap.size 59 [.int .i64 to1, .bool (e.fault == c), .int .i64 p2] := Blk.new _ _ [.int .i64 to1, .bool (e.fault == c), .int .i64 p2]
        have HTg := Lib.hid (HTf.out.quiet hbx)
        have HEg := Lib.hid (HEf.out.below hbx HEf.out.lt)
        clear hA0
        have hA0 : (wd2.alloc (.cells #[.int .i64 to1, .bool (e.fault == c), .int .i64 p2] 59)).cell? ⟨w.heap.size + 1, 1, none⟩ = some (.bool false) ∧ (wd2.alloc (.cells #[.int .i64 to1, .bool (e.fault == c), .int .i64 p2] 59)).cell? ⟨w.heap.size + 1, 2, none⟩ = some (.int .i64 p2) ∧ (wd2.alloc (.cells #[.int .i64 to1, .bool (e.fault == c), .int .i64 p2] 59)).cell? ⟨be, 4, none⟩ = some (.int .i64 e.fault) := ⟨(HY.out _ HTg.out.bel).cell (j := 1) rfl, (HY.out _ HTg.out.bel).cell (j := 2) rfl, HEg.out.cell (j := 4) rfl⟩
        (refine hK _ _ ⟨hA0, fun _ => hB0⟩ ?_; clear hK K; (try simp only [Act.put, List.setIfInBounds_toArray, List.set_cons_zero, List.set_cons_succ]))
        generalize wd2.alloc (.cells #[.int .i64 to1, .bool (e.fault == c), .int .i64 p2] 59) = wd3 at hkx HTg HEg hA0 ⊢
        refine uOne (i := 19) rfl (by kernel_rfl) (fun K hK => ?_)
        refine step_pushG rfl (.tmp 50) (.tmp 63) 51 rfl w2.heap.size 59 (.agg #[.int .i64 0, .bool false, .int .i64 0]) 3 24 Try.underlying51 prr_info rfl (by decide) rfl _ [.int .i64 to1, .bool (e.fault == c), .int .i64 p2] rfl HTg.out.swap hkx rfl (prr_one _ _ _) (by omega) (by omega) ?_
        intro AP cP wd4 hTx hkk
        have HT8 := Lib.hid hTx.swap
        have HE8 := Lib.hid (hkk _ _ _ (by decide) HEg.out)
        clear hTx hkk hkx hbx hA0
        have hA0 : wd4.cell? ⟨w.heap.size + 1, 1, none⟩ = some (.bool false) ∧ wd4.cell? ⟨w.heap.size + 1, 2, none⟩ = some (.int .i64 p2) ∧ wd4.cell? ⟨be, 4, none⟩ = some (.int .i64 e.fault) := ⟨(HY.out wd4 HT8.out.bel).cell (j := 1) rfl, (HY.out wd4 HT8.out.bel).cell (j := 2) rfl, HE8.out.cell (j := 4) rfl⟩
        (refine hK _ _ ⟨hA0, fun _ => hB0⟩ ?_; clear hK K; (try simp only [Act.put, List.setIfInBounds_toArray, List.set_cons_zero, List.set_cons_succ]))
        (refine uA 20 ?_ rfl hA0 hB0 (fun W hA => ?_) ?_; rotate_left; (· (go_simp; try with_reducible rfl)); refine uA 21 ?_ rfl hA0 hB0 (fun W hA => ?_) ?_; rotate_left; (· (go_simp; try with_reducible rfl)); (try simp only [Act.put, List.setIfInBounds_toArray, List.set_cons_zero, List.set_cons_succ]))
        refine anyU_done (by kernel_rfl) ?_ _
        go_wp2_with fail
        go_meet
        case rel => exact ⟨n + 1, AP, AM, cP, cM, rfl, rfl, rfl, by omega, Lib.hid (by rw [HZ.out, List.length_append, ← HN.out]; rfl), Lib.hid (by rw [HZ.out, mvCs_push, prCs_push]; dsimp only; rw [HE5.out, HE6'.out]; exact HT8.out), HE8⟩
       ·have HZ := Lib.hid (show L0 ++ L1 = L0 ++ [(3 * (j : Int) + 1, to1, true, p2)] by rw [← HL1.out, if_pos rfl, Bool.true_or])
        go_upto_region 8 with fail
        refine wp_region_U (fun W => W.cell? ⟨w.heap.size + 1, 1, none⟩ = some (.bool true) ∧ W.cell? ⟨w.heap.size + 1, 2, none⟩ = some (.int .i64 p2)) (fun _ => True) 19 (by kernel_rfl) ?_
        change anyU _ _ _ _ _ _ _ 22 _ _ _
        have hB0 : True := trivial
        have HTd := Lib.hid (HQ.out.quiet (below_dr w6))
        have HEd := Lib.hid (HE6.out.below (below_dr w6) HE6.out.lt)
        generalize w6.drew = wd at HTd HEd ⊢
        have hA0 : wd.cell? ⟨w.heap.size + 1, 1, none⟩ = some (.bool true) ∧ wd.cell? ⟨w.heap.size + 1, 2, none⟩ = some (.int .i64 p2) := ⟨(HY.out wd HTd.out.bel).cell (j := 1) rfl, (HY.out wd HTd.out.bel).cell (j := 2) rfl⟩
        (refine uA 0 ?_ rfl hA0 hB0 (fun W hA => ?_) ?_; rotate_left; (· (go_simp; try with_reducible rfl)); refine uA 1 ?_ rfl hA0 hB0 (fun W hA => ?_) ?_; rotate_left; (· (go_simp; try with_reducible rfl)); refine uA 2 ?_ rfl hA0 hB0 (fun W hA => ?_) ?_; rotate_left; (· (go_simp; try with_reducible rfl)); refine uA 5 ?_ rfl hA0 hB0 (fun W hA => ?_) ?_; rotate_left; (· (go_simp; try with_reducible rfl)); refine uA 6 ?_ rfl hA0 hB0 (fun W hA => ?_) ?_; rotate_left; (· (go_simp; try with_reducible rfl)); refine uA 7 ?_ rfl hA0 hB0 (fun W hA => ?_) ?_; rotate_left; (· (go_simp; try with_reducible rfl)); (try simp only [Act.put, List.setIfInBounds_toArray, List.set_cons_zero, List.set_cons_succ]))
        (refine uA 8 ?_ rfl hA0 hB0 (fun W hA => ?_) ?_; rotate_left; (· (obtain ⟨h0, h1⟩ := hA; go_simp; try with_reducible rfl)); (try simp only [Act.put, List.setIfInBounds_toArray, List.set_cons_zero, List.set_cons_succ]))
        (refine uA 15 ?_ rfl hA0 hB0 (fun W hA => ?_) ?_; rotate_left; (· (go_simp; try with_reducible rfl)); (try simp only [Act.put, List.setIfInBounds_toArray, List.set_cons_zero, List.set_cons_succ]))
        (refine uA 16 ?_ rfl hA0 hB0 (fun W hA => ?_) ?_; rotate_left; (· (obtain ⟨h0, h1⟩ := hA; go_simp; try with_reducible rfl)); (try simp only [Act.put, List.setIfInBounds_toArray, List.set_cons_zero, List.set_cons_succ]))
        refine uOne (i := 3) rfl (by kernel_rfl) (fun K hK => ?_)
        go_simp
        have hbx := box_below wd (.cells #[.int .i64 0, .int .i64 (j : Int), .int .i64 1, .int .i64 0] 62)
        have hkx : Blk (wd.alloc (.cells #[.int .i64 0, .int .i64 (j : Int), .int .i64 1, .int .i64 0] 62)) wd.heap.size 62 [.int .i64 0, .int .i64 (j : Int), .int .i64 1, .int .i64 0] := Blk.new _ _ [.int .i64 0, .int .i64 (j : Int), .int .i64 1, .int .i64 0]
        have HTe := Lib.hid (HTd.out.quiet hbx)
        have HEe := Lib.hid (HEd.out.below hbx HEd.out.lt)
        clear hA0
        have hA0 : (wd.alloc (.cells #[.int .i64 0, .int .i64 (j : Int), .int .i64 1, .int .i64 0] 62)).cell? ⟨w.heap.size + 1, 1, none⟩ = some (.bool true) ∧ (wd.alloc (.cells #[.int .i64 0, .int .i64 (j : Int), .int .i64 1, .int .i64 0] 62)).cell? ⟨w.heap.size + 1, 2, none⟩ = some (.int .i64 p2) := ⟨(HY.out _ HTe.out.bel).cell (j := 1) rfl, (HY.out _ HTe.out.bel).cell (j := 2) rfl⟩
        (refine hK _ _ ⟨hA0, fun _ => hB0⟩ ?_; clear hK K; (try simp only [Act.put, List.setIfInBounds_toArray, List.set_cons_zero, List.set_cons_succ]))
        generalize wd.alloc (.cells #[.int .i64 0, .int .i64 (j : Int), .int .i64 1, .int .i64 0] 62) = wd1 at hkx HTe HEe hA0 ⊢
        refine uOne (i := 4) rfl (by kernel_rfl) (fun K hK => ?_)
        refine step_pushG rfl (.tmp 45) (.tmp 48) 52 rfl w2.heap.size 62 (.agg #[.int .i64 0, .int .i64 0, .int .i64 0, .int .i64 0]) 4 32 Try.underlying52 mov_info rfl (by decide) rfl _ [.int .i64 0, .int .i64 (j : Int), .int .i64 1, .int .i64 0] rfl HTe.out hkx rfl (mov_one _ _ _ _) (by omega) (by omega) ?_
        intro AM cM wd2 hTx hkk
        have HTf := Lib.hid hTx
        have HEf := Lib.hid (hkk _ _ _ (by decide) HEe.out)
        clear hTx hkk hkx hbx hA0
        have hA0 : wd2.cell? ⟨w.heap.size + 1, 1, none⟩ = some (.bool true) ∧ wd2.cell? ⟨w.heap.size + 1, 2, none⟩ = some (.int .i64 p2) := ⟨(HY.out wd2 HTf.out.bel).cell (j := 1) rfl, (HY.out wd2 HTf.out.bel).cell (j := 2) rfl⟩
        (refine hK _ _ ⟨hA0, fun _ => hB0⟩ ?_; clear hK K; (try simp only [Act.put, List.setIfInBounds_toArray, List.set_cons_zero, List.set_cons_succ]))
        (refine uA 9 ?_ rfl hA0 hB0 (fun W hA => ?_) ?_; rotate_left; (· (go_simp; try with_reducible rfl)); (try simp only [Act.put, List.setIfInBounds_toArray, List.set_cons_zero, List.set_cons_succ]))
        (refine uS 10 rfl hA0 hB0 ?_; refine uS 11 rfl hA0 hB0 ?_; refine uS 12 rfl hA0 hB0 ?_; refine uS 13 rfl hA0 hB0 ?_; (try simp only [Act.put, List.setIfInBounds_toArray, List.set_cons_zero, List.set_cons_succ]))
        (refine uA 14 ?_ rfl hA0 hB0 (fun W hA => ?_) ?_; rotate_left; (· (go_simp; try with_reducible rfl)); refine uA 17 ?_ rfl hA0 hB0 (fun W hA => ?_) ?_; rotate_left; (· (go_simp; try with_reducible rfl)); (try simp only [Act.put, List.setIfInBounds_toArray, List.set_cons_zero, List.set_cons_succ]))
        refine uOne (i := 18) rfl (by kernel_rfl) (fun K hK => ?_)
        go_simp
        have hbx := box_below wd2 (.cells #[.int .i64 to1, .bool true, .int .i64 p2] 59)
        have hkx : Blk (wd2.alloc (.cells #[.int .i64 to1, .bool true, .int .i64 p2] 59)) wd2.heap.size 59 [.int .i64 to1, .bool true, .int .i64 p2] := Blk.new _ _ [.int .i64 to1, .bool true, .int .i64 p2]
        have HTg := Lib.hid (HTf.out.quiet hbx)
        have HEg := Lib.hid (HEf.out.below hbx HEf.out.lt)
        clear hA0
        have hA0 : (wd2.alloc (.cells #[.int .i64 to1, .bool true, .int .i64 p2] 59)).cell? ⟨w.heap.size + 1, 1, none⟩ = some (.bool true) ∧ (wd2.alloc (.cells #[.int .i64 to1, .bool true, .int .i64 p2] 59)).cell? ⟨w.heap.size + 1, 2, none⟩ = some (.int .i64 p2) := ⟨(HY.out _ HTg.out.bel).cell (j := 1) rfl, (HY.out _ HTg.out.bel).cell (j := 2) rfl⟩
        (refine hK _ _ ⟨hA0, fun _ => hB0⟩ ?_; clear hK K; (try simp only [Act.put, List.setIfInBounds_toArray, List.set_cons_zero, List.set_cons_succ]))
        generalize wd2.alloc (.cells #[.int .i64 to1, .bool true, .int .i64 p2] 59) = wd3 at hkx HTg HEg hA0 ⊢
        refine uOne (i := 19) rfl (by kernel_rfl) (fun K hK => ?_)
        refine step_pushG rfl (.tmp 50) (.tmp 63) 51 rfl w2.heap.size 59 (.agg #[.int .i64 0, .bool false, .int .i64 0]) 3 24 Try.underlying51 prr_info rfl (by decide) rfl _ [.int .i64 to1, .bool true, .int .i64 p2] rfl HTg.out.swap hkx rfl (prr_one _ _ _) (by omega) (by omega) ?_
        intro AP cP wd4 hTx hkk
        have HT8 := Lib.hid hTx.swap
        have HE8 := Lib.hid (hkk _ _ _ (by decide) HEg.out)
        clear hTx hkk hkx hbx hA0
        have hA0 : wd4.cell? ⟨w.heap.size + 1, 1, none⟩ = some (.bool true) ∧ wd4.cell? ⟨w.heap.size + 1, 2, none⟩ = some (.int .i64 p2) := ⟨(HY.out wd4 HT8.out.bel).cell (j := 1) rfl, (HY.out wd4 HT8.out.bel).cell (j := 2) rfl⟩
        (refine hK _ _ ⟨hA0, fun _ => hB0⟩ ?_; clear hK K; (try simp only [Act.put, List.setIfInBounds_toArray, List.set_cons_zero, List.set_cons_succ]))
        (refine uA 20 ?_ rfl hA0 hB0 (fun W hA => ?_) ?_; rotate_left; (· (go_simp; try with_reducible rfl)); refine uA 21 ?_ rfl hA0 hB0 (fun W hA => ?_) ?_; rotate_left; (· (go_simp; try with_reducible rfl)); (try simp only [Act.put, List.setIfInBounds_toArray, List.set_cons_zero, List.set_cons_succ]))
        refine anyU_done (by kernel_rfl) ?_ _
        go_wp2_with fail
        go_meet
        case rel => exact ⟨n + 1, AP, AM, cP, cM, rfl, rfl, rfl, by omega, Lib.hid (by rw [HZ.out, List.length_append, ← HN.out]; rfl), Lib.hid (by rw [HZ.out, mvCs_push, prCs_push]; dsimp only; rw [HE5.out, HE6'.out]; exact HT8.out), HE8⟩
     case rest =>
      obtain ⟨n8, B1, B2, k1, k2, rfl, rfl, rfl, hn8, HN8, HQ, HE6⟩ := hcut
      obtain ⟨w6, rfl⟩ : ∃ w : World, w = wc := ⟨_, rfl⟩
      have d0 := (HY.out w6 HQ.out.bel).cell (j := 0) rfl
      have d1 := (HY.out w6 HQ.out.bel).cell (j := 1) rfl
      have g4 := HE6.out.cell (j := 4) rfl
      have lt6 := (HY.out w6 HQ.out.bel).lt
      cases f2
      ·have HZ := Lib.hid (show L1 ++ L2 = L1 by rw [← HL2.out, if_neg (fun h => by simp at h), List.append_nil])
       go_wp2_with fail
       go_meet
       case rel => exact ⟨n8, B1, B2, k1, k2, _, _, _, _, _, _, rfl, rfl, rfl, rfl, rfl, rfl, rfl, rfl, rfl, by omega, Lib.hid (by rw [HXN.out, HZ.out]; exact HN8.out), Lib.hid (by rw [HXN.out, HZ.out]; exact HQ.out)⟩
      ·by_cases hfc : e.fault = c
       ·have e9 : (e.fault != c) = false := by simp [hfc]
        have HZ := Lib.hid (show L1 ++ L2 = L1 by rw [← HL2.out, if_neg (fun h => h.2 hfc), List.append_nil])
        clear hfc
        go_wp2_with fail
        go_meet
        case rel => exact ⟨n8, B1, B2, k1, k2, _, _, _, _, _, _, rfl, rfl, rfl, rfl, rfl, rfl, rfl, rfl, rfl, by omega, Lib.hid (by rw [HXN.out, HZ.out]; exact HN8.out), Lib.hid (by rw [HXN.out, HZ.out]; exact HQ.out)⟩
       ·have e9 : (e.fault != c) = true := by simpa using hfc
        have HZ := Lib.hid (show L0 ++ (L1 ++ L2) = (L0 ++ L1) ++ [(3 * (j : Int) + 2, p1, pf, to2)] by rw [← HL2.out, if_pos ⟨rfl, hfc⟩, List.append_assoc])
        clear hfc
        go_upto_region 10 with fail
        refine wp_region_U (fun W => W.cell? ⟨w.heap.size + 1, 0, none⟩ = some (.int .i64 p1) ∧ W.cell? ⟨w.heap.size + 1, 1, none⟩ = some (.bool pf)) (fun _ => True) 13 (by kernel_rfl) ?_
        change anyU _ _ _ _ _ _ _ 16 _ _ _
        have hB0 : True := trivial
        have HTd := Lib.hid (HQ.out.quiet (below_dr w6))
        have HEd := Lib.hid (HE6.out.below (below_dr w6) HE6.out.lt)
        generalize w6.drew = wd at HTd HEd ⊢
        have hA0 : wd.cell? ⟨w.heap.size + 1, 0, none⟩ = some (.int .i64 p1) ∧ wd.cell? ⟨w.heap.size + 1, 1, none⟩ = some (.bool pf) := ⟨(HY.out wd HTd.out.bel).cell (j := 0) rfl, (HY.out wd HTd.out.bel).cell (j := 1) rfl⟩
        (refine uA 0 ?_ rfl hA0 hB0 (fun W hA => ?_) ?_; rotate_left; (· (go_simp; try with_reducible rfl)); refine uA 1 ?_ rfl hA0 hB0 (fun W hA => ?_) ?_; rotate_left; (· (go_simp; try with_reducible rfl)); refine uA 2 ?_ rfl hA0 hB0 (fun W hA => ?_) ?_; rotate_left; (· (go_simp; try with_reducible rfl)); refine uA 5 ?_ rfl hA0 hB0 (fun W hA => ?_) ?_; rotate_left; (· (go_simp; try with_reducible rfl)); (try simp only [Act.put, List.setIfInBounds_toArray, List.set_cons_zero, List.set_cons_succ]))
        (refine uA 6 ?_ rfl hA0 hB0 (fun W hA => ?_) ?_; rotate_left; (· (obtain ⟨h0, h1⟩ := hA; go_simp; try with_reducible rfl)); refine uA 7 ?_ rfl hA0 hB0 (fun W hA => ?_) ?_; rotate_left; (· (obtain ⟨h0, h1⟩ := hA; go_simp; try with_reducible rfl)); refine uA 8 ?_ rfl hA0 hB0 (fun W hA => ?_) ?_; rotate_left; (· (obtain ⟨h0, h1⟩ := hA; go_simp; try with_reducible rfl)); refine uA 9 ?_ rfl hA0 hB0 (fun W hA => ?_) ?_; rotate_left; (· (obtain ⟨h0, h1⟩ := hA; go_simp; try with_reducible rfl)); refine uA 10 ?_ rfl hA0 hB0 (fun W hA => ?_) ?_; rotate_left; (· (obtain ⟨h0, h1⟩ := hA; go_simp; try with_reducible rfl)); refine uA 11 ?_ rfl hA0 hB0 (fun W hA => ?_) ?_; rotate_left; (· (obtain ⟨h0, h1⟩ := hA; go_simp; try with_reducible rfl)); (try simp only [Act.put, List.setIfInBounds_toArray, List.set_cons_zero, List.set_cons_succ]))
        refine anyU_chains (f0 := 2) 75 76 84 85 _ _ _ _ [.int .i64 0, .int .i64 (j : Int), .int .i64 2, .int .i64 0] [.int .i64 p1, .bool pf, .int .i64 to2] 3 4 12 13 rfl rfl rfl rfl HTd.out (fun W hb hk => ⟨(HY.out W hb).cell (j := 0) rfl, (HY.out W hb).cell (j := 1) rfl⟩) (fun _ => trivial) (by decide) (.tmp 72) (.tmp 75) (.tmp 77) (.tmp 84) 52 51 (.agg #[.int .i64 0, .int .i64 0, .int .i64 0, .int .i64 0]) (.agg #[.int .i64 0, .bool false, .int .i64 0]) 32 24 rfl rfl rfl rfl Try.underlying52 Try.underlying51 mov_info prr_info rfl rfl (by decide) (by decide) rfl rfl (mov_one _ _ _ _) (prr_one _ _ _) (by omega) (by omega) (by omega) (by omega) ?_ ?_ (fun _ _ _ _ => rfl) (fun _ _ _ _ => rfl) (fun _ _ _ _ => rfl) (fun _ _ _ _ => rfl) ?_
        ·intro V1 V2 U1 U2 W K hK
         simp only [put4g, List.setIfInBounds_toArray, List.set_cons_succ, List.set_cons_zero] at hK ⊢
         go_simp
         exact hK
        ·intro V1 V2 U1 U2 W K hK
         simp only [put4g, List.setIfInBounds_toArray, List.set_cons_succ, List.set_cons_zero] at hK ⊢
         go_simp
         exact hK
        ·intro V1 U1 AM AP cM cP W hT9 hk9 hA0
         have HT8 := Lib.hid hT9
         have HE8 := Lib.hid (hk9 _ _ _ (by decide) (by decide) HEd.out)
         clear hT9 hk9
         simp only [put4g, List.setIfInBounds_toArray, List.set_cons_succ, List.set_cons_zero]
         (refine uA 14 ?_ rfl hA0 hB0 (fun W hA => ?_) ?_; rotate_left; (· (go_simp; try with_reducible rfl)); refine uA 15 ?_ rfl hA0 hB0 (fun W hA => ?_) ?_; rotate_left; (· (go_simp; try with_reducible rfl)); (try simp only [Act.put, List.setIfInBounds_toArray, List.set_cons_zero, List.set_cons_succ]))
         refine anyU_done (by kernel_rfl) ?_ _
         go_wp2_with fail
         go_meet
         case rel => exact ⟨n8 + 1, AP, AM, cP, cM, _, _, _, _, _, _, rfl, rfl, rfl, rfl, rfl, rfl, rfl, rfl, rfl, by omega, Lib.hid (by rw [HXN.out, HZ.out, List.length_append, ← HN8.out]; rfl), Lib.hid (by rw [HXN.out, HZ.out, mvCs_push, prCs_push]; dsimp only; rw [HE7'.out, HE8'.out]; exact HT8.out)⟩
    ·cases f1
     ·have HXN := Lib.hid (show mvP mm c (p1, pf, p2) (al.take (k + 1)) = mvP mm c (p1, pf, p2) (al.take k) by
       have n1 := of_decide_eq_false HF1.out
       rw [mvP_at HXK.out, mvX_ob HO.out, HMA.out, if_neg (fun g => n1 g.1), List.append_nil])
      go_wp2_with fail
      go_meet
      case rel => exact ⟨n, A1, A2, c1, c2, _, _, _, _, _, _, rfl, rfl, rfl, rfl, rfl, rfl, rfl, rfl, rfl, by omega, Lib.hid (by rw [HXN.out]; exact HN.out), Lib.hid (by rw [HXN.out]; exact HT6.out)⟩
     ·cases f2
      ·have HXN := Lib.hid (show mvP mm c (p1, pf, p2) (al.take (k + 1)) = mvP mm c (p1, pf, p2) (al.take k) by
        have n2 := of_decide_eq_false HF2.out
        rw [mvP_at HXK.out, mvX_ob HO.out, HMA.out, if_neg (fun g => n2 g.2), List.append_nil])
       go_wp2_with fail
       go_meet
       case rel => exact ⟨n, A1, A2, c1, c2, _, _, _, _, _, _, rfl, rfl, rfl, rfl, rfl, rfl, rfl, rfl, rfl, by omega, Lib.hid (by rw [HXN.out]; exact HN.out), Lib.hid (by rw [HXN.out]; exact HT6.out)⟩
      ·have HXN := Lib.hid (show mvP mm c (p1, pf, p2) (al.take (k + 1)) = mvP mm c (p1, pf, p2) (al.take k) ++ [(3 * (j : Int), to1, pf, to2)] by
        have n1 := of_decide_eq_true HF1.out
        have n2 := of_decide_eq_true HF2.out
        have t1 := HT1.out
        have t2 := HT2.out
        unfold stpV at t1 t2
        rw [if_pos n1] at t1
        rw [if_pos n2] at t2
        rw [mvP_at HXK.out, mvX_ob HO.out, HMA.out, if_pos ⟨n1, n2⟩, t1, t2])
       go_upto_region 12 with fail
       have HQ := HT6
       have d0 := (HY.out w6 HT6.out.bel).cell (j := 1) rfl
       have lt6 := (HY.out w6 HT6.out.bel).lt
       refine wp_region_U (fun W => W.cell? ⟨w.heap.size + 1, 1, none⟩ = some (.bool pf)) (fun _ => True) 12 (by kernel_rfl) ?_
       change anyU _ _ _ _ _ _ _ 15 _ _ _
       have hB0 : True := trivial
       have HTd := Lib.hid (HQ.out.quiet (below_dr w6))
       have HEd := Lib.hid (HE6.out.below (below_dr w6) HE6.out.lt)
       generalize w6.drew = wd at HTd HEd ⊢
       have hA0 : wd.cell? ⟨w.heap.size + 1, 1, none⟩ = some (.bool pf) := (HY.out wd HTd.out.bel).cell (j := 1) rfl
       (refine uA 0 ?_ rfl hA0 hB0 (fun W hA => ?_) ?_; rotate_left; (· (go_simp; try with_reducible rfl)); refine uA 1 ?_ rfl hA0 hB0 (fun W hA => ?_) ?_; rotate_left; (· (go_simp; try with_reducible rfl)); refine uA 2 ?_ rfl hA0 hB0 (fun W hA => ?_) ?_; rotate_left; (· (go_simp; try with_reducible rfl)); refine uA 5 ?_ rfl hA0 hB0 (fun W hA => ?_) ?_; rotate_left; (· (go_simp; try with_reducible rfl)); refine uA 6 ?_ rfl hA0 hB0 (fun W hA => ?_) ?_; rotate_left; (· (go_simp; try with_reducible rfl)); refine uA 7 ?_ rfl hA0 hB0 (fun W hA => ?_) ?_; rotate_left; (· (go_simp; try with_reducible rfl)); refine uA 8 ?_ rfl hA0 hB0 (fun W hA => ?_) ?_; rotate_left; (· (go_simp; try with_reducible rfl)); refine uA 9 ?_ rfl hA0 hB0 (fun W hA => ?_) ?_; rotate_left; (· (go_simp; try with_reducible rfl)); refine uA 10 ?_ rfl hA0 hB0 (fun W hA => ?_) ?_; rotate_left; (· (go_simp; try with_reducible rfl)); (try simp only [Act.put, List.setIfInBounds_toArray, List.set_cons_zero, List.set_cons_succ]))
       refine anyU_chains (f0 := 2) 98 99 106 107 _ _ _ _ [.int .i64 0, .int .i64 (j : Int), .int .i64 0, .int .i64 0] [.int .i64 to1, .bool pf, .int .i64 to2] 3 4 11 12 rfl rfl rfl rfl HTd.out (fun W hb hk => (HY.out W hb).cell (j := 1) rfl) (fun _ => trivial) (by decide) (.tmp 95) (.tmp 98) (.tmp 100) (.tmp 106) 52 51 (.agg #[.int .i64 0, .int .i64 0, .int .i64 0, .int .i64 0]) (.agg #[.int .i64 0, .bool false, .int .i64 0]) 32 24 rfl rfl rfl rfl Try.underlying52 Try.underlying51 mov_info prr_info rfl rfl (by decide) (by decide) rfl rfl (mov_one _ _ _ _) (prr_one _ _ _) (by omega) (by omega) (by omega) (by omega) ?_ ?_ (fun _ _ _ _ => rfl) (fun _ _ _ _ => rfl) (fun _ _ _ _ => rfl) (fun _ _ _ _ => rfl) ?_
       ·intro V1 V2 U1 U2 W K hK
        simp only [put4g, List.setIfInBounds_toArray, List.set_cons_succ, List.set_cons_zero] at hK ⊢
        go_simp
        exact hK
       ·intro V1 V2 U1 U2 W K hK
        simp only [put4g, List.setIfInBounds_toArray, List.set_cons_succ, List.set_cons_zero] at hK ⊢
        go_simp
        exact hK
       ·intro V1 U1 AM AP cM cP W hT9 hk9 hA0
        have HT8 := Lib.hid hT9
        have HE8 := Lib.hid (hk9 _ _ _ (by decide) (by decide) HEd.out)
        clear hT9 hk9
        simp only [put4g, List.setIfInBounds_toArray, List.set_cons_succ, List.set_cons_zero]
        (refine uA 13 ?_ rfl hA0 hB0 (fun W hA => ?_) ?_; rotate_left; (· (go_simp; try with_reducible rfl)); refine uA 14 ?_ rfl hA0 hB0 (fun W hA => ?_) ?_; rotate_left; (· (go_simp; try with_reducible rfl)); (try simp only [Act.put, List.setIfInBounds_toArray, List.set_cons_zero, List.set_cons_succ]))
        refine anyU_done (by kernel_rfl) ?_ _
        go_wp2_with fail
        go_meet
        case rel => exact ⟨n + 1, AP, AM, cP, cM, _, _, _, _, _, _, rfl, rfl, rfl, rfl, rfl, rfl, rfl, rfl, rfl, by omega, Lib.hid (by rw [HXN.out, List.length_append, ← HN.out]; rfl), Lib.hid (by rw [HXN.out, mvCs_push, prCs_push]; dsimp only; rw [HE3.out, HE4'.out]; exact HT8.out)⟩
  ·obtain rfl : k = na := by omega
   have b1 : ¬ (k : Int) < (k : Int) := by omega
   have hta : al.take k = al := List.take_of_length_le (by have h9 := HLA.out; omega)
   rw [hta] at HN HT
   clear hta
   have HG := Lib.hid (HT.out.base HB02.out)
   go_wp2
   refine bodyPost_ret (v := .tuple #[.slice A2 n c2, .slice A1 n c1]) (by simp [results, Try.results64, go_sem]) rfl ?_
   exact ⟨A2, A1, n, c2, c1, rfl, HN.out, HG.out⟩
end Go.Proofs.Ytddhaidimadliaa
