/- Walks: diagnosability.Lasso. -/
import Derived.Test.YtddhaidimadliaaJs
import Derived.Test.YtddhaidimadliaaJp
namespace Go.Proofs.Ytddhaidimadliaa
open Go.RowKit Go


/-- what Lasso returns -/
def RetLas (o : Option (List Ed × List Ed)) (w : World) (e : Ending) (w' : World) : Prop := Below w.heap.size w w' ∧ match o with
  | none => e = .returned (.tuple #[.agg #[.slice none 0 0, .slice none 0 0, .slice none 0 0, .slice none 0 0], .bool false, .int .i64 0])
  | some (p, cy) => ∃ v1 v2 v3 v4, e = .returned (.tuple #[.agg #[v1, v2, v3, v4], .bool true, .int .i64 0]) ∧ w'.ownsRow w.heap.size 3 1 v1 (fst1 (p.map Ed.e)).length (iv (fst1 (p.map Ed.e))) ∧ w'.ownsRow w.heap.size 3 1 v2 (fst1 (cy.map Ed.e)).length (iv (fst1 (cy.map Ed.e))) ∧ w'.ownsRow w.heap.size 3 1 v3 (snd1 (p.map Ed.e)).length (iv (snd1 (p.map Ed.e))) ∧ w'.ownsRow w.heap.size 3 1 v4 (snd1 (cy.map Ed.e)).length (iv (snd1 (cy.map Ed.e)))
theorem RetTp.row {o : Option (List Ed)} {w w' : World} {e : Ending} (h : RetTp o w e w') : ∃ (A : Option Addr) (n c : Nat), e = .returned (.slice A n c) ∧ (o.getD []).length = n ∧ RdR 4 mvc w' w'.heap.size A (o.getD []) ∧ n ≤ 6000 ∧ Below w.heap.size w w' ∧ (o = none → A = none ∧ n = 0 ∧ c = 0) ∧ (o.isSome = true → A.isSome = true) ∧ (∀ ad, A = some ad → w.heap.size ≤ ad.block) := by
  obtain ⟨hb, h⟩ := h
  cases o with
  | none => exact ⟨none, 0, 0, h, rfl, RdR.nil, by omega, hb, fun _ => ⟨rfl, rfl, rfl⟩, fun h => (by cases h), fun ad h => (by cases h)⟩
  | some l =>
    obtain ⟨ad, c, h1, h2, h3⟩ := h
    exact ⟨some ad, l.length, c, h1, rfl, RdR.of_own (by omega) (fun _ _ => rfl) h2, h3, hb, fun h => (by cases h), fun _ => rfl, fun ad' h => by injection h with h; subst h; exact (h2.lt ad.block rfl).1⟩
theorem RdR.far {α : Type} {sz : Nat} {f : α → List Value} {w w' : World} {A : Option Addr} {l : List α} {b : Nat} (h : RdR sz f w w.heap.size A l) (hg : w.grownBy w' (some b)) (hne : ∀ ad, A = some ad → ad.block ≠ b) : RdR sz f w' w'.heap.size A l := fun k e he => by
  obtain ⟨ad, e1, e2, e3⟩ := h k e he
  have h2 := hne ad e1
  exact ⟨ad, e1, Nat.lt_of_lt_of_le e2 hg.size, fun j u hj => (World.cell?_of_block (hg.block _ (by rw [block_of_add]; exact e2) (by rw [block_of_add]; intro e; injection e with e; exact h2 e))).trans (e3 j u hj)⟩
set_option maxRecDepth 100000 in
set_option maxHeartbeats 6400000 in
theorem dm_Lasso_err (z : DV) (c r : Int) (w : World) (h : z.ok w w.heap.size) (hr : stlE z c = r) (h0 : r ≠ 0) :
    Calls Try.prog 41 #[.agg (dvc z).toArray, .int .i64 c] w fun e w' => e = .returned (.tuple #[.agg #[.slice none 0 0, .slice none 0 0, .slice none 0 0, .slice none 0 0], .bool false, .int .i64 r]) ∧ Below w.heap.size w w' := by
  obtain ⟨⟨A, na, ca, M, nm, cm, E, ne, ce, a⟩, V, nv, cv, l⟩ := z
  have hb1 := box_below w (.cells #[.slice A na ca, .int .i64 a.st, .slice M nm cm, .slice E ne ce, .slice V nv cv] 37)
  obtain ⟨w1, hw1⟩ : ∃ w1, w1 = w.alloc (.cells #[.slice A na ca, .int .i64 a.st, .slice M nm cm, .slice E ne ce, .slice V nv cv] 37) := ⟨_, rfl⟩
  have kx : Blk w1 w.heap.size 37 [.slice A na ca, .int .i64 a.st, .slice M nm cm, .slice E ne ce, .slice V nv cv] := by rw [hw1]; exact Blk.new _ _ [_, _, _, _, _]
  rw [← hw1] at hb1
  have hbL := box_below w1 (.cells #[.slice none 0 0, .slice none 0 0, .slice none 0 0, .slice none 0 0] 71)
  have kl0 : Blk (w1.alloc (.cells #[.slice none 0 0, .slice none 0 0, .slice none 0 0, .slice none 0 0] 71)) w1.heap.size 71 [.slice none 0 0, .slice none 0 0, .slice none 0 0, .slice none 0 0] := Blk.new _ _ [_, _, _, _]
  have hs1 : w1.heap.size = w.heap.size + 1 := by rw [hw1]; simp
  rw [hs1] at kl0
  obtain ⟨w1b, hw1b⟩ : ∃ W, W = w1.alloc (.cells #[.slice none 0 0, .slice none 0 0, .slice none 0 0, .slice none 0 0] 71) := ⟨_, rfl⟩
  rw [← hw1b] at hbL kl0
  have kx := kx.below hbL kx.lt
  have hb1 := hb1.trans (hbL.mono hb1.size)
  rw [hw1] at hw1b
  have hw1 := hw1b
  have KL := Lib.hid kl0
  clear hbL kl0 hs1 hw1b
  obtain ⟨w1, rfl⟩ : ∃ W : World, W = w1b := ⟨_, rfl⟩
  have hok1 := (h.below hb1).more hb1.size
  have HC := Lib.hid (dm_open_err _ c r w1 hok1 hr h0)
  unfold dvc at HC ⊢
  dsimp only at HC ⊢
  obtain ⟨sv, hsv⟩ : ∃ s, a.st = s := ⟨_, rfl⟩
  rw [hsv] at hw1 HC kx ⊢
  have a0 := kx.cell (j := 0) rfl
  have a1 := kx.cell (j := 1) rfl
  have a2 := kx.cell (j := 2) rfl
  have a3 := kx.cell (j := 3) rfl
  have a4 := kx.cell (j := 4) rfl
  have HW1 := Lib.hid hw1; clear hw1
  have HB1 := Lib.hid hb1; clear hb1
  clear kx hok1
  have b0 : (r != 0) = true := by simpa using h0
  clear hsv hr h0 h
  go_enter Try.func41, Try.ntmps41
  go_wp2_with fail
  rw [← HW1.out]
  refine HC.out.mono ?_
  rintro e w2 ⟨rfl, hb2⟩
  have HB2 := Lib.hid (HB1.out.trans (hb2.mono HB1.out.size))
  have kl := KL.out.below hb2 KL.out.lt
  have f0 := kl.free 0
  have f1 := kl.free 1
  have f2 := kl.free 2
  have f3 := kl.free 3
  have e0 := kl.cell (j := 0) rfl
  have e1 := kl.cell (j := 1) rfl
  have e2 := kl.cell (j := 2) rfl
  have e3 := kl.cell (j := 3) rfl
  have l0 := kl.lt
  have hk9 := (((kl.set (j := 0) (by simp) (.slice none 0 0)).set (j := 1) (by simp) (.slice none 0 0)).set (j := 2) (by simp) (.slice none 0 0)).set (j := 3) (by simp) (.slice none 0 0)
  have z0 := hk9.cell (j := 0) rfl
  have z1 := hk9.cell (j := 1) rfl
  have z2 := hk9.cell (j := 2) rfl
  have z3 := hk9.cell (j := 3) rfl
  have HB9 := Lib.hid ((((HB2.out.setCell (p := ⟨w.heap.size + 1, 0, none⟩) (Nat.le_succ _) (.slice none 0 0)).setCell (p := ⟨w.heap.size + 1, 1, none⟩) (Nat.le_succ _) (.slice none 0 0)).setCell (p := ⟨w.heap.size + 1, 2, none⟩) (Nat.le_succ _) (.slice none 0 0)).setCell (p := ⟨w.heap.size + 1, 3, none⟩) (Nat.le_succ _) (.slice none 0 0))
  clear a0 a1 a2 a3 a4 HC hb2 kl hk9
  go_wp2
  refine bodyPost_ret (v := .tuple #[.agg #[.slice none 0 0, .slice none 0 0, .slice none 0 0, .slice none 0 0], .bool false, .int .i64 r]) (by simp [results, Try.results41, go_sem, z0, z1, z2, z3]) rfl ?_
  exact ⟨rfl, HB9.out⟩
set_option maxRecDepth 100000 in
set_option maxHeartbeats 6400000 in
theorem dm_Lasso_ok (z : DV) (c : Int) (w : World) (h : z.ok w w.heap.size) (hc : stlE z c = 0) (hs : z.x.a.st ≤ 40) (R : Bs TwS) (hR : twin z.m c = some R) (hed : EdR R.ts.length R.es) :
    Calls Try.prog 41 #[.agg (dvc z).toArray, .int .i64 c] w (RetLas (lasS R) w) := by
  obtain ⟨RES, hRES⟩ : ∃ r, lasS R = r := ⟨_, rfl⟩
  rw [hRES]
  have HRES0 := Lib.hid hRES
  clear hRES
  obtain ⟨⟨A, na, ca, M, nm, cm, E, ne, ce, a⟩, V, nv, cv, l⟩ := z
  have hb1 := box_below w (.cells #[.slice A na ca, .int .i64 a.st, .slice M nm cm, .slice E ne ce, .slice V nv cv] 37)
  obtain ⟨w1, hw1⟩ : ∃ w1, w1 = w.alloc (.cells #[.slice A na ca, .int .i64 a.st, .slice M nm cm, .slice E ne ce, .slice V nv cv] 37) := ⟨_, rfl⟩
  have kx : Blk w1 w.heap.size 37 [.slice A na ca, .int .i64 a.st, .slice M nm cm, .slice E ne ce, .slice V nv cv] := by rw [hw1]; exact Blk.new _ _ [_, _, _, _, _]
  rw [← hw1] at hb1
  have hbL := box_below w1 (.cells #[.slice none 0 0, .slice none 0 0, .slice none 0 0, .slice none 0 0] 71)
  have kl0 : Blk (w1.alloc (.cells #[.slice none 0 0, .slice none 0 0, .slice none 0 0, .slice none 0 0] 71)) w1.heap.size 71 [.slice none 0 0, .slice none 0 0, .slice none 0 0, .slice none 0 0] := Blk.new _ _ [_, _, _, _]
  have hs1 : w1.heap.size = w.heap.size + 1 := by rw [hw1]; simp
  rw [hs1] at kl0
  obtain ⟨w1b, hw1b⟩ : ∃ W, W = w1.alloc (.cells #[.slice none 0 0, .slice none 0 0, .slice none 0 0, .slice none 0 0] 71) := ⟨_, rfl⟩
  rw [← hw1b] at hbL kl0
  have kx := kx.below hbL kx.lt
  have hb1 := hb1.trans (hbL.mono hb1.size)
  rw [hw1] at hw1b
  have hw1 := hw1b
  have KL := Lib.hid kl0
  clear hbL kl0 hs1 hw1b
  obtain ⟨w1, rfl⟩ : ∃ W : World, W = w1b := ⟨_, rfl⟩
  have hok1 := (h.below hb1).more hb1.size
  have HC := Lib.hid (dm_open_ok _ c w1 hok1 hc hs R hR hed)
  unfold dvc at HC ⊢
  dsimp only at HC ⊢
  obtain ⟨sv, hsv⟩ : ∃ s, a.st = s := ⟨_, rfl⟩
  rw [hsv] at hw1 HC kx ⊢
  have a0 := kx.cell (j := 0) rfl
  have a1 := kx.cell (j := 1) rfl
  have a2 := kx.cell (j := 2) rfl
  have a3 := kx.cell (j := 3) rfl
  have a4 := kx.cell (j := 4) rfl
  have HW1 := Lib.hid hw1; clear hw1
  have HB1 := Lib.hid hb1; clear hb1
  clear kx hok1
  have HED := Lib.hid hed
  clear hsv hc hs hR hed h
  go_enter Try.func41, Try.ntmps41
  go_wp2_with fail
  rw [← HW1.out]
  refine HC.out.mono ?_
  rintro e w2 ⟨T, rfl, hz, hrs, hg1, hg2, hb2, hn, hm⟩
  have HB2 := Lib.hid (HB1.out.trans (hb2.mono HB1.out.size))
  have kl2 := KL.out.below hb2 KL.out.lt
  have hle := HB1.out.size
  have HZ := Lib.hid hz
  have hln := hz.ln
  have hedn : EdR T.n R.es := by rw [← hln]; exact HED.out
  have HP := Lib.hid (fun (W : World) (hW : Below w2.heap.size w2 W) (fr tg : Nat) (hf : fr < T.n) => dm_path T R hedn W (hz.ex2 (.below hW)) hn hm fr tg hf)
  have HZW := Lib.hid (fun (W : World) (hW : Below w2.heap.size w2 W) => hz.ex2 (.below hW))
  have HL0 := Lib.hid (show lasG R (T.n - 0) 0 = RES by rw [← HRES0.out]; unfold lasS; rw [hln]; rfl)
  have HKL := Lib.hid (fun (W : World) (hW : Below w2.heap.size w2 W) => kl2.below hW kl2.lt)
  have hll : w.heap.size + 1 < w2.heap.size := kl2.lt
  obtain ⟨tb, fb, rb, sb, n, m, A1, c1, A2, c2, F⟩ := T
  dsimp only at hn hln HP HL0
  have HLN := Lib.hid hln
  have a0 : w2.cell? ⟨tb, 0, none⟩ = some (.slice A1 n c1) := HZ.out.blk.cell (j := 0) rfl
  clear a1 a2 a3 a4 HC hb2 hz hrs hln hedn kl2 hg1 hg2
  have HW0 := Lib.hid (Below.refl w2.heap.size w2)
  go_wp2
  clear a0
  go_loopw [5, 6, 8, 9, 10, 26] (fun s5 s6 s8 s9 s10 s26 wr => ∃ (i : Nat) (v8 v9 v10 : Value), s26 = .int .i64 i ∧ s5 = .bool false ∧ s6 = .int .i64 0 ∧ s8 = v8 ∧ s9 = v9 ∧ s10 = v10 ∧ i ≤ n ∧ Hid (lasG R (n - i) i = RES) ∧ Hid (Below w2.heap.size w2 wr)) (fun _ _ _ _ _ s26 _ => n - (intOf s26).toNat)
  case atStart => exact ⟨0, _, _, _, rfl, rfl, rfl, rfl, rfl, rfl, Nat.zero_le _, HL0, HW0⟩
  case round =>
    clear HL0 HW0
    obtain ⟨i, v8, v9, v10, rfl, rfl, rfl, rfl, rfl, rfl, hi, HL, HW⟩ := hrel
    by_cases hlt : i < n
    · obtain ⟨ad, p, hA, hab, hp, hcp⟩ := (HZW.out wr HW.out).prs.1.get (k := i) (by rw [HLN.out]; exact hlt)
      subst hA
      obtain ⟨p1, pf, p2⟩ := p
      have q0 : wr.cell? (ad.add (i * 3)) = some (.int .i64 p1) := hcp 0 _ rfl
      have q1 : wr.cell? ⟨(ad.add (i * 3)).block, (ad.add (i * 3)).off + 1, none⟩ = some (.bool pf) := ev_cells (j := 0) (hcp 1 _ rfl)
      have q2 : wr.cell? ⟨(ad.add (i * 3)).block, (ad.add (i * 3)).off + 2, none⟩ = some (.int .i64 p2) := ev_cells (j := 1) (hcp 2 _ rfl)
      have HPF := Lib.hid (show twF R i = pf by rw [twF_at hp])
      have HLS := Lib.hid (show lasG R (n - (i + 1) + 1) i = RES by rw [show n - (i + 1) + 1 = n - i by omega]; exact HL.out)
      have b1 : (i : Int) < (n : Int) := by omega
      have hbx := box_below wr (.cells #[.int .i64 p1, .bool pf, .int .i64 p2] 59)
      have kb : Blk (wr.alloc (.cells #[.int .i64 p1, .bool pf, .int .i64 p2] 59)) wr.heap.size 59 [.int .i64 p1, .bool pf, .int .i64 p2] := Blk.new _ _ [_, _, _]
      have HW4 := Lib.hid (HW.out.trans (hbx.mono HW.out.size))
      clear hcp hp hbx hab HL HW
      go_upto_region 7 with fail
      generalize wr.heap.size = bx at kb ⊢
      generalize wr.alloc (.cells #[.int .i64 p1, .bool pf, .int .i64 p2] 59) = w4 at HW4 kb ⊢
      clear q0 q1 q2
      have g1 := kb.cell (j := 1) rfl
      cases pf with
      | false =>
        have HL5 := Lib.hid (show lasG R (n - (i + 1)) (i + 1) = RES by rw [← HLS.out, lasG, if_neg (by rw [HPF.out]; simp)])
        clear kb
        go_wp2
        go_roundw
        case rel => exact ⟨i + 1, _, _, _, by go_num, rfl, rfl, rfl, rfl, rfl, by omega, HL5, HW4⟩
        case measure => simp [intOf]; omega
      | true =>
        have HC := Lib.hid (HP.out w4 HW4.out i i hlt)
        obtain ⟨O, hO⟩ : ∃ o, tpS R.es n (i : Int) (i : Int) = o := ⟨_, rfl⟩
        rw [hO] at HC
        have HO := Lib.hid (show tpS R.es R.ts.length (i : Int) (i : Int) = O by rw [HLN.out]; exact hO)
        clear hO kb
        go_wp2_with fail
        refine HC.out.mono ?_
        rintro _ w5 h5
        obtain ⟨CA, cn, cc, rfl, hcl, hcr, hcn, hb5, hnone, hsome, hfar⟩ := h5.row
        have HW5 := Lib.hid (HW4.out.trans (hb5.mono HW4.out.size))
        clear h5 HC g1 hb5
        cases O with
        | none =>
          obtain ⟨rfl, rfl, rfl⟩ := hnone rfl
          have HL5 := Lib.hid (show lasG R (n - (i + 1)) (i + 1) = RES by rw [← HLS.out, lasG, if_pos HPF.out, HO.out])
          clear hcl hcr hsome hnone hfar
          go_wp2
          go_roundw
          case rel => exact ⟨i + 1, _, _, _, by go_num, rfl, rfl, rfl, rfl, rfl, by omega, HL5, HW5⟩
          case measure => simp [intOf]; omega
        | some cy =>
          obtain ⟨ca, hca⟩ := Option.isSome_iff_exists.1 (hsome rfl)
          subst hca
          obtain ⟨P0, hP0⟩ : ∃ o, tpS R.es n 0 (i : Int) = o := ⟨_, rfl⟩
          have HRES := Lib.hid (show RES = some (P0.getD [], cy) by
            have h9 := HLS.out
            rw [lasG, if_pos HPF.out, HO.out, HLN.out, hP0] at h9
            exact h9.symm)
          have HC := Lib.hid (HP.out w5 HW5.out 0 i (by omega))
          rw [show ((0 : Nat) : Int) = 0 from rfl, hP0] at HC
          have HCR := Lib.hid hcr
          have HCL := Lib.hid hcl
          have HFAR := Lib.hid (show ca.block ≠ w.heap.size + 1 by
            have h1 := hfar ca rfl
            have h2 := HW4.out.size
            omega)
          clear hP0 hcl hcr hsome hnone hfar
          go_upto_region 10 with fail
          go_wp2_with fail
          refine HC.out.mono ?_
          rintro _ w6 h6
          obtain ⟨PA, pn, pc, rfl, hpl, hpr, hpn, hb6, _, _, _⟩ := h6.row
          have HW6 := Lib.hid (HW5.out.trans (hb6.mono HW5.out.size))
          have HCR6 := Lib.hid ((HCR.out.below hb6).more hb6.size)
          have HWD := Lib.hid (dm_words PA pc pn (P0.getD []) w6 hpl hpr (by omega))
          clear h6 HC hb6 HCR hpl hpr
          go_wp2_with fail
          refine HWD.out.mono ?_
          rintro _ w7 ⟨u1, u2, rfl, ho1, ho2, hb7⟩
          obtain ⟨U1, k1, rfl⟩ := own_shape ho1
          obtain ⟨U2, k2, rfl⟩ := own_shape ho2
          have HW7 := Lib.hid (HW6.out.trans (hb7.mono HW6.out.size))
          have HCR7 := Lib.hid ((HCR6.out.below hb7).more hb7.size)
          have hle6 : w.heap.size ≤ w6.heap.size := Nat.le_trans HB2.out.size HW6.out.size
          have HO1 := Lib.hid (own_base (base := w.heap.size + 1 + 1) ho1 (by have := HW6.out.size; omega))
          have HO2 := Lib.hid (own_base (base := w.heap.size + 1 + 1) ho2 (by have := HW6.out.size; omega))
          have kl := HKL.out w7 HW7.out
          have f0 := kl.free 0
          have f2 := kl.free 2
          have e0 := kl.cell (j := 0) rfl
          have e2 := kl.cell (j := 2) rfl
          have l0 := kl.lt
          have hk8 := (kl.set (j := 0) (by simp) (.slice U1 (fst1 ((P0.getD []).map Ed.e)).length k1)).set (j := 2) (by simp) (.slice U2 (snd1 ((P0.getD []).map Ed.e)).length k2)
          have hg8 := (grown_setCell w7 (w.heap.size + 1) 0 (.slice U1 (fst1 ((P0.getD []).map Ed.e)).length k1)).trans (grown_setCell _ (w.heap.size + 1) 2 (.slice U2 (snd1 ((P0.getD []).map Ed.e)).length k2))
          have HK8 := Lib.hid hk8
          have HB8 := Lib.hid ((HB2.out.trans (HW7.out.mono HB2.out.size)).grown hg8 (Nat.le_trans hle6 hb7.size) (fun j hj => by injection hj with hj; omega))
          have HO18 := Lib.hid (HO1.out.kept hg8 (.inr (fun e => by have := (HO1.out.lt _ e).1; omega)))
          have HO28 := Lib.hid (HO2.out.kept hg8 (.inr (fun e => by have := (HO2.out.lt _ e).1; omega)))
          have HCR8 := Lib.hid (HCR7.out.far hg8 (fun ad h => by injection h with h; subst h; exact HFAR.out))
          have hsz8 := hg8.size
          clear hk8 hg8 HCR7 HCR6 HO1 HO2 ho1 ho2 hb7 HWD kl
          go_upto_region 11 with fail
          generalize (w7.setCell ⟨w.heap.size + 1, 0, none⟩ (.slice U1 (fst1 ((P0.getD []).map Ed.e)).length k1)).setCell ⟨w.heap.size + 1, 2, none⟩ (.slice U2 (snd1 ((P0.getD []).map Ed.e)).length k2) = w8 at HK8 HB8 HO18 HO28 HCR8 hsz8 ⊢
          clear f0 f2 e0 e2 l0
          have HWD := Lib.hid (dm_words (some ca) cc cn cy w8 HCL.out HCR8.out (by omega))
          go_wp2_with fail
          refine HWD.out.mono ?_
          rintro _ w9 ⟨u3, u4, rfl, ho3, ho4, hb9⟩
          obtain ⟨U3, k3, rfl⟩ := own_shape ho3
          obtain ⟨U4, k4, rfl⟩ := own_shape ho4
          have hle8 : w.heap.size + 1 + 1 ≤ w8.heap.size := by have := HK8.out.lt; omega
          have HO3 := Lib.hid (own_base (base := w.heap.size + 1 + 1) ho3 hle8)
          have HO4 := Lib.hid (own_base (base := w.heap.size + 1 + 1) ho4 hle8)
          have HO19 := Lib.hid (own_below HO18.out hb9)
          have HO29 := Lib.hid (own_below HO28.out hb9)
          have HB9 := Lib.hid (HB8.out.trans (hb9.mono (by omega)))
          have kl := HK8.out.below hb9 HK8.out.lt
          have f0 := kl.free 0
          have f1 := kl.free 1
          have f2 := kl.free 2
          have f3 := kl.free 3
          have e0 := kl.cell (j := 0) rfl
          have e1 := kl.cell (j := 1) rfl
          have e2 := kl.cell (j := 2) rfl
          have e3 := kl.cell (j := 3) rfl
          have l0 := kl.lt
          have hk10 := (kl.set (j := 1) (by simp) (.slice U3 (fst1 (cy.map Ed.e)).length k3)).set (j := 3) (by simp) (.slice U4 (snd1 (cy.map Ed.e)).length k4)
          have hg10 := (grown_setCell w9 (w.heap.size + 1) 1 (.slice U3 (fst1 (cy.map Ed.e)).length k3)).trans (grown_setCell _ (w.heap.size + 1) 3 (.slice U4 (snd1 (cy.map Ed.e)).length k4))
          have HK10 := Lib.hid hk10
          have hle9 : w.heap.size ≤ w9.heap.size := by have := hb9.size; omega
          have HB10 := Lib.hid (HB9.out.grown hg10 hle9 (fun j hj => by injection hj with hj; omega))
          have HO110 := Lib.hid (HO19.out.kept hg10 (.inr (fun e => by have := (HO19.out.lt _ e).1; omega)))
          have HO210 := Lib.hid (HO29.out.kept hg10 (.inr (fun e => by have := (HO29.out.lt _ e).1; omega)))
          have HO310 := Lib.hid (HO3.out.kept hg10 (.inr (fun e => by have := (HO3.out.lt _ e).1; omega)))
          have HO410 := Lib.hid (HO4.out.kept hg10 (.inr (fun e => by have := (HO4.out.lt _ e).1; omega)))
          clear hk10 hg10 HO19 HO29 HO3 HO4 ho3 ho4 hb9 HWD kl HO18 HO28 HCR8 hsz8
          go_upto_region 12 with fail
          have hsz10 : w.heap.size ≤ ((w9.setCell ⟨w.heap.size + 1, 1, none⟩ (.slice U3 (fst1 (cy.map Ed.e)).length k3)).setCell ⟨w.heap.size + 1, 3, none⟩ (.slice U4 (snd1 (cy.map Ed.e)).length k4)).heap.size := HB10.out.size
          generalize (w9.setCell ⟨w.heap.size + 1, 1, none⟩ (.slice U3 (fst1 (cy.map Ed.e)).length k3)).setCell ⟨w.heap.size + 1, 3, none⟩ (.slice U4 (snd1 (cy.map Ed.e)).length k4) = w10 at HK10 HB10 HO110 HO210 HO310 HO410 hsz10 ⊢
          clear f0 f1 f2 f3 e0 e1 e2 e3 l0
          have kl := HK10.out
          have f0 := kl.free 0
          have f1 := kl.free 1
          have f2 := kl.free 2
          have f3 := kl.free 3
          have e0 := kl.cell (j := 0) rfl
          have e1 := kl.cell (j := 1) rfl
          have e2 := kl.cell (j := 2) rfl
          have e3 := kl.cell (j := 3) rfl
          have l0 := kl.lt
          have hk11 := (((kl.set (j := 0) (by simp) (.slice U1 (fst1 ((P0.getD []).map Ed.e)).length k1)).set (j := 1) (by simp) (.slice U3 (fst1 (cy.map Ed.e)).length k3)).set (j := 2) (by simp) (.slice U2 (snd1 ((P0.getD []).map Ed.e)).length k2)).set (j := 3) (by simp) (.slice U4 (snd1 (cy.map Ed.e)).length k4)
          have hg11 := (((grown_setCell w10 (w.heap.size + 1) 0 (.slice U1 (fst1 ((P0.getD []).map Ed.e)).length k1)).trans (grown_setCell _ (w.heap.size + 1) 1 (.slice U3 (fst1 (cy.map Ed.e)).length k3))).trans (grown_setCell _ (w.heap.size + 1) 2 (.slice U2 (snd1 ((P0.getD []).map Ed.e)).length k2))).trans (grown_setCell _ (w.heap.size + 1) 3 (.slice U4 (snd1 (cy.map Ed.e)).length k4))
          have z0 := hk11.cell (j := 0) rfl
          have z1 := hk11.cell (j := 1) rfl
          have z2 := hk11.cell (j := 2) rfl
          have z3 := hk11.cell (j := 3) rfl
          have HB11 := Lib.hid (HB10.out.grown hg11 hsz10 (fun j hj => by injection hj with hj; omega))
          have HO1 := Lib.hid (own_base (base := w.heap.size) (HO110.out.kept hg11 (.inr (fun e => by have := (HO110.out.lt _ e).1; omega))) (by omega))
          have HO2 := Lib.hid (own_base (base := w.heap.size) (HO210.out.kept hg11 (.inr (fun e => by have := (HO210.out.lt _ e).1; omega))) (by omega))
          have HO3 := Lib.hid (own_base (base := w.heap.size) (HO310.out.kept hg11 (.inr (fun e => by have := (HO310.out.lt _ e).1; omega))) (by omega))
          have HO4 := Lib.hid (own_base (base := w.heap.size) (HO410.out.kept hg11 (.inr (fun e => by have := (HO410.out.lt _ e).1; omega))) (by omega))
          clear hk11 hg11 kl
          go_wp2
          refine bodyPost_ret (v := .tuple #[.agg #[.slice U1 (fst1 ((P0.getD []).map Ed.e)).length k1, .slice U3 (fst1 (cy.map Ed.e)).length k3, .slice U2 (snd1 ((P0.getD []).map Ed.e)).length k2, .slice U4 (snd1 (cy.map Ed.e)).length k4], .bool true, .int .i64 0]) (by simp [results, Try.results41, go_sem, z0, z1, z2, z3]) rfl ?_
          unfold RetLas
          rw [HRES.out]
          exact ⟨HB11.out, _, _, _, _, rfl, HO1.out, HO3.out, HO2.out, HO4.out⟩
    · obtain rfl : i = n := by omega
      have b1 : ¬ (i : Int) < (i : Int) := by omega
      have HRN := Lib.hid (show RES = none by
        have h9 := HL.out
        rw [Nat.sub_self] at h9
        exact h9.symm)
      have kl := HKL.out wr HW.out
      have f0 := kl.free 0
      have f1 := kl.free 1
      have f2 := kl.free 2
      have f3 := kl.free 3
      have e0 := kl.cell (j := 0) rfl
      have e1 := kl.cell (j := 1) rfl
      have e2 := kl.cell (j := 2) rfl
      have e3 := kl.cell (j := 3) rfl
      have l0 := kl.lt
      have hk9 := (((kl.set (j := 0) (by simp) (.slice none 0 0)).set (j := 1) (by simp) (.slice none 0 0)).set (j := 2) (by simp) (.slice none 0 0)).set (j := 3) (by simp) (.slice none 0 0)
      have z0 := hk9.cell (j := 0) rfl
      have z1 := hk9.cell (j := 1) rfl
      have z2 := hk9.cell (j := 2) rfl
      have z3 := hk9.cell (j := 3) rfl
      have HBW := Lib.hid (HB2.out.trans (HW.out.mono HB2.out.size))
      have HB9 := Lib.hid ((((HBW.out.setCell (p := ⟨w.heap.size + 1, 0, none⟩) (Nat.le_succ _) (.slice none 0 0)).setCell (p := ⟨w.heap.size + 1, 1, none⟩) (Nat.le_succ _) (.slice none 0 0)).setCell (p := ⟨w.heap.size + 1, 2, none⟩) (Nat.le_succ _) (.slice none 0 0)).setCell (p := ⟨w.heap.size + 1, 3, none⟩) (Nat.le_succ _) (.slice none 0 0))
      clear kl hk9
      go_wp2
      refine bodyPost_ret (v := .tuple #[.agg #[.slice none 0 0, .slice none 0 0, .slice none 0 0, .slice none 0 0], .bool false, .int .i64 0]) (by simp [results, Try.results41, go_sem, z0, z1, z2, z3]) rfl ?_
      unfold RetLas
      rw [HRN.out]
      exact ⟨HB9.out, rfl⟩
end Go.Proofs.Ytddhaidimadliaa
