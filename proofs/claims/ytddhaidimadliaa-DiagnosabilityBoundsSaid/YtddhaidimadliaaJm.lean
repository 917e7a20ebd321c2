/- Walks: diagnosability.twin.rank. -/
import Derived.Test.YtddhaidimadliaaJl
import Derived.Deep.CutRange
namespace Go.Proofs.Ytddhaidimadliaa
open Go.RowKit Go

/-- what rank does -/
def RkR (z : TwP) (s : Bs TwS) (g i : Nat) (q : RS) (w : World) (e : Ending) (w' : World) : Prop := ∃ (b : Bool) (q' : RS), rkD s.es twW g (i : Int) q = (b, q') ∧ e = .returned (.bool b) ∧ z.rs w' q' ∧ Ex2 z.rb z.sb w w'
theorem twW_in (x : Ed) : 0 ≤ twW x ∧ twW x ≤ 1 := by unfold twW; split <;> omega
theorem rkD_one {es : List Ed} {w : Ed → Int} {g : Nat} {i : Int} {q : RS} (h : gI q.2 i = 1) : rkD es w (g + 1) i q = (false, q) := by unfold rkD; rw [if_pos h]
theorem rkD_two {es : List Ed} {w : Ed → Int} {g : Nat} {i : Int} {q : RS} (h : gI q.2 i = 2) : rkD es w (g + 1) i q = (true, q) := by unfold rkD; rw [if_neg (by rw [h]; decide), if_pos h]
theorem rkD_new {es : List Ed} {w : Ed → Int} {g : Nat} {i : Int} {q q' : RS} {b : Bool} (h : gI q.2 i = 0) (hl : rkL (rkD es w g) w i (outL es i) (q.1, q.2.set i.toNat 1) = (b, q')) : rkD es w (g + 1) i q = if b = true then (true, (q'.1, q'.2.set i.toNat 2)) else (false, q') := by
 unfold rkD
 rw [if_neg (by rw [h]; decide), if_neg (by rw [h]; decide), hl]
theorem TwP.rs.st' {w : World} {z : TwP} {q : RS} (h : z.rs w q) {i : Nat} (hi : i < z.n) (v : Int) (hq : RkQ z.n (q.1, q.2.set i v)) (hne : z.rb ≠ z.sb) : z.rs (w.setCell ⟨z.sb, i, none⟩ (.int .i64 v)) (q.1, q.2.set i v) ∧ Ex2 z.rb z.sb w (w.setCell ⟨z.sb, i, none⟩ (.int .i64 v)) := by
 have hg := grown_setCell w z.sb i (.int .i64 v)
 refine ⟨⟨h.rk.kept hg (by intro e; injection e with e; exact hne e), ?_, hq⟩, .grown2 hg⟩
 have := h.st.set (j := i) (by unfold iv; rw [List.length_map, h.q.l2]; exact hi) (.int .i64 v)
 rw [iv_set] at this
 exact this
theorem TwP.rs.rk' {w : World} {z : TwP} {q : RS} (h : z.rs w q) {i : Nat} (hi : i < z.n) (v : Int) (hq : RkQ z.n (q.1.set i v, q.2)) (hne : z.rb ≠ z.sb) : z.rs (w.setCell ⟨z.rb, i, none⟩ (.int .i64 v)) (q.1.set i v, q.2) ∧ Ex2 z.rb z.sb w (w.setCell ⟨z.rb, i, none⟩ (.int .i64 v)) := by
 have hg := grown_setCell w z.rb i (.int .i64 v)
 refine ⟨⟨?_, h.st.kept hg (by intro e; injection e with e; exact hne e.symm), hq⟩, .grown1 hg⟩
 have := h.rk.set (j := i) (by unfold iv; rw [List.length_map, h.q.l1]; exact hi) (.int .i64 v)
 rw [iv_set] at this
 exact this
set_option maxRecDepth 100000 in
set_option maxHeartbeats 6400000 in
theorem dm_rank (z : TwP) (s : Bs TwS) (he : EdR z.n s.es) (hnn : z.n ≤ 4096) (hmm : s.es.length ≤ 1000000) : ∀ (g i : Nat) (q : RS) (w : World), z.ok w s → z.rs w q → i < z.n → cnt0 q < g →
  Calls Try.prog 107 #[.pointer (some ⟨z.tb, 0, none⟩), .int .i64 (i : Int)] w (RkR z s g i q w) := by
 intro g
 induction g with
 | zero => intro i q w _ _ _ h; omega
 | succ g ih =>
  intro i q w hz hr hi hc
  have hval := hr.q.val (i : Int) (by omega) (by omega)
  obtain ⟨q1, q2⟩ := q
  have hcell := hr.st.cell (iv_gI (l := q2) (i := i) (by rw [hr.q.l2]; exact hi))
  have hop := fun h => hr.q.opened (i := (i : Int)) (by omega) (by omega) h
  have HZ := Lib.hid hz
  have HR := Lib.hid hr
  have HIH := Lib.hid ih
  obtain ⟨tb, fb, rb, sb, n, m, A1, c1, A2, c2, F⟩ := z
  dsimp only at hz hr hi hnn he hcell hop ⊢
  have HE := Lib.hid he
  have a4 : w.cell? ⟨tb, 4, none⟩ = some (.slice (some ⟨sb, 0, none⟩) n n) := hz.blk.cell (j := 4) rfl
  have b1 : (i : Int) < (n : Int) := by omega
  obtain ⟨sv, hsv⟩ : ∃ v, gI q2 (i : Int) = v := ⟨_, rfl⟩
  rw [hsv] at hcell
  have HSV := Lib.hid hsv
  have hval' : sv = 0 ∨ sv = 1 ∨ sv = 2 := by rw [← hsv]; exact hval
  have HOP := Lib.hid hop
  have HCN := Lib.hid hc
  clear hval ih he hop hc hz hr hsv
  rcases hval' with rfl | rfl | rfl
  ·obtain ⟨hq1, hc1, hi1⟩ := HOP.out HSV.out
   rw [Int.toNat_natCast] at hq1 hc1 hi1
   have f0 := HR.out.st.free i
   have l0 := HR.out.st.lt
   dsimp only at f0 l0
   have hn1 := HR.out.st' hi 1 hq1 HZ.out.n3
   dsimp only at hn1
   have HR1 := Lib.hid hn1.1
   have HX1 := Lib.hid hn1.2
   have HI1 := Lib.hid hi1
   have hc2 : cnt0 (q1, q2.set i 1) < g := by have := HCN.out; omega
   have HC2 := Lib.hid hc2
   clear hq1 hc1 hi1 hn1 hc2
   go_enter Try.func107, Try.ntmps107
   go_upto_region 7 with fail
   generalize w.setCell ⟨sb, i, none⟩ (.int .i64 1) = w1 at HR1 HX1 ⊢
   clear a4 hcell f0 l0
   obtain ⟨RA, rc, hF, hrow⟩ := HZ.out.row i hi
   dsimp only at hF
   obtain ⟨nk, hnk⟩ : ∃ k, (outL s.es (i : Int)).length = k := ⟨_, rfl⟩
   rw [hnk] at hF
   have HNK := Lib.hid hnk
   have hnm : nk ≤ 1000000 := by rw [← hnk]; exact Nat.le_trans (List.length_filter_le _ _) hmm
   have hz1 := HZ.out.ex2 HX1.out
   have a2 : w1.cell? ⟨tb, 2, none⟩ = some (.slice (some ⟨fb, 0, none⟩) n n) := hz1.blk.cell (j := 2) rfl
   have a3 : w1.cell? ⟨fb, i, none⟩ = some (.slice RA nk rc) := hz1.fr.cell hF
   obtain ⟨RES, hRES⟩ : ∃ r, rkL (rkD s.es twW g) twW (i : Int) (outL s.es (i : Int)) (q1, q2.set i 1) = r := ⟨_, rfl⟩
   have HRES := Lib.hid (show rkD s.es twW (g + 1) (i : Int) (q1, q2) = if RES.1 = true then (true, (RES.2.1, RES.2.2.set i 2)) else (false, RES.2) from by
    have := rkD_new (q := (q1, q2)) (q' := RES.2) (b := RES.1) HSV.out (by rw [Int.toNat_natCast, hRES])
    rw [Int.toNat_natCast] at this
    exact this)
   have HL0 := Lib.hid (show rkL (rkD s.es twW g) twW (i : Int) ((outL s.es (i : Int)).drop 0) (q1, q2.set i 1) = RES from hRES)
   have HROW := Lib.hid hrow
   clear hF hnk hz1 hRES hrow
   go_wp2
   clear a2 a3
   go_loopw [4, 6, 7, 33] (fun s4 s6 s7 s33 wr => ∃ (k : Nat) (v6 v7 : Value) (qk : RS), s33 = .int .i64 k ∧ s4 = .bool false ∧ s6 = v6 ∧ s7 = v7 ∧ k ≤ nk ∧ Hid (rkL (rkD s.es twW g) twW (i : Int) ((outL s.es (i : Int)).drop k) qk = RES) ∧ Hid (TwP.rs wr ⟨tb, fb, rb, sb, n, m, A1, c1, A2, c2, F⟩ qk) ∧ Hid (Ex2 rb sb w wr) ∧ Hid (gI qk.2 (i : Int) = 1) ∧ Hid (cnt0 qk < g)) (fun _ _ _ s33 _ => nk - (intOf s33).toNat)
   case atStart => exact ⟨0, _, _, _, rfl, rfl, rfl, rfl, Nat.zero_le _, HL0, HR1, HX1, HI1, HC2⟩
   case round =>
    clear HL0 HR1 HX1 HI1 HC2
    obtain ⟨k, v6, v7, qk, rfl, rfl, rfl, rfl, hk, HL, HRK, HX, HIK, HCK⟩ := hrel
    by_cases hlt : k < nk
    ·obtain ⟨x, hx⟩ : ∃ x, (outL s.es (i : Int))[k]? = some x := ⟨_, List.getElem?_eq_getElem (by rw [HNK.out]; exact hlt)⟩
     have hxe : x ∈ s.es := (outL_mem.1 (List.mem_of_getElem? hx)).1
     have hxr := (HE.out x hxe).2
     obtain ⟨jt, hjt⟩ : ∃ j : Nat, x.t = (j : Int) := ⟨x.t.toNat, by omega⟩
     have hjn : jt < n := by omega
     obtain ⟨ad, x', hA, hab, hx', hcx⟩ := (HROW.out.ex2 HX.out).1.get (k := k) (by rw [HNK.out]; exact hlt)
     obtain rfl : x' = x := by rw [hx] at hx'; injection hx' with e; exact e.symm
     subst hA
     have HLX := Lib.hid (show rkL (rkD s.es twW g) twW (i : Int) (x' :: (outL s.es (i : Int)).drop (k + 1)) qk = RES by rw [← drop_cons' hx]; exact HL.out)
     obtain ⟨x, hxx⟩ : ∃ x, x = x' := ⟨_, rfl⟩
     subst hxx
     have HXT := Lib.hid hjt
     obtain ⟨ev, hev⟩ : ∃ q, x.e / 3 = q := ⟨_, rfl⟩
     obtain ⟨sd, hsd⟩ : ∃ q, x.e % 3 = q := ⟨_, rfl⟩
     obtain ⟨fv, hfv⟩ : ∃ q, x.f = q := ⟨_, rfl⟩
     have q0 : wr.cell? (ad.add (k * 4)) = some (.int .i64 fv) := by rw [← hfv]; exact hcx 0 _ rfl
     have q1 : wr.cell? ⟨(ad.add (k * 4)).block, (ad.add (k * 4)).off + 1, none⟩ = some (.int .i64 ev) := by rw [← hev]; exact ev_cells (j := 0) (hcx 1 _ rfl)
     have q2 : wr.cell? ⟨(ad.add (k * 4)).block, (ad.add (k * 4)).off + 2, none⟩ = some (.int .i64 sd) := by rw [← hsd]; exact ev_cells (j := 1) (hcx 2 _ rfl)
     have q3 : wr.cell? ⟨(ad.add (k * 4)).block, (ad.add (k * 4)).off + 3, none⟩ = some (.int .i64 (jt : Int)) := by rw [← hjt]; exact ev_cells (j := 2) (hcx 3 _ rfl)
     have HSD := Lib.hid hsd
     have b2 : (k : Int) < (nk : Int) := by omega
     have hbx := box_below wr (.cells #[.int .i64 fv, .int .i64 ev, .int .i64 sd, .int .i64 (jt : Int)] 62)
     have kb : Blk (wr.alloc (.cells #[.int .i64 fv, .int .i64 ev, .int .i64 sd, .int .i64 (jt : Int)] 62)) wr.heap.size 62 [.int .i64 fv, .int .i64 ev, .int .i64 sd, .int .i64 (jt : Int)] := Blk.new _ _ [_, _, _, _]
     have HRD := Lib.hid (HRK.out.below hbx)
     have HXD := Lib.hid (HX.out.trans (.below hbx))
     have hbn : rb < wr.heap.size ∧ sb < wr.heap.size := ⟨HRK.out.rk.lt, HRK.out.st.lt⟩
     clear hx hx' hcx hbx hxe hxr hjt hev hsd hfv hab
     go_upto_region 10 with fail
     obtain ⟨bx, hbe⟩ : ∃ b, wr.heap.size = b := ⟨_, rfl⟩
     rw [hbe] at kb hbn ⊢
     generalize wr.alloc (.cells #[.int .i64 fv, .int .i64 ev, .int .i64 sd, .int .i64 (jt : Int)] 62) = wd at HRD HXD kb ⊢
     clear hbe q0 q1 q2 q3
     have g3 := kb.cell (j := 3) rfl
     have HKB := Lib.hid kb
     have HCALL := Lib.hid (HIH.out jt qk wd (HZ.out.ex2 HXD.out) HRD.out hjn HCK.out)
     clear kb
     go_wp2_with fail
     refine HCALL.out.mono ?_
     rintro _ we ⟨b, q5, hb5, rfl, hr5, hx5⟩
     have hkp := rkD_keep HE.out twW_in g (jt : Int) qk (by omega) (by omega) HRK.out.q HCK.out
     rw [hb5] at hkp
     have HLY := Lib.hid (HLX.out.symm.trans (rkL_cons (b := b) (s' := q5) (by rw [HXT.out]; exact hb5)))
     have HX5 := Lib.hid (HXD.out.trans hx5)
     have HR5 := Lib.hid hr5
     have HK5 := Lib.hid (HKB.out.ex2 hx5 (by dsimp only; omega) (by dsimp only; omega))
     clear g3 HCALL HRD HXD HKB hx5 hr5
     cases b with
     | false =>
      have HRF := Lib.hid (show rkD s.es twW (g + 1) (i : Int) (q1, q2) = (false, q5) by rw [HRES.out, HLY.out]; rfl)
      clear hkp hb5
      go_wp2
      go_ret
      exact ⟨false, q5, HRF.out, rfl, HR5.out, HX5.out⟩
     | true =>
      have hq5 := hkp.1.q
      have HI5 := Lib.hid (hkp.1.opn (i : Int) (by omega) (by omega) HIK.out)
      have HD5 := Lib.hid (hkp.2 rfl)
      have HC5 := Lib.hid (Nat.lt_of_le_of_lt hkp.1.cnt HCK.out)
      have HQ5 := Lib.hid hq5
      obtain ⟨ri, hri⟩ : ∃ r, gI q5.1 (i : Int) = r := ⟨_, rfl⟩
      obtain ⟨rt, hrt⟩ : ∃ r, gI q5.1 (jt : Int) = r := ⟨_, rfl⟩
      have HRI := Lib.hid hri
      have HRT := Lib.hid hrt
      have hle := hq5.le
      have hbt := hq5.any (jt : Int) (by omega) (by omega)
      rw [hrt] at hbt
      have hbt1 : -1 ≤ rt := hbt.1
      have hbt2 : rt ≤ 5000 := by have := hbt.2; omega
      clear hkp hb5 hri hrt hle hbt hq5
      go_upto_region 12 with fail
      refine wp_region_U (fun W => W.cell? ⟨tb, 3, none⟩ = some (.slice (some ⟨rb, 0, none⟩) n n) ∧ W.cell? ⟨bx, 3, none⟩ = some (.int .i64 (jt : Int)) ∧ W.cell? ⟨rb, jt, none⟩ = some (.int .i64 rt)) (fun _ => True) 9 (by kernel_rfl) ?_
      change anyU _ _ _ _ _ _ _ 9 _ _ _
      have hB0 : True := trivial
      have HR7 := Lib.hid (HR5.out.below (below_dr we))
      have HX7 := Lib.hid (HX5.out.trans (.below (below_dr we)))
      have HK7 := Lib.hid (HK5.out.below (below_dr we) HK5.out.lt)
      generalize we.drew = wd at HR7 HX7 HK7 ⊢
      have hA0 : wd.cell? ⟨tb, 3, none⟩ = some (.slice (some ⟨rb, 0, none⟩) n n) ∧ wd.cell? ⟨bx, 3, none⟩ = some (.int .i64 (jt : Int)) ∧ wd.cell? ⟨rb, jt, none⟩ = some (.int .i64 rt) := ⟨(HZ.out.ex2 HX7.out).blk.cell (j := 3) rfl, HK7.out.cell (j := 3) rfl, by rw [← HRT.out]; exact HR7.out.rk.cell (iv_gI (by rw [HR7.out.q.l1]; exact hjn))⟩
      have b5 : (jt : Int) < (n : Int) := by omega
      (refine uA 0 ?_ rfl hA0 hB0 (fun W hA => ?_) ?_; rotate_left; (· (go_simp; try with_reducible rfl)); refine uA 1 ?_ rfl hA0 hB0 (fun W hA => ?_) ?_; rotate_left; (· (go_simp; try with_reducible rfl)); refine uA 2 ?_ rfl hA0 hB0 (fun W hA => ?_) ?_; rotate_left; (· (go_simp; try with_reducible rfl)); (try simp only [Act.put, List.setIfInBounds_toArray, List.set_cons_zero, List.set_cons_succ]))
      (refine uA 3 ?_ rfl hA0 hB0 (fun W hA => ?_) ?_; rotate_left; (· (obtain ⟨h0, h1, h2⟩ := hA; go_simp; try with_reducible rfl)); (try simp only [Act.put, List.setIfInBounds_toArray, List.set_cons_zero, List.set_cons_succ]))
      (refine uA 4 ?_ rfl hA0 hB0 (fun W hA => ?_) ?_; rotate_left; (· (go_simp; try with_reducible rfl)); (try simp only [Act.put, List.setIfInBounds_toArray, List.set_cons_zero, List.set_cons_succ]))
      (refine uA 5 ?_ rfl hA0 hB0 (fun W hA => ?_) ?_; rotate_left; (· (obtain ⟨h0, h1, h2⟩ := hA; go_simp; try with_reducible rfl)); (try simp only [Act.put, List.setIfInBounds_toArray, List.set_cons_zero, List.set_cons_succ]))
      (refine uA 6 ?_ rfl hA0 hB0 (fun W hA => ?_) ?_; rotate_left; (· (go_simp; try with_reducible rfl)); (try simp only [Act.put, List.setIfInBounds_toArray, List.set_cons_zero, List.set_cons_succ]))
      (refine uA 7 ?_ rfl hA0 hB0 (fun W hA => ?_) ?_; rotate_left; (· (obtain ⟨h0, h1, h2⟩ := hA; go_simp; try with_reducible rfl)); (try simp only [Act.put, List.setIfInBounds_toArray, List.set_cons_zero, List.set_cons_succ]))
      (refine uA 8 ?_ rfl hA0 hB0 (fun W hA => ?_) ?_; rotate_left; (· (go_simp; try with_reducible rfl)); (try simp only [Act.put, List.setIfInBounds_toArray, List.set_cons_zero, List.set_cons_succ]))
      refine anyU_done (by kernel_rfl) ?_ _
      clear hA0 HR5 HX5 HK5
      have e2 := HK7.out.cell (j := 2) rfl
      by_cases hs2 : sd = 2
      ·have d2 : (sd != 2) = false := by simp [hs2]
       have HTW := Lib.hid (show rt + twW x = rt by unfold twW; rw [if_pos (by rw [HSD.out]; exact hs2)]; omega)
       clear hs2
       go_upto_region 15 with fail
       have HU := Lib.hid (HR7.out.q.upd (w := twW) (i := (i : Int)) (by omega) (by dsimp only; omega) HI5.out (x := x) (by rw [HXT.out]; omega) (by rw [HXT.out]; dsimp only; omega) (by rw [HXT.out]; exact HD5.out) (twW_in x))
       have HMX := Lib.hid (show updR twW (i : Int) x q5 = (q5.1.set i (max ri (rt)), q5.2) by unfold updR; rw [HRI.out, HXT.out, HRT.out, Int.toNat_natCast, HTW.out])
       refine wp_region_U (fun W => W.cell? ⟨tb, 3, none⟩ = some (.slice (some ⟨rb, 0, none⟩) n n)) (fun W => W.cell? ⟨rb, i, none⟩ = some (.int .i64 ri)) 15 (by kernel_rfl) ?_
       change anyU _ _ _ _ _ _ _ 16 _ _ _
       clear hB0
       have HR6 := Lib.hid (HR7.out.below (below_dr wd))
       have HX6 := Lib.hid (HX7.out.trans (.below (below_dr wd)))
       generalize wd.drew = wf at HR6 HX6 ⊢
       have hA0 : wf.cell? ⟨tb, 3, none⟩ = some (.slice (some ⟨rb, 0, none⟩) n n) := (HZ.out.ex2 HX6.out).blk.cell (j := 3) rfl
       have hB0 : wf.cell? ⟨rb, i, none⟩ = some (.int .i64 ri) := by rw [← HRI.out]; exact HR6.out.rk.cell (iv_gI (by rw [HR6.out.q.l1]; exact hi))
       clear e2 d2
       (refine uA 0 ?_ rfl hA0 hB0 (fun W hA => ?_) ?_; rotate_left; (· (go_simp; try with_reducible rfl)); refine uA 1 ?_ rfl hA0 hB0 (fun W hA => ?_) ?_; rotate_left; (· (go_simp; try with_reducible rfl)); refine uA 2 ?_ rfl hA0 hB0 (fun W hA => ?_) ?_; rotate_left; (· (go_simp; try with_reducible rfl)); refine uA 3 ?_ rfl hA0 hB0 (fun W hA => ?_) ?_; rotate_left; (· (go_simp; try with_reducible rfl)); refine uA 4 ?_ rfl hA0 hB0 (fun W hA => ?_) ?_; rotate_left; (· (go_simp; try with_reducible rfl)); refine uA 5 ?_ rfl hA0 hB0 (fun W hA => ?_) ?_; rotate_left; (· (go_simp; try with_reducible rfl)); refine uA 6 ?_ rfl hA0 hB0 (fun W hA => ?_) ?_; rotate_left; (· (go_simp; try with_reducible rfl)); refine uA 7 ?_ rfl hA0 hB0 (fun W hA => ?_) ?_; rotate_left; (· (go_simp; try with_reducible rfl)); refine uA 8 ?_ rfl hA0 hB0 (fun W hA => ?_) ?_; rotate_left; (· (go_simp; try with_reducible rfl)); refine uA 9 ?_ rfl hA0 hB0 (fun W hA => ?_) ?_; rotate_left; (· (go_simp; try with_reducible rfl)); refine uA 10 ?_ rfl hA0 hB0 (fun W hA => ?_) ?_; rotate_left; (· (go_simp; try with_reducible rfl)); (try simp only [Act.put, List.setIfInBounds_toArray, List.set_cons_zero, List.set_cons_succ]))
       (refine uB 11 ?_ rfl hA0 hB0 (fun W hA hB => ?_) ?_; rotate_left; (· (go_simp; try with_reducible rfl)); (try simp only [Act.put, List.setIfInBounds_toArray, List.set_cons_zero, List.set_cons_succ]))
       (refine uA 12 ?_ rfl hA0 hB0 (fun W hA => ?_) ?_; rotate_left; (· (go_simp; try with_reducible rfl)); refine uA 13 ?_ rfl hA0 hB0 (fun W hA => ?_) ?_; rotate_left; (· (go_simp; try with_reducible rfl)); refine uA 14 ?_ rfl hA0 hB0 (fun W hA => ?_) ?_; rotate_left; (· (go_simp; try with_reducible rfl)); (try simp only [Act.put, List.setIfInBounds_toArray, List.set_cons_zero, List.set_cons_succ]))
       refine uOne (i := 15) rfl (by kernel_rfl) (fun K hK => ?_)
       have hn7 := HR6.out.rk' hi (max ri (rt)) (by have := HU.out; rw [HMX.out] at this; exact this) HZ.out.n3
       dsimp only at hn7
       have f0 := HR6.out.rk.free i
       have l0 := HR6.out.rk.lt
       dsimp only at f0 l0
       go_simp
       have HX8 := Lib.hid (HX6.out.trans hn7.2)
       have HR8 := Lib.hid hn7.1
       clear hA0 hn7
       have hA0 : (wf.setCell ⟨rb, i, none⟩ (.int .i64 (max ri (rt)))).cell? ⟨tb, 3, none⟩ = some (.slice (some ⟨rb, 0, none⟩) n n) := (HZ.out.ex2 HX8.out).blk.cell (j := 3) rfl
       (refine hK _ _ ⟨hA0, fun h => absurd (h.symm.trans (by kernel_rfl : _ = true)) Bool.false_ne_true⟩ ?_; clear hK K; (try simp only [Act.put, List.setIfInBounds_toArray, List.set_cons_zero, List.set_cons_succ]))
       refine anyU_done (by kernel_rfl) ?_ _
       have HL8 := Lib.hid (show rkL (rkD s.es twW g) twW (i : Int) ((outL s.es (i : Int)).drop (k + 1)) (q5.1.set i (max ri (rt)), q5.2) = RES by rw [HLY.out, HMX.out]; simp only [if_true])
       generalize wf.setCell ⟨rb, i, none⟩ (.int .i64 (max ri (rt))) = w8 at HX8 HR8 hA0 ⊢
       go_wp2
       go_roundw
       case rel => exact ⟨k + 1, _, _, _, by go_num, rfl, rfl, rfl, by omega, HL8, HR8, HX8, HI5, HC5⟩
       case measure => simp [intOf]; omega
      ·have d2 : (sd != 2) = true := by simpa using hs2
       have HTW := Lib.hid (show rt + twW x = rt + 1 by unfold twW; rw [if_neg (by rw [HSD.out]; exact hs2)])
       clear hs2
       go_upto_region 15 with fail
       have HU := Lib.hid (HR7.out.q.upd (w := twW) (i := (i : Int)) (by omega) (by dsimp only; omega) HI5.out (x := x) (by rw [HXT.out]; omega) (by rw [HXT.out]; dsimp only; omega) (by rw [HXT.out]; exact HD5.out) (twW_in x))
       have HMX := Lib.hid (show updR twW (i : Int) x q5 = (q5.1.set i (max ri ((rt + 1))), q5.2) by unfold updR; rw [HRI.out, HXT.out, HRT.out, Int.toNat_natCast, HTW.out])
       refine wp_region_U (fun W => W.cell? ⟨tb, 3, none⟩ = some (.slice (some ⟨rb, 0, none⟩) n n)) (fun W => W.cell? ⟨rb, i, none⟩ = some (.int .i64 ri)) 15 (by kernel_rfl) ?_
       change anyU _ _ _ _ _ _ _ 16 _ _ _
       clear hB0
       have HR6 := Lib.hid (HR7.out.below (below_dr wd))
       have HX6 := Lib.hid (HX7.out.trans (.below (below_dr wd)))
       generalize wd.drew = wf at HR6 HX6 ⊢
       have hA0 : wf.cell? ⟨tb, 3, none⟩ = some (.slice (some ⟨rb, 0, none⟩) n n) := (HZ.out.ex2 HX6.out).blk.cell (j := 3) rfl
       have hB0 : wf.cell? ⟨rb, i, none⟩ = some (.int .i64 ri) := by rw [← HRI.out]; exact HR6.out.rk.cell (iv_gI (by rw [HR6.out.q.l1]; exact hi))
       clear e2 d2
       (refine uA 0 ?_ rfl hA0 hB0 (fun W hA => ?_) ?_; rotate_left; (· (go_simp; try with_reducible rfl)); refine uA 1 ?_ rfl hA0 hB0 (fun W hA => ?_) ?_; rotate_left; (· (go_simp; try with_reducible rfl)); refine uA 2 ?_ rfl hA0 hB0 (fun W hA => ?_) ?_; rotate_left; (· (go_simp; try with_reducible rfl)); refine uA 3 ?_ rfl hA0 hB0 (fun W hA => ?_) ?_; rotate_left; (· (go_simp; try with_reducible rfl)); refine uA 4 ?_ rfl hA0 hB0 (fun W hA => ?_) ?_; rotate_left; (· (go_simp; try with_reducible rfl)); refine uA 5 ?_ rfl hA0 hB0 (fun W hA => ?_) ?_; rotate_left; (· (go_simp; try with_reducible rfl)); refine uA 6 ?_ rfl hA0 hB0 (fun W hA => ?_) ?_; rotate_left; (· (go_simp; try with_reducible rfl)); refine uA 7 ?_ rfl hA0 hB0 (fun W hA => ?_) ?_; rotate_left; (· (go_simp; try with_reducible rfl)); refine uA 8 ?_ rfl hA0 hB0 (fun W hA => ?_) ?_; rotate_left; (· (go_simp; try with_reducible rfl)); refine uA 9 ?_ rfl hA0 hB0 (fun W hA => ?_) ?_; rotate_left; (· (go_simp; try with_reducible rfl)); refine uA 10 ?_ rfl hA0 hB0 (fun W hA => ?_) ?_; rotate_left; (· (go_simp; try with_reducible rfl)); (try simp only [Act.put, List.setIfInBounds_toArray, List.set_cons_zero, List.set_cons_succ]))
       (refine uB 11 ?_ rfl hA0 hB0 (fun W hA hB => ?_) ?_; rotate_left; (· (go_simp; try with_reducible rfl)); (try simp only [Act.put, List.setIfInBounds_toArray, List.set_cons_zero, List.set_cons_succ]))
       (refine uA 12 ?_ rfl hA0 hB0 (fun W hA => ?_) ?_; rotate_left; (· (go_simp; try with_reducible rfl)); refine uA 13 ?_ rfl hA0 hB0 (fun W hA => ?_) ?_; rotate_left; (· (go_simp; try with_reducible rfl)); refine uA 14 ?_ rfl hA0 hB0 (fun W hA => ?_) ?_; rotate_left; (· (go_simp; try with_reducible rfl)); (try simp only [Act.put, List.setIfInBounds_toArray, List.set_cons_zero, List.set_cons_succ]))
       refine uOne (i := 15) rfl (by kernel_rfl) (fun K hK => ?_)
       have hn7 := HR6.out.rk' hi (max ri ((rt + 1))) (by have := HU.out; rw [HMX.out] at this; exact this) HZ.out.n3
       dsimp only at hn7
       have f0 := HR6.out.rk.free i
       have l0 := HR6.out.rk.lt
       dsimp only at f0 l0
       go_simp
       have HX8 := Lib.hid (HX6.out.trans hn7.2)
       have HR8 := Lib.hid hn7.1
       clear hA0 hn7
       have hA0 : (wf.setCell ⟨rb, i, none⟩ (.int .i64 (max ri ((rt + 1))))).cell? ⟨tb, 3, none⟩ = some (.slice (some ⟨rb, 0, none⟩) n n) := (HZ.out.ex2 HX8.out).blk.cell (j := 3) rfl
       (refine hK _ _ ⟨hA0, fun h => absurd (h.symm.trans (by kernel_rfl : _ = true)) Bool.false_ne_true⟩ ?_; clear hK K; (try simp only [Act.put, List.setIfInBounds_toArray, List.set_cons_zero, List.set_cons_succ]))
       refine anyU_done (by kernel_rfl) ?_ _
       have HL8 := Lib.hid (show rkL (rkD s.es twW g) twW (i : Int) ((outL s.es (i : Int)).drop (k + 1)) (q5.1.set i (max ri ((rt + 1))), q5.2) = RES by rw [HLY.out, HMX.out]; simp only [if_true])
       generalize wf.setCell ⟨rb, i, none⟩ (.int .i64 (max ri ((rt + 1)))) = w8 at HX8 HR8 hA0 ⊢
       go_wp2
       go_roundw
       case rel => exact ⟨k + 1, _, _, _, by go_num, rfl, rfl, rfl, by omega, HL8, HR8, HX8, HI5, HC5⟩
       case measure => simp [intOf]; omega
    ·obtain rfl : k = nk := by omega
     have b2 : ¬ (k : Int) < (k : Int) := by omega
     have hRES : RES = (true, qk) := by
      have h9 := HL.out
      rw [List.drop_of_length_le (by rw [HNK.out]; exact Nat.le_refl _)] at h9
      rw [← h9]; rfl
     have HRF := Lib.hid (show rkD s.es twW (g + 1) (i : Int) (q1, q2) = (true, (qk.1, qk.2.set i 2)) by rw [HRES.out, hRES]; rfl)
     have hq2 := (HRK.out.q.closed (i := (i : Int)) (by omega) (by dsimp only; omega) HIK.out).1
     rw [Int.toNat_natCast] at hq2
     have hn1 := HRK.out.st' hi 2 hq2 HZ.out.n3
     dsimp only at hn1
     have HR1 := Lib.hid hn1.1
     have HX1 := Lib.hid (HX.out.trans hn1.2)
     have a4 : wr.cell? ⟨tb, 4, none⟩ = some (.slice (some ⟨sb, 0, none⟩) n n) := (HZ.out.ex2 HX.out).blk.cell (j := 4) rfl
     have f0 := HRK.out.st.free i
     have l0 := HRK.out.st.lt
     have hcell := HRK.out.st.cell (iv_gI (l := qk.2) (i := i) (by rw [HRK.out.q.l2]; exact hi))
     dsimp only at f0 l0 hcell
     clear hq2 hn1 hRES
     go_wp2
     go_ret
     exact ⟨true, _, HRF.out, rfl, HR1.out, HX1.out⟩
  ·have HF := Lib.hid (rkD_one (es := s.es) (w := twW) (g := g) (q := (q1, q2)) HSV.out)
   go_enter Try.func107, Try.ntmps107
   go_wp2
   go_ret
   exact ⟨false, (q1, q2), HF.out, rfl, HR.out, .refl⟩
  ·have HF := Lib.hid (rkD_two (es := s.es) (w := twW) (g := g) (q := (q1, q2)) HSV.out)
   go_enter Try.func107, Try.ntmps107
   go_wp2
   go_ret
   exact ⟨true, (q1, q2), HF.out, rfl, HR.out, .refl⟩
end Go.Proofs.Ytddhaidimadliaa
