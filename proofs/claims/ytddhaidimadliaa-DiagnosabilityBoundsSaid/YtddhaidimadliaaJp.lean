/- Walks: diagnosability.twin.solve, Diagnosable, Ranks. -/
import Derived.Test.YtddhaidimadliaaJo
import Derived.Test.YtddhaidimadliaaJm
namespace Go.Proofs.Ytddhaidimadliaa
open Go.RowKit Go

section
variable {es : List Ed} {w : Ed → Int} {fa : Nat → Bool} {g d i : Nat} {q q' : RS}
theorem solG_yes (h : fa i = true) (hr : rkD es w g (i : Int) q = (true, q')) : solG es w fa g (d + 1) i q = solG es w fa g d (i + 1) q' := by rw [solG, if_pos h, hr]; rfl
theorem solG_bad (h : fa i = true) (hr : rkD es w g (i : Int) q = (false, q')) : solG es w fa g (d + 1) i q = (false, q') := by rw [solG, if_pos h, hr]; rfl
theorem solG_no (h : fa i = false) : solG es w fa g (d + 1) i q = solG es w fa g d (i + 1) (q.1.set i (-1), q.2) := by rw [solG, if_neg (by rw [h]; simp)]
end
theorem RkQ.low {n i : Nat} {q : RS} (h : RkQ n q) (hi : i < n) : RkQ n (q.1.set i (-1), q.2) := by
 have hg : ∀ j : Int, 0 ≤ j → gI (q.1.set i (-1)) j = if j = (i : Int) then -1 else gI q.1 j := fun j hj => by
  have := gI_set (l := q.1) (i := (i : Int)) (v := -1) (by omega) (by rw [h.l1]; omega) hj
  rwa [Int.toNat_natCast] at this
 refine ⟨by rw [List.length_set]; exact h.l1, h.l2, h.val, fun j h0 h1 => ?_, fun j h0 h1 hd => ?_⟩
 ·show -1 ≤ gI (q.1.set i (-1)) j ∧ gI (q.1.set i (-1)) j ≤ (cnt2 q : Int) + 1
  rw [hg j h0]
  split
  ·omega
  ·exact h.any j h0 h1
 ·show gI (q.1.set i (-1)) j ≤ (cnt2 q : Int)
  rw [hg j h0]
  split
  ·omega
  ·exact h.don j h0 h1 hd
theorem diaX_at {R : Bs TwS} {r : List Int} {k : Nat} {x : Ed} (h : R.es[k]? = some x) : (R.es.take (k + 1)).foldl (diaX R r) 0 = diaX R r ((R.es.take k).foldl (diaX R r) 0) x := by
 rw [take_snoc' h, List.foldl_append]; rfl
/-- what solve returns -/
def RetSo (T : TwP) (R : Bs TwS) (w : World) (e : Ending) (w' : World) : Prop := ∃ q' : RS, T.rs w' q' ∧ Ex2 T.rb T.sb w w' ∧ ((diaS R = none ∧ e = .returned (.tuple #[.int .i64 0, .bool false])) ∨ (∃ b, diaS R = some (q'.1, b) ∧ e = .returned (.tuple #[.int .i64 b, .bool true])))
set_option maxRecDepth 100000 in
set_option maxHeartbeats 6400000 in
theorem dm_solve (T : TwP) (R : Bs TwS) (hed : EdR R.ts.length R.es) (w : World) (hz : T.ok w R) (hr : T.rs w (List.replicate T.n 0, List.replicate T.n 0)) (hn : T.n ≤ 4096) (hm : R.es.length ≤ 262144) :
  Calls Try.prog 68 #[.pointer (some ⟨T.tb, 0, none⟩)] w (RetSo T R w) := by
 have hedn : EdR T.n R.es := by rw [← hz.ln]; exact hed
 have HRANK := Lib.hid (fun (i : Nat) (q : RS) (W : World) (h1 : T.ok W R) (h2 : T.rs W q) (hi : i < T.n) => dm_rank T R hedn hn (Nat.le_trans hm (by omega)) (T.n + 1) i q W h1 h2 hi (Nat.lt_succ_of_le (by rw [← h2.q.l2]; exact List.countP_le_length)))
 have HED := Lib.hid hedn
 have HZ := Lib.hid hz
 have HR0 := Lib.hid hr
 obtain ⟨SOL, hS⟩ : ∃ r, solS R.es twW R.ts.length (twF R) = r := ⟨_, rfl⟩
 have hln := hz.ln
 have HS0 := Lib.hid (show solG R.es twW (twF R) (T.n + 1) (T.n - 0) 0 (List.replicate T.n 0, List.replicate T.n 0) = SOL by rw [← hS, hln]; rfl)
 have HDI := Lib.hid (show diaS R = if SOL.1 = true then some (SOL.2.1, diaB R SOL.2.1) else none by unfold diaS; rw [hS])
 have hlm := hz.lm
 obtain ⟨tb, fb, rb, sb, n, m, A1, c1, A2, c2, F⟩ := T
 dsimp only at hz hr hn hln hlm HRANK HS0 ⊢
 have HLN := Lib.hid hln
 have HLM := Lib.hid hlm
 have hm' : m ≤ 262144 := by rw [← hlm]; exact hm
 have a0 : w.cell? ⟨tb, 0, none⟩ = some (.slice A1 n c1) := hz.blk.cell (j := 0) rfl
 clear hed hedn hz hr hS hln hlm hm
 go_enter Try.func68, Try.ntmps68
 go_wp2
 clear a0
 go_loopw [2, 3, 4, 5, 13] (fun s2 s3 s4 s5 s13 wr => ∃ (i : Nat) (v4 v5 : Value) (q : RS), s13 = .int .i64 i ∧ s2 = .int .i64 0 ∧ s3 = .bool false ∧ s4 = v4 ∧ s5 = v5 ∧ i ≤ n ∧ Hid (solG R.es twW (twF R) (n + 1) (n - i) i q = SOL) ∧ Hid (TwP.rs wr ⟨tb, fb, rb, sb, n, m, A1, c1, A2, c2, F⟩ q) ∧ Hid (Ex2 rb sb w wr)) (fun _ _ _ _ s13 _ => n - (intOf s13).toNat)
 case atStart => exact ⟨0, _, _, _, rfl, rfl, rfl, rfl, rfl, Nat.zero_le _, HS0, HR0, Lib.hid .refl⟩
 case round =>
  clear HS0 HR0
  obtain ⟨i, v4, v5, q, rfl, rfl, rfl, rfl, rfl, hi, HS, HR, HX⟩ := hrel
  by_cases hlt : i < n
  ·obtain ⟨ad, p, hA, hab, hp, hcp⟩ := (HZ.out.prs.ex2 HX.out).1.get (k := i) (by rw [HLN.out]; exact hlt)
   subst hA
   obtain ⟨p1, pf, p2⟩ := p
   have q0 : wr.cell? (ad.add (i * 3)) = some (.int .i64 p1) := hcp 0 _ rfl
   have q1 : wr.cell? ⟨(ad.add (i * 3)).block, (ad.add (i * 3)).off + 1, none⟩ = some (.bool pf) := ev_cells (j := 0) (hcp 1 _ rfl)
   have q2 : wr.cell? ⟨(ad.add (i * 3)).block, (ad.add (i * 3)).off + 2, none⟩ = some (.int .i64 p2) := ev_cells (j := 1) (hcp 2 _ rfl)
   have HPF := Lib.hid (show twF R i = pf by rw [twF_at hp])
   have HSN := Lib.hid (show solG R.es twW (twF R) (n + 1) (n - (i + 1) + 1) i q = SOL by rw [show n - (i + 1) + 1 = n - i by omega]; exact HS.out)
   have b1 : (i : Int) < (n : Int) := by omega
   have hbx := box_below wr (.cells #[.int .i64 p1, .bool pf, .int .i64 p2] 59)
   have kb : Blk (wr.alloc (.cells #[.int .i64 p1, .bool pf, .int .i64 p2] 59)) wr.heap.size 59 [.int .i64 p1, .bool pf, .int .i64 p2] := Blk.new _ _ [_, _, _]
   have HRD := Lib.hid (HR.out.below hbx)
   have HXD := Lib.hid (HX.out.trans (.below hbx))
   have hbn : rb < wr.heap.size ∧ sb < wr.heap.size := ⟨HR.out.rk.lt, HR.out.st.lt⟩
   clear hcp hp hbx hab HS
   go_upto_region 4 with fail
   obtain ⟨bx, hbe⟩ : ∃ b, wr.heap.size = b := ⟨_, rfl⟩
   rw [hbe] at kb hbn ⊢
   generalize wr.alloc (.cells #[.int .i64 p1, .bool pf, .int .i64 p2] 59) = wd at HRD HXD kb ⊢
   clear hbe q0 q1 q2
   have g1 := kb.cell (j := 1) rfl
   have HKB := Lib.hid kb
   clear kb
   cases pf with
   | true =>
    have HCALL := Lib.hid (HRANK.out i q wd (HZ.out.ex2 HXD.out) HRD.out hlt)
    go_wp2_with fail
    refine HCALL.out.mono ?_
    rintro _ we ⟨b, q5, hb5, rfl, hr5, hx5⟩
    have HX5 := Lib.hid (HXD.out.trans hx5)
    have HR5 := Lib.hid hr5
    have HB5 := Lib.hid hb5
    have k5 := HKB.out.ex2 hx5 (by dsimp only; omega) (by dsimp only; omega)
    clear g1 HCALL HRD HXD HKB hx5 hr5 hb5
    cases b with
    | false =>
     have HDN := Lib.hid (show diaS R = none by
      have h9 := HSN.out
      rw [solG_bad HPF.out HB5.out] at h9
      rw [HDI.out, ← h9]; rfl)
     go_wp2
     refine bodyPost_ret (v := .tuple #[.int .i64 0, .bool false]) (by simp [results, Try.results68, go_sem]) rfl ?_
     exact ⟨q5, HR5.out, HX5.out, .inl ⟨HDN.out, rfl⟩⟩
    | true =>
     have HS5 := Lib.hid (HSN.out.symm.trans (solG_yes HPF.out HB5.out)).symm
     have g1 := k5.cell (j := 1) rfl
     clear k5
     go_wp2
     go_roundw
     case rel => exact ⟨i + 1, _, _, q5, by go_num, rfl, rfl, rfl, rfl, by omega, Lib.hid HS5, HR5, HX5⟩
     case measure => simp [intOf]; omega
   | false =>
    have a3 : wd.cell? ⟨tb, 3, none⟩ = some (.slice (some ⟨rb, 0, none⟩) n n) := (HZ.out.ex2 HXD.out).blk.cell (j := 3) rfl
    have hq := HRD.out.q.low hlt
    have hn7 := HRD.out.rk' hlt (-1) hq HZ.out.n3
    dsimp only at hn7
    have hcell := HRD.out.rk.cell (iv_gI (l := q.1) (i := i) (by rw [HRD.out.q.l1]; exact hlt))
    have f0 := HRD.out.rk.free i
    have l0 := HRD.out.rk.lt
    dsimp only at f0 l0 hcell
    have HR7 := Lib.hid hn7.1
    have HX7 := Lib.hid (HXD.out.trans hn7.2)
    have HS7 := Lib.hid (HSN.out.symm.trans (solG_no HPF.out)).symm
    clear hq hn7
    go_wp2
    go_roundw
    case rel => exact ⟨i + 1, _, _, _, by go_num, rfl, rfl, rfl, rfl, by omega, Lib.hid HS7, HR7, HX7⟩
    case measure => simp [intOf]; omega
  ·obtain rfl : i = n := by omega
   have b1 : ¬ (i : Int) < (i : Int) := by omega
   have hS : SOL = (true, q) := by
    have h9 := HS.out
    rw [Nat.sub_self] at h9
    rw [← h9]; rfl
   have HDB := Lib.hid (show diaS R = some (q.1, diaB R q.1) by rw [HDI.out, hS]; rfl)
   have a1 : wr.cell? ⟨tb, 1, none⟩ = some (.slice A2 m c2) := (HZ.out.ex2 HX.out).blk.cell (j := 1) rfl
   have HBD0 := Lib.hid (Below.refl wr.heap.size wr)
   obtain ⟨wo, hwo⟩ : ∃ wo : World, wo = wr := ⟨_, rfl⟩
   rw [← hwo] at HR HX a1 HBD0 ⊢
   clear hwo hS HS
   go_wp2
   clear a1
   go_loopw [2, 7, 41] (fun s2 s7 s41 wr => ∃ (k : Nat) (bo : Int) (v7 : Value), s41 = .int .i64 k ∧ s2 = .int .i64 bo ∧ s7 = v7 ∧ k ≤ m ∧ Hid ((R.es.take k).foldl (diaX R q.1) 0 = bo) ∧ Hid (Below wo.heap.size wo wr)) (fun _ _ s41 _ => m - (intOf s41).toNat)
   case atStart => exact ⟨0, 0, _, rfl, rfl, rfl, Nat.zero_le _, Lib.hid rfl, HBD0⟩
   case round =>
    clear HBD0
    obtain ⟨k, bo, v7, rfl, rfl, rfl, hk, HBO, HBD⟩ := hrel
    by_cases hlt2 : k < m
    ·obtain ⟨x, hx⟩ : ∃ x, R.es[k]? = some x := ⟨_, List.getElem?_eq_getElem (by rw [HLM.out]; exact hlt2)⟩
     have hxr := HED.out x (List.mem_of_getElem? hx)
     obtain ⟨jf, hjf⟩ : ∃ j : Nat, x.f = (j : Int) := ⟨x.f.toNat, by omega⟩
     obtain ⟨jt, hjt⟩ : ∃ j : Nat, x.t = (j : Int) := ⟨x.t.toNat, by omega⟩
     have hjfn : jf < i := by omega
     have hjtn : jt < i := by omega
     have HXW := Lib.hid (HX.out.trans (Ex2.below (r := rb) (s := sb) HBD.out))
     have hz2 := HZ.out.ex2 HXW.out
     obtain ⟨ad, x', hA, hab, hx', hcx⟩ := hz2.mvs.1.get (k := k) (by rw [HLM.out]; exact hlt2)
     obtain rfl : x' = x := by rw [hx] at hx'; injection hx' with e; exact e.symm
     subst hA
     obtain ⟨ad1, p, hA1, hab1, hp, hcp⟩ := hz2.prs.1.get (k := jf) (by rw [HLN.out]; exact hjfn)
     subst hA1
     obtain ⟨ad1', u, hA1', hab2, hu, hcu⟩ := hz2.prs.1.get (k := jt) (by rw [HLN.out]; exact hjtn)
     injection hA1' with hA1'
     subst hA1'
     obtain ⟨x, hxx⟩ : ∃ x, x = x' := ⟨_, rfl⟩
     subst hxx
     obtain ⟨p1, pf, p2⟩ := p
     obtain ⟨u1, uf, u2⟩ := u
     obtain ⟨ev, hev⟩ : ∃ q, x.e / 3 = q := ⟨_, rfl⟩
     obtain ⟨sd, hsd⟩ : ∃ q, x.e % 3 = q := ⟨_, rfl⟩
     have HPF := Lib.hid (show twF R x.f.toNat = pf by rw [hjf, Int.toNat_natCast, twF_at hp])
     have HUF := Lib.hid (show twF R x.t.toNat = uf by rw [hjt, Int.toNat_natCast, twF_at hu])
     have HXK := Lib.hid hx
     have HXT := Lib.hid hjt
     have q0 : wr.cell? (ad.add (k * 4)) = some (.int .i64 (jf : Int)) := by rw [← hjf]; exact hcx 0 _ rfl
     have q1 : wr.cell? ⟨(ad.add (k * 4)).block, (ad.add (k * 4)).off + 1, none⟩ = some (.int .i64 ev) := by rw [← hev]; exact ev_cells (j := 0) (hcx 1 _ rfl)
     have q2 : wr.cell? ⟨(ad.add (k * 4)).block, (ad.add (k * 4)).off + 2, none⟩ = some (.int .i64 sd) := by rw [← hsd]; exact ev_cells (j := 1) (hcx 2 _ rfl)
     have q3 : wr.cell? ⟨(ad.add (k * 4)).block, (ad.add (k * 4)).off + 3, none⟩ = some (.int .i64 (jt : Int)) := by rw [← hjt]; exact ev_cells (j := 2) (hcx 3 _ rfl)
     have HCP := Lib.hid (show wr.cell? ⟨(ad1.add (jf * 3)).block, (ad1.add (jf * 3)).off + 1, none⟩ = some (.bool pf) ∧ (ad1.add (jf * 3)).block < wr.heap.size from ⟨ev_cells (j := 0) (hcp 1 _ rfl), by rw [block_of_add]; exact hab1⟩)
     have HCU := Lib.hid (show wr.cell? ⟨(ad1.add (jt * 3)).block, (ad1.add (jt * 3)).off + 1, none⟩ = some (.bool uf) ∧ (ad1.add (jt * 3)).block < wr.heap.size from ⟨ev_cells (j := 0) (hcu 1 _ rfl), by rw [block_of_add]; exact hab1⟩)
     have b2 : (k : Int) < (m : Int) := by omega
     have b3 : (jf : Int) < (i : Int) := by omega
     have b4 : (jt : Int) < (i : Int) := by omega
     have hbx := box_below wr (.cells #[.int .i64 (jf : Int), .int .i64 ev, .int .i64 sd, .int .i64 (jt : Int)] 62)
     have kb : Blk (wr.alloc (.cells #[.int .i64 (jf : Int), .int .i64 ev, .int .i64 sd, .int .i64 (jt : Int)] 62)) wr.heap.size 62 [.int .i64 (jf : Int), .int .i64 ev, .int .i64 sd, .int .i64 (jt : Int)] := Blk.new _ _ [_, _, _, _]
     have HBX := Lib.hid hbx
     clear hx hx' hcx hbx hxr hjf hjt hev hsd hab hab1 hab2 hp hu hcp hcu hz2
     go_upto_region 12 with fail
     have HA := Lib.hid (fun (W : World) (hW : Below (wr.alloc (.cells #[.int .i64 (jf : Int), .int .i64 ev, .int .i64 sd, .int .i64 (jt : Int)] 62)).heap.size (wr.alloc (.cells #[.int .i64 (jf : Int), .int .i64 ev, .int .i64 sd, .int .i64 (jt : Int)] 62)) W) => show W.cell? ⟨tb, 0, none⟩ = some (.slice (some ad1) i c1) ∧ W.cell? ⟨wr.heap.size, 0, none⟩ = some (.int .i64 (jf : Int)) ∧ W.cell? ⟨wr.heap.size, 3, none⟩ = some (.int .i64 (jt : Int)) ∧ W.cell? ⟨(ad1.add (jf * 3)).block, (ad1.add (jf * 3)).off + 1, none⟩ = some (.bool pf) ∧ W.cell? ⟨(ad1.add (jt * 3)).block, (ad1.add (jt * 3)).off + 1, none⟩ = some (.bool uf) from by
      have hWr : Below wr.heap.size wr W := HBX.out.trans (hW.mono HBX.out.size)
      have hk := kb.below hW kb.lt
      exact ⟨(HZ.out.ex2 (HXW.out.trans (.below hWr))).blk.cell (j := 0) rfl, hk.cell (j := 0) rfl, hk.cell (j := 3) rfl, (hWr.cell (p := ⟨(ad1.add (jf * 3)).block, (ad1.add (jf * 3)).off + 1, none⟩) HCP.out.2).trans HCP.out.1, (hWr.cell (p := ⟨(ad1.add (jt * 3)).block, (ad1.add (jt * 3)).off + 1, none⟩) HCU.out.2).trans HCU.out.1⟩)
     have HKB := Lib.hid kb
     have HBE := Lib.hid (HBD.out.trans (HBX.out.mono HBD.out.size))
     clear kb q0 q1 q2 q3
     generalize wr.heap.size = bx at HA HKB ⊢
     generalize wr.alloc (.cells #[.int .i64 (jf : Int), .int .i64 ev, .int .i64 sd, .int .i64 (jt : Int)] 62) = we at HA HKB HBE ⊢
     refine wp_region_U (fun W => W.cell? ⟨tb, 0, none⟩ = some (.slice (some ad1) i c1) ∧ W.cell? ⟨bx, 0, none⟩ = some (.int .i64 (jf : Int)) ∧ W.cell? ⟨bx, 3, none⟩ = some (.int .i64 (jt : Int)) ∧ W.cell? ⟨(ad1.add (jf * 3)).block, (ad1.add (jf * 3)).off + 1, none⟩ = some (.bool pf) ∧ W.cell? ⟨(ad1.add (jt * 3)).block, (ad1.add (jt * 3)).off + 1, none⟩ = some (.bool uf)) (fun _ => True) 21 (by kernel_rfl) ?_
     change anyU _ _ _ _ _ _ _ 21 _ _ _
     have hB0 : True := trivial
     have HBY := Lib.hid (below_dr we)
     generalize we.drew = wd at HBY ⊢
     have hA0 := HA.out wd HBY.out
     (refine uA 0 ?_ rfl hA0 hB0 (fun W hA => ?_) ?_; rotate_left; (· (go_simp; try with_reducible rfl)); refine uA 1 ?_ rfl hA0 hB0 (fun W hA => ?_) ?_; rotate_left; (· (go_simp; try with_reducible rfl)); refine uA 2 ?_ rfl hA0 hB0 (fun W hA => ?_) ?_; rotate_left; (· (go_simp; try with_reducible rfl)); (try simp only [Act.put, List.setIfInBounds_toArray, List.set_cons_zero, List.set_cons_succ]))
     (refine uA 3 ?_ rfl hA0 hB0 (fun W hA => ?_) ?_; rotate_left; (· (obtain ⟨h0, h1, h2, h3, h4⟩ := hA; go_simp; try with_reducible rfl)); (try simp only [Act.put, List.setIfInBounds_toArray, List.set_cons_zero, List.set_cons_succ]))
     (refine uA 4 ?_ rfl hA0 hB0 (fun W hA => ?_) ?_; rotate_left; (· (go_simp; try with_reducible rfl)); (try simp only [Act.put, List.setIfInBounds_toArray, List.set_cons_zero, List.set_cons_succ]))
     (refine uA 5 ?_ rfl hA0 hB0 (fun W hA => ?_) ?_; rotate_left; (· (obtain ⟨h0, h1, h2, h3, h4⟩ := hA; go_simp; try with_reducible rfl)); (try simp only [Act.put, List.setIfInBounds_toArray, List.set_cons_zero, List.set_cons_succ]))
     (refine uA 6 ?_ rfl hA0 hB0 (fun W hA => ?_) ?_; rotate_left; (· (go_simp; try with_reducible rfl)); refine uA 7 ?_ rfl hA0 hB0 (fun W hA => ?_) ?_; rotate_left; (· (go_simp; try with_reducible rfl)); (try simp only [Act.put, List.setIfInBounds_toArray, List.set_cons_zero, List.set_cons_succ]))
     (refine uA 8 ?_ rfl hA0 hB0 (fun W hA => ?_) ?_; rotate_left; (· (obtain ⟨h0, h1, h2, h3, h4⟩ := hA; go_simp; try with_reducible rfl)); (try simp only [Act.put, List.setIfInBounds_toArray, List.set_cons_zero, List.set_cons_succ]))
     cases pf with
     | true =>
      have HBN := Lib.hid (show (R.es.take (k + 1)).foldl (diaX R q.1) 0 = bo by
       rw [diaX_at HXK.out, HBO.out]
       unfold diaX
       rw [if_neg (by rw [HPF.out]; simp)])
      (refine uA 9 ?_ rfl hA0 hB0 (fun W hA => ?_) ?_; rotate_left; (· (go_simp; try with_reducible rfl)); refine uA 10 ?_ rfl hA0 hB0 (fun W hA => ?_) ?_; rotate_left; (· (go_simp; try with_reducible rfl)); (try simp only [Act.put, List.setIfInBounds_toArray, List.set_cons_zero, List.set_cons_succ]))
      (refine uS 11 rfl hA0 hB0 ?_; refine uS 12 rfl hA0 hB0 ?_; refine uS 13 rfl hA0 hB0 ?_; (try simp only [Act.put, List.setIfInBounds_toArray, List.set_cons_zero, List.set_cons_succ]))
      (refine uS 14 rfl hA0 hB0 ?_; refine uS 15 rfl hA0 hB0 ?_; refine uS 16 rfl hA0 hB0 ?_; (try simp only [Act.put, List.setIfInBounds_toArray, List.set_cons_zero, List.set_cons_succ]))
      (refine uS 17 rfl hA0 hB0 ?_; refine uS 18 rfl hA0 hB0 ?_; refine uS 19 rfl hA0 hB0 ?_; (try simp only [Act.put, List.setIfInBounds_toArray, List.set_cons_zero, List.set_cons_succ]))
      (refine uA 20 ?_ rfl hA0 hB0 (fun W hA => ?_) ?_; rotate_left; (· (go_simp; try with_reducible rfl)); (try simp only [Act.put, List.setIfInBounds_toArray, List.set_cons_zero, List.set_cons_succ]))
      refine anyU_done (by kernel_rfl) ?_ _
      clear hA0
      have HBF := Lib.hid (HBE.out.trans (HBY.out.mono HBE.out.size))
      go_wp2
      go_roundw
      case rel => exact ⟨k + 1, bo, _, by go_num, rfl, rfl, by omega, HBN, HBF⟩
      case measure => simp [intOf]; omega
     | false =>
      (refine uA 9 ?_ rfl hA0 hB0 (fun W hA => ?_) ?_; rotate_left; (· (go_simp; try with_reducible rfl)); refine uA 10 ?_ rfl hA0 hB0 (fun W hA => ?_) ?_; rotate_left; (· (go_simp; try with_reducible rfl)); refine uA 11 ?_ rfl hA0 hB0 (fun W hA => ?_) ?_; rotate_left; (· (go_simp; try with_reducible rfl)); refine uA 12 ?_ rfl hA0 hB0 (fun W hA => ?_) ?_; rotate_left; (· (go_simp; try with_reducible rfl)); refine uA 13 ?_ rfl hA0 hB0 (fun W hA => ?_) ?_; rotate_left; (· (go_simp; try with_reducible rfl)); (try simp only [Act.put, List.setIfInBounds_toArray, List.set_cons_zero, List.set_cons_succ]))
      (refine uA 14 ?_ rfl hA0 hB0 (fun W hA => ?_) ?_; rotate_left; (· (obtain ⟨h0, h1, h2, h3, h4⟩ := hA; go_simp; try with_reducible rfl)); (try simp only [Act.put, List.setIfInBounds_toArray, List.set_cons_zero, List.set_cons_succ]))
      (refine uA 15 ?_ rfl hA0 hB0 (fun W hA => ?_) ?_; rotate_left; (· (go_simp; try with_reducible rfl)); (try simp only [Act.put, List.setIfInBounds_toArray, List.set_cons_zero, List.set_cons_succ]))
      (refine uA 16 ?_ rfl hA0 hB0 (fun W hA => ?_) ?_; rotate_left; (· (obtain ⟨h0, h1, h2, h3, h4⟩ := hA; go_simp; try with_reducible rfl)); (try simp only [Act.put, List.setIfInBounds_toArray, List.set_cons_zero, List.set_cons_succ]))
      (refine uA 17 ?_ rfl hA0 hB0 (fun W hA => ?_) ?_; rotate_left; (· (go_simp; try with_reducible rfl)); refine uA 18 ?_ rfl hA0 hB0 (fun W hA => ?_) ?_; rotate_left; (· (go_simp; try with_reducible rfl)); (try simp only [Act.put, List.setIfInBounds_toArray, List.set_cons_zero, List.set_cons_succ]))
      (refine uA 19 ?_ rfl hA0 hB0 (fun W hA => ?_) ?_; rotate_left; (· (obtain ⟨h0, h1, h2, h3, h4⟩ := hA; go_simp; try with_reducible rfl)); (try simp only [Act.put, List.setIfInBounds_toArray, List.set_cons_zero, List.set_cons_succ]))
      (refine uA 20 ?_ rfl hA0 hB0 (fun W hA => ?_) ?_; rotate_left; (· (go_simp; try with_reducible rfl)); (try simp only [Act.put, List.setIfInBounds_toArray, List.set_cons_zero, List.set_cons_succ]))
      refine anyU_done (by kernel_rfl) ?_ _
      clear hA0
      have HBF := Lib.hid (HBE.out.trans (HBY.out.mono HBE.out.size))
      cases uf with
      | false =>
       have HBN := Lib.hid (show (R.es.take (k + 1)).foldl (diaX R q.1) 0 = bo by
        rw [diaX_at HXK.out, HBO.out]
        unfold diaX
        rw [if_neg (by rw [HUF.out]; simp)])
       go_wp2
       go_roundw
       case rel => exact ⟨k + 1, bo, _, by go_num, rfl, rfl, by omega, HBN, HBF⟩
       case measure => simp [intOf]; omega
      | true =>
       obtain ⟨rt, hrt⟩ : ∃ r, gI q.1 (jt : Int) = r := ⟨_, rfl⟩
       have HBN := Lib.hid (show (R.es.take (k + 1)).foldl (diaX R q.1) 0 = max bo (rt + 1) by
        rw [diaX_at HXK.out, HBO.out]
        unfold diaX
        rw [if_pos ⟨HPF.out, HUF.out⟩, HXT.out, hrt])
       have hle := HR.out.q.le
       have hbt := HR.out.q.any (jt : Int) (by omega) (by dsimp only; omega)
       rw [hrt] at hbt
       dsimp only at hle hbt
       have hbt1 : -1 ≤ rt := hbt.1
       have hbt2 : rt ≤ 5000 := by have := hbt.2; omega
       have HRT := Lib.hid hrt
       have hwr : IntKind.i64.wrap (rt + 1) = rt + 1 := IntWalk.i64_in _ (by omega)
       clear hle hbt hrt
       go_upto_region 13 with fail
       refine wp_region_U (fun W => W.cell? ⟨tb, 3, none⟩ = some (.slice (some ⟨rb, 0, none⟩) i i) ∧ W.cell? ⟨bx, 3, none⟩ = some (.int .i64 (jt : Int)) ∧ W.cell? ⟨rb, jt, none⟩ = some (.int .i64 rt)) (fun _ => True) 12 (by kernel_rfl) ?_
       change anyU _ _ _ _ _ _ _ 12 _ _ _
       have HBZ := Lib.hid (HBY.out.trans ((below_dr wd).mono HBY.out.size))
       generalize wd.drew = wf at HBZ ⊢
       have HBF2 := Lib.hid (HBE.out.trans (HBZ.out.mono HBE.out.size))
       have hA0 : wf.cell? ⟨tb, 3, none⟩ = some (.slice (some ⟨rb, 0, none⟩) i i) ∧ wf.cell? ⟨bx, 3, none⟩ = some (.int .i64 (jt : Int)) ∧ wf.cell? ⟨rb, jt, none⟩ = some (.int .i64 rt) := by
        refine ⟨(HZ.out.ex2 (HX.out.trans (.below HBF2.out))).blk.cell (j := 3) rfl, (HKB.out.below HBZ.out HKB.out.lt).cell (j := 3) rfl, ?_⟩
        rw [← HRT.out]
        exact (HR.out.rk.below HBF2.out HR.out.rk.lt).cell (iv_gI (by rw [HR.out.q.l1]; exact hjtn))
       (refine uA 0 ?_ rfl hA0 hB0 (fun W hA => ?_) ?_; rotate_left; (· (go_simp; try with_reducible rfl)); refine uA 1 ?_ rfl hA0 hB0 (fun W hA => ?_) ?_; rotate_left; (· (go_simp; try with_reducible rfl)); refine uA 2 ?_ rfl hA0 hB0 (fun W hA => ?_) ?_; rotate_left; (· (go_simp; try with_reducible rfl)); refine uA 3 ?_ rfl hA0 hB0 (fun W hA => ?_) ?_; rotate_left; (· (go_simp; try with_reducible rfl)); (try simp only [Act.put, List.setIfInBounds_toArray, List.set_cons_zero, List.set_cons_succ]))
       (refine uA 4 ?_ rfl hA0 hB0 (fun W hA => ?_) ?_; rotate_left; (· (obtain ⟨h0, h1, h2⟩ := hA; go_simp; try with_reducible rfl)); (try simp only [Act.put, List.setIfInBounds_toArray, List.set_cons_zero, List.set_cons_succ]))
       (refine uA 5 ?_ rfl hA0 hB0 (fun W hA => ?_) ?_; rotate_left; (· (go_simp; try with_reducible rfl)); (try simp only [Act.put, List.setIfInBounds_toArray, List.set_cons_zero, List.set_cons_succ]))
       (refine uA 6 ?_ rfl hA0 hB0 (fun W hA => ?_) ?_; rotate_left; (· (obtain ⟨h0, h1, h2⟩ := hA; go_simp; try with_reducible rfl)); (try simp only [Act.put, List.setIfInBounds_toArray, List.set_cons_zero, List.set_cons_succ]))
       (refine uA 7 ?_ rfl hA0 hB0 (fun W hA => ?_) ?_; rotate_left; (· (go_simp; try with_reducible rfl)); (try simp only [Act.put, List.setIfInBounds_toArray, List.set_cons_zero, List.set_cons_succ]))
       (refine uA 8 ?_ rfl hA0 hB0 (fun W hA => ?_) ?_; rotate_left; (· (obtain ⟨h0, h1, h2⟩ := hA; go_simp; try with_reducible rfl)); (try simp only [Act.put, List.setIfInBounds_toArray, List.set_cons_zero, List.set_cons_succ]))
       (refine uA 9 ?_ rfl hA0 hB0 (fun W hA => ?_) ?_; rotate_left; (· (go_simp; try with_reducible rfl)); refine uA 10 ?_ rfl hA0 hB0 (fun W hA => ?_) ?_; rotate_left; (· (go_simp; try with_reducible rfl)); refine uA 11 ?_ rfl hA0 hB0 (fun W hA => ?_) ?_; rotate_left; (· (go_simp; try with_reducible rfl)); (try simp only [Act.put, List.setIfInBounds_toArray, List.set_cons_zero, List.set_cons_succ]))
       refine anyU_done (by kernel_rfl) ?_ _
       clear hA0
       go_wp2
       go_roundw
       case rel => exact ⟨k + 1, _, _, by go_num, rfl, rfl, by omega, HBN, HBF2⟩
       case measure => simp [intOf]; omega
    ·obtain rfl : k = m := by omega
     have b2 : ¬ (k : Int) < (k : Int) := by omega
     have HBN := Lib.hid (show diaB R q.1 = bo by
      have h9 := HBO.out
      rw [List.take_of_length_le (by rw [HLM.out]; exact Nat.le_refl _)] at h9
      exact h9)
     have HX9 := Lib.hid (HX.out.trans (Ex2.below (r := rb) (s := sb) HBD.out))
     have HR9 := Lib.hid (HR.out.below HBD.out)
     go_wp2
     refine bodyPost_ret (v := .tuple #[.int .i64 bo, .bool true]) (by simp [results, Try.results68, go_sem]) rfl ?_
     exact ⟨q, HR9.out, HX9.out, .inr ⟨bo, by rw [HDB.out, HBN.out], rfl⟩⟩

/-- the least bound, and whether there is one -/
def bndS (R : Bs TwS) : Int := match diaS R with | some p => p.2 | none => 0
theorem own_iv {w : World} {base b : Nat} {l : List Int} (h : Blk w b 3 (iv l)) (hb : base ≤ b) (hl : l.length ≤ 1000000) : w.ownsRow base 3 1 (.slice (some ⟨b, 0, none⟩) l.length l.length) l.length (iv l) :=
 ⟨by simp [iv], .inr ⟨b, l.length, (iv l).toArray, rfl, hb, h, Nat.le_refl _, by unfold maxLen; omega, by simp [iv], by simp [iv, List.take_of_length_le]⟩⟩
set_option maxRecDepth 100000 in
set_option maxHeartbeats 6400000 in
theorem dm_Diagnosable_err (z : DV) (c r : Int) (w : World) (h : z.ok w w.heap.size) (hr : stlE z c = r) (h0 : r ≠ 0) :
  Calls Try.prog 24 #[.agg (dvc z).toArray, .int .i64 c] w fun e w' => e = .returned (.tuple #[.int .i64 0, .bool false, .int .i64 r]) ∧ Below w.heap.size w w' := by
 obtain ⟨⟨A, na, ca, M, nm, cm, E, ne, ce, a⟩, V, nv, cv, l⟩ := z
 have hb1 := box_below w (.cells #[.slice A na ca, .int .i64 a.st, .slice M nm cm, .slice E ne ce, .slice V nv cv] 37)
 obtain ⟨w1, hw1⟩ : ∃ w1, w1 = w.alloc (.cells #[.slice A na ca, .int .i64 a.st, .slice M nm cm, .slice E ne ce, .slice V nv cv] 37) := ⟨_, rfl⟩
 have kx : Blk w1 w.heap.size 37 [.slice A na ca, .int .i64 a.st, .slice M nm cm, .slice E ne ce, .slice V nv cv] := by rw [hw1]; exact Blk.new _ _ [_, _, _, _, _]
 rw [← hw1] at hb1
 have hok1 := (h.below hb1).more hb1.size
 have HC := Lib.hid (dm_open_err _ c r w1 hok1 hr h0)
 unfold dvc at HC ⊢
 dsimp only at HC ⊢
 obtain ⟨sv, hsv⟩ : ∃ s, a.st = s := ⟨_, rfl⟩
 rw [hsv] at hw1 HC kx ⊢
 have a0 := kx.cell (j := 0) rfl
 have a1 := kx.cell (j := 1) rfl
 have a2 := kx.cell (j := 2) rfl
 have a3 := kx.cell (j := 3) rfl
 have a4 := kx.cell (j := 4) rfl
 have HW1 := Lib.hid hw1; clear hw1
 have HB1 := Lib.hid hb1; clear hb1
 clear kx hok1
 have b0 : (r != 0) = true := by simpa using h0
 clear hsv hr h0 h
 go_enter Try.func24, Try.ntmps24
 go_wp2_with fail
 rw [← HW1.out]
 refine HC.out.mono ?_
 rintro e w2 ⟨rfl, hb2⟩
 have HB2 := Lib.hid (HB1.out.trans (hb2.mono HB1.out.size))
 clear a0 a1 a2 a3 a4 HC hb2
 go_wp2
 refine bodyPost_ret (v := .tuple #[.int .i64 0, .bool false, .int .i64 r]) (by simp [results, Try.results24, go_sem]) rfl ?_
 exact ⟨rfl, HB2.out⟩
set_option maxRecDepth 100000 in
set_option maxHeartbeats 6400000 in
theorem dm_Diagnosable_ok (z : DV) (c : Int) (w : World) (h : z.ok w w.heap.size) (hc : stlE z c = 0) (hs : z.x.a.st ≤ 40) (R : Bs TwS) (hR : twin z.m c = some R) (hed : EdR R.ts.length R.es) :
  Calls Try.prog 24 #[.agg (dvc z).toArray, .int .i64 c] w fun e w' => e = .returned (.tuple #[.int .i64 (bndS R), .bool (diaS R).isSome, .int .i64 0]) ∧ Below w.heap.size w w' := by
 obtain ⟨⟨A, na, ca, M, nm, cm, E, ne, ce, a⟩, V, nv, cv, l⟩ := z
 have hb1 := box_below w (.cells #[.slice A na ca, .int .i64 a.st, .slice M nm cm, .slice E ne ce, .slice V nv cv] 37)
 obtain ⟨w1, hw1⟩ : ∃ w1, w1 = w.alloc (.cells #[.slice A na ca, .int .i64 a.st, .slice M nm cm, .slice E ne ce, .slice V nv cv] 37) := ⟨_, rfl⟩
 have kx : Blk w1 w.heap.size 37 [.slice A na ca, .int .i64 a.st, .slice M nm cm, .slice E ne ce, .slice V nv cv] := by rw [hw1]; exact Blk.new _ _ [_, _, _, _, _]
 rw [← hw1] at hb1
 have hok1 := (h.below hb1).more hb1.size
 have HC := Lib.hid (dm_open_ok _ c w1 hok1 hc hs R hR hed)
 unfold dvc at HC ⊢
 dsimp only at HC ⊢
 obtain ⟨sv, hsv⟩ : ∃ s, a.st = s := ⟨_, rfl⟩
 rw [hsv] at hw1 HC kx ⊢
 have a0 := kx.cell (j := 0) rfl
 have a1 := kx.cell (j := 1) rfl
 have a2 := kx.cell (j := 2) rfl
 have a3 := kx.cell (j := 3) rfl
 have a4 := kx.cell (j := 4) rfl
 have HW1 := Lib.hid hw1; clear hw1
 have HB1 := Lib.hid hb1; clear hb1
 clear kx hok1
 have HED := Lib.hid hed
 clear hsv hc hs hR hed h
 go_enter Try.func24, Try.ntmps24
 go_wp2_with fail
 rw [← HW1.out]
 refine HC.out.mono ?_
 rintro e w2 ⟨T, rfl, hz, hrs, hg1, hg2, hb2, hn, hm⟩
 have HB2 := Lib.hid (HB1.out.trans (hb2.mono HB1.out.size))
 have HSO := Lib.hid (dm_solve T R HED.out w2 hz hrs hn hm)
 clear a0 a1 a2 a3 a4 HC hb2 hz hrs hn hm
 have hle := HB1.out.size
 go_wp2_with fail
 refine HSO.out.mono ?_
 rintro e w3 ⟨q, hq, hx, hres⟩
 have HB3 := Lib.hid (hx.toBelow HB2.out HB2.out.size (by omega) (by omega))
 clear HSO hx hq
 rcases hres with ⟨hd, rfl⟩ | ⟨b, hd, rfl⟩
 ·have HD := Lib.hid (show bndS R = 0 ∧ (diaS R).isSome = false by unfold bndS; rw [hd]; exact ⟨rfl, rfl⟩)
  clear hd
  go_wp2
  refine bodyPost_ret (v := .tuple #[.int .i64 0, .bool false, .int .i64 0]) (by simp [results, Try.results24, go_sem]) rfl ?_
  exact ⟨by rw [HD.out.1, HD.out.2], HB3.out⟩
 ·have HD := Lib.hid (show bndS R = b ∧ (diaS R).isSome = true by unfold bndS; rw [hd]; exact ⟨rfl, rfl⟩)
  clear hd
  go_wp2
  refine bodyPost_ret (v := .tuple #[.int .i64 b, .bool true, .int .i64 0]) (by simp [results, Try.results24, go_sem]) rfl ?_
  exact ⟨by rw [HD.out.1, HD.out.2], HB3.out⟩
/-- what Ranks returns -/
def RetRk (o : Option (List Int)) (w : World) (e : Ending) (w' : World) : Prop := Below w.heap.size w w' ∧ match o with
 | none => e = .returned (.tuple #[.slice none 0 0, .int .i64 26])
 | some l => ∃ v, e = .returned (.tuple #[v, .int .i64 0]) ∧ w'.ownsRow w.heap.size 3 1 v l.length (iv l)
set_option maxRecDepth 100000 in
set_option maxHeartbeats 6400000 in
theorem dm_Ranks_ok (z : DV) (c : Int) (w : World) (h : z.ok w w.heap.size) (hc : stlE z c = 0) (hs : z.x.a.st ≤ 40) (R : Bs TwS) (hR : twin z.m c = some R) (hed : EdR R.ts.length R.es) :
  Calls Try.prog 40 #[.agg (dvc z).toArray, .int .i64 c] w (RetRk ((diaS R).map Prod.fst) w) := by
 obtain ⟨⟨A, na, ca, M, nm, cm, E, ne, ce, a⟩, V, nv, cv, l⟩ := z
 have hb1 := box_below w (.cells #[.slice A na ca, .int .i64 a.st, .slice M nm cm, .slice E ne ce, .slice V nv cv] 37)
 obtain ⟨w1, hw1⟩ : ∃ w1, w1 = w.alloc (.cells #[.slice A na ca, .int .i64 a.st, .slice M nm cm, .slice E ne ce, .slice V nv cv] 37) := ⟨_, rfl⟩
 have kx : Blk w1 w.heap.size 37 [.slice A na ca, .int .i64 a.st, .slice M nm cm, .slice E ne ce, .slice V nv cv] := by rw [hw1]; exact Blk.new _ _ [_, _, _, _, _]
 rw [← hw1] at hb1
 have hok1 := (h.below hb1).more hb1.size
 have HC := Lib.hid (dm_open_ok _ c w1 hok1 hc hs R hR hed)
 unfold dvc at HC ⊢
 dsimp only at HC ⊢
 obtain ⟨sv, hsv⟩ : ∃ s, a.st = s := ⟨_, rfl⟩
 rw [hsv] at hw1 HC kx ⊢
 have a0 := kx.cell (j := 0) rfl
 have a1 := kx.cell (j := 1) rfl
 have a2 := kx.cell (j := 2) rfl
 have a3 := kx.cell (j := 3) rfl
 have a4 := kx.cell (j := 4) rfl
 have HW1 := Lib.hid hw1; clear hw1
 have HB1 := Lib.hid hb1; clear hb1
 clear kx hok1
 have HED := Lib.hid hed
 clear hsv hc hs hR hed h
 go_enter Try.func40, Try.ntmps40
 go_wp2_with fail
 rw [← HW1.out]
 refine HC.out.mono ?_
 rintro e w2 ⟨T, rfl, hz, hrs, hg1, hg2, hb2, hn, hm⟩
 have HB2 := Lib.hid (HB1.out.trans (hb2.mono HB1.out.size))
 have HSO := Lib.hid (dm_solve T R HED.out w2 hz hrs hn hm)
 have HZ := Lib.hid hz
 clear a0 a1 a2 a3 a4 HC hb2 hz hrs hm
 have hle := HB1.out.size
 go_wp2_with fail
 refine HSO.out.mono ?_
 rintro e w3 ⟨q, hq, hx, hres⟩
 have HB3 := Lib.hid (hx.toBelow HB2.out HB2.out.size (by omega) (by omega))
 have HZ3 := Lib.hid (HZ.out.ex2 hx)
 have HQ := Lib.hid hq
 have hrb : w.heap.size ≤ T.rb := by omega
 clear HSO hx hq
 rcases hres with ⟨hd, rfl⟩ | ⟨b, hd, rfl⟩
 ·have HD := Lib.hid hd
  clear hd
  go_wp2
  refine bodyPost_ret (v := .tuple #[.slice none 0 0, .int .i64 26]) (by simp [results, Try.results40, go_sem]) rfl ?_
  unfold RetRk
  rw [HD.out]
  exact ⟨HB3.out, rfl⟩
 ·have HD := Lib.hid hd
  have a3 : w3.cell? ⟨T.tb, 3, none⟩ = some (.slice (some ⟨T.rb, 0, none⟩) T.n T.n) := HZ3.out.blk.cell (j := 3) rfl
  clear hd
  go_wp2
  refine bodyPost_ret (v := .tuple #[.slice (some ⟨T.rb, 0, none⟩) T.n T.n, .int .i64 0]) (by simp [results, Try.results40, go_sem]) rfl ?_
  unfold RetRk
  rw [HD.out]
  refine ⟨HB3.out, _, rfl, ?_⟩
  have := own_iv HQ.out.rk hrb (by rw [HQ.out.q.l1]; omega)
  rw [HQ.out.q.l1] at this
  show w3.ownsRow w.heap.size 3 1 _ q.1.length (iv q.1)
  rw [HQ.out.q.l1]
  exact this
end Go.Proofs.Ytddhaidimadliaa
