/- Walks: ref03.Canonical. -/
import Derived.Test.YtddhaidimadliaaGa
import Derived.Test.YtddhaidimadliaaTu
namespace Go.Proofs.Ytddhaidimadliaa
open Go.RowKit Go

set_option maxRecDepth 100000 in
set_option maxHeartbeats 3200000 in
theorem ref_Canonical (A : Option Addr) (na ca : Nat) (M : Option Addr) (nm cm : Nat) (E : Option Addr) (ne ce : Nat) (a : Aut) (w : World) (h : AutR w w.heap.size A na ca M nm cm E ne ce a) (hw : WF a) :
  Calls Try.prog 88 #[.agg #[.slice A na ca, .int .i64 a.st, .slice M nm cm, .slice E ne ce]] w (RetA (canA a) w) := by
 have hB0 := (box_below w (.cells #[.slice A na ca, .int .i64 a.st, .slice M nm cm, .slice E ne ce] 34)).alloc (by simp) (.cells #[.slice none 0 0, .int .i64 0, .slice none 0 0, .slice none 0 0] 34)
 have hbx : Blk ((w.alloc (.cells #[.slice A na ca, .int .i64 a.st, .slice M nm cm, .slice E ne ce] 34)).alloc (.cells #[.slice none 0 0, .int .i64 0, .slice none 0 0, .slice none 0 0] 34)) w.heap.size 34 [.slice A na ca, .int .i64 a.st, .slice M nm cm, .slice E ne ce] := Blk.alc (Blk.new _ _ _) _
 have hrs : Blk ((w.alloc (.cells #[.slice A na ca, .int .i64 a.st, .slice M nm cm, .slice E ne ce] 34)).alloc (.cells #[.slice none 0 0, .int .i64 0, .slice none 0 0, .slice none 0 0] 34)) (w.heap.size + 1) 34 [.slice none 0 0, .int .i64 0, .slice none 0 0, .slice none 0 0] := by
  have := Blk.new (w.alloc (.cells #[.slice A na ca, .int .i64 a.st, .slice M nm cm, .slice E ne ce] 34)) 34 [.slice none 0 0, .int .i64 0, .slice none 0 0, .slice none 0 0]
  rwa [World.size_alloc] at this
 have hsz0 : ((w.alloc (.cells #[.slice A na ca, .int .i64 a.st, .slice M nm cm, .slice E ne ce] 34)).alloc (.cells #[.slice none 0 0, .int .i64 0, .slice none 0 0, .slice none 0 0] 34)).heap.size = w.heap.size + 2 := by simp
 have h1 : AutR ((w.alloc (.cells #[.slice A na ca, .int .i64 a.st, .slice M nm cm, .slice E ne ce] 34)).alloc (.cells #[.slice none 0 0, .int .i64 0, .slice none 0 0, .slice none 0 0] 34)) ((w.alloc (.cells #[.slice A na ca, .int .i64 a.st, .slice M nm cm, .slice E ne ce] 34)).alloc (.cells #[.slice none 0 0, .int .i64 0, .slice none 0 0, .slice none 0 0] 34)).heap.size A na ca M nm cm E ne ce a := (h.below hB0).more hB0.size
 have HF := Lib.hid (ref_Found A na ca M nm cm E ne ce a _ h1 hw)
 obtain ⟨w1, hw1⟩ : ∃ w1, w1 = ((w.alloc (.cells #[.slice A na ca, .int .i64 a.st, .slice M nm cm, .slice E ne ce] 34)).alloc (.cells #[.slice none 0 0, .int .i64 0, .slice none 0 0, .slice none 0 0] 34)) := ⟨_, rfl⟩
 have hla := h.la
 have hac := h.ac
 have hcA := h.cA
 have hlm := h.lm
 have hmc := h.mc
 have hcM := h.cM
 have hal := hw.al_le
 rw [hla] at hal
 have HLA := Lib.hid hla; clear hla
 have HLM := Lib.hid hlm; clear hlm
 have HH := Lib.hid h; clear h
 have HW := Lib.hid hw; clear hw
 rw [← hw1] at hB0 hbx hrs hsz0
 have HB0 := Lib.hid hB0; clear hB0
 have HBX := Lib.hid hbx; clear hbx
 have HRS := Lib.hid hrs; clear hrs
 have HS0 := Lib.hid hsz0; clear hsz0
 have HW1 := Lib.hid hw1; clear hw1
 clear h1
 go_enter Try.func88, Try.ntmps88
 go_wp2_with fail
 refine HF.out.mono ?_
 rw [← HW1.out]
 rintro e w2 ⟨F, cf, nf, l, rfl, hlf, hnf, hof, hfl, hb2⟩
 have c0 := (HBX.out.below hb2 HBX.out.lt).cell (j := 0) rfl
 have hB2 := HB0.out.trans (hb2.mono HB0.out.size)
 have HE := Lib.hid (ref_Empty A ca na a.al w2 HLA.out ((HH.out.below hB2).more hB2.size).ra (by omega))
 have l2 : w.heap.size < w2.heap.size := by have := hb2.size; have := HS0.out; omega
 have HB2 := Lib.hid hb2; clear hb2
 have HOF := Lib.hid hof; clear hof
 have HLF := Lib.hid hlf; clear hlf
 have HFL := Lib.hid hfl; clear hfl
 clear hB2 HF
 go_wp2_with fail
 refine HE.out.mono ?_
 rintro e w3 ⟨V, nv, cv, rfl, hlv, hov, hb3⟩
 have HB13 := Lib.hid (HB2.out.trans (hb3.mono HB2.out.size))
 have HOF3 := Lib.hid (own_below HOF.out hb3)
 have HOV := Lib.hid (own_base (base := w.heap.size + 2) hov (by have := HB2.out.size; have := HS0.out; omega))
 have HLV := Lib.hid hlv; clear hlv
 clear c0 l2 HE hb3 HOF HB2 hov
 go_wp2
 have HS := Lib.hid (show Bld w3 (w3.alloc (.cells #[.slice V nv cv, .int .i64 (nf : Int), .slice none 0 0, .slice none 0 0] 34)) (.slice V nv cv) (.int .i64 (nf : Int)) (.slice none 0 0) (.slice none 0 0) 0 0 (mksN (mkA a) l 0) (edsOf (stA a) a.al l 0) from Bld.start _ _ _)
 go_loopw [5] (fun s5 wr => ∃ (i km ke : Nat) (mv ev : Value), s5 = .int .i64 i ∧ i ≤ nf ∧ km ≤ i ∧ ke ≤ i * 32 ∧ Hid (Bld w3 wr (.slice V nv cv) (.int .i64 (nf : Int)) mv ev km ke (mksN (mkA a) l i) (edsOf (stA a) a.al l i))) (fun s5 _ => nf - (intOf s5).toNat)
 case atStart => exact ⟨0, 0, 0, _, _, rfl, Nat.zero_le _, by omega, by omega, HS⟩
 case round =>
  clear HS
  obtain ⟨i, km, ke, mv, ev, rfl, hin, hkm, hke, HS⟩ := hrel
  obtain ⟨MA, mc, rfl⟩ := own_shape HS.out.mrk
  have hBw := HB13.out.trans (HS.out.bel.mono HB13.out.size)
  have hbw := HBX.out.below hBw HBX.out.lt
  have c0 : wr.cell? ⟨w.heap.size, 0, none⟩ = some (.slice A na ca) := hbw.cell (j := 0) rfl
  have c1 : wr.cell? ⟨w.heap.size, 1, none⟩ = some (.int .i64 a.st) := hbw.cell (j := 1) rfl
  have c2 : wr.cell? ⟨w.heap.size, 2, none⟩ = some (.slice M nm cm) := hbw.cell (j := 2) rfl
  have c3 : wr.cell? ⟨w.heap.size, 3, none⟩ = some (.slice E ne ce) := hbw.cell (j := 3) rfl
  have hBz := HB0.out.trans (hBw.mono HB0.out.size)
  have hR := (HH.out.below hBz).more hBz.size
  have hF := RdI.of_own (own_below HOF3.out HS.out.bel)
  have hsz2 : w.heap.size < wr.heap.size := hbw.lt
  have hsz3 : w3.heap.size < wr.heap.size := HS.out.lt
  have hRa := (HH.out.below hBz).ra
  clear hBw hbw hBz
  by_cases hlt : i < nf
  ·obtain ⟨fd, t, e9, hfd, hxt, hfc⟩ := hF.at_ (k := i) (by have := HLF.out; omega)
   subst e9
   have b1 : (i : Int) < (nf : Int) := by omega
   have hcap := own_cap' HOF3.out
   obtain ⟨hcap1, hcap2⟩ := hcap
   have HMA := Lib.hid (show ∀ p : Nat, RdI (wr.drewN p) (wr.drewN p).heap.size M a.ma from fun p => hR.rm)
   obtain ⟨wo, rfl⟩ : ∃ wo : World, wo = wr := ⟨_, rfl⟩
   have HXT := Lib.hid hxt; clear hxt
   clear hR hF hRa
   cases hq : hasB a.ma t with
   | true =>
    have HQ := Lib.hid hq; clear hq
    go_wp2
    go_quiet ((go_at_call 117; refine quiet_eq (ref_has M cm nm a.ma t true _ HLM.out HQ.out (HMA.out _) hmc hcM)))
    have HS7 := Lib.hid (HS.out.quiet (below_drewN (Below.refl _ _) nq))
    have HMK2 := Lib.hid (show mksN (mkA a) l i ++ [(i : Int)] = mksN (mkA a) l (i + 1) by rw [mksN_yes HXT.out (show mkA a t = true from HQ.out)])
    have g2 : (wo.drewN nq).cell? ⟨w3.heap.size, 2, none⟩ = some (.slice MA km mc) := HS7.out.blk.cell (j := 2) rfl
    have hbs : w3.heap.size + 1 ≤ (wo.drewN nq).heap.size := HS7.out.lt
    clear HS c0 c1 c2 c3 hfc HMA
    go_wp2_with (at_builtin; refine wpList_pushA _ [.int .i64 (i : Int)] rfl (.tmp 30) (.tmp 32) 31 rfl (w3.heap.size + 1) 3 (.int .i64 0) 1 8 Try.underlying31 int_info rfl (by decide) rfl (.slice MA km mc) km _ rfl HS7.out.mrk rfl (fun u hu => by simp at hu; subst hu; rfl) (by omega) (by omega) hbs ?_; intro MA2 mc2 w8 ho8 hg8 hl8; have B8 := HS7.out.blk.kept hg8 (own_lt_ne HS7.out.mrk (Nat.lt_succ_self _)); have e8 : w8.cell? ⟨w3.heap.size, 2, none⟩ = some (.slice MA km mc) := B8.cell (j := 2) rfl; have f8 : w8.frozen? ⟨w3.heap.size, 2, none⟩ = false := B8.free 2; have l8 : w3.heap.size < w8.heap.size := B8.lt; have HS8 := Lib.hid (HS7.out.mark (i := (i : Int)) ho8 hg8); clear B8 ho8 hg8 hl8)
    have HS9 := Lib.hid (show Bld w3 _ (.slice V nv cv) (.int .i64 (nf : Int)) (.slice MA2 (km + 1) mc2) ev (km + 1) ke (mksN (mkA a) l i ++ [(i : Int)]) (edsOf (stA a) a.al l i ++ edRow (stA a) l i t (a.al.take 0)) from by
     have := HS8.out
     rw [show edsOf (stA a) a.al l i ++ edRow (stA a) l i t (a.al.take 0) = edsOf (stA a) a.al l i by simp [edRow]]
     exact this)
    go_loopw [6] (fun s6 wr => ∃ (j kf : Nat) (ev : Value), s6 = .int .i64 j ∧ j ≤ na ∧ kf ≤ i * 32 + j ∧ Hid (Bld w3 wr (.slice V nv cv) (.int .i64 (nf : Int)) (.slice MA2 (km + 1) mc2) ev (km + 1) kf (mksN (mkA a) l i ++ [(i : Int)]) (edsOf (stA a) a.al l i ++ edRow (stA a) l i t (a.al.take j)))) (fun s6 _ => na - (intOf s6).toNat)
    case atStart => exact ⟨0, ke, _, rfl, Nat.zero_le _, by omega, HS9⟩
    case round =>
     clear HS9
     obtain ⟨j, kf, ev, rfl, hj, hkf, HZ⟩ := hrel
     obtain ⟨EA, ec, rfl⟩ := own_shape HZ.out.edg
     have hBw := HB13.out.trans (HZ.out.bel.mono HB13.out.size)
     have hbw := HBX.out.below hBw HBX.out.lt
     have c0 : wr.cell? ⟨w.heap.size, 0, none⟩ = some (.slice A na ca) := hbw.cell (j := 0) rfl
     have c1 : wr.cell? ⟨w.heap.size, 1, none⟩ = some (.int .i64 a.st) := hbw.cell (j := 1) rfl
     have c2 : wr.cell? ⟨w.heap.size, 2, none⟩ = some (.slice M nm cm) := hbw.cell (j := 2) rfl
     have c3 : wr.cell? ⟨w.heap.size, 3, none⟩ = some (.slice E ne ce) := hbw.cell (j := 3) rfl
     have hBz := HB0.out.trans (hBw.mono HB0.out.size)
     have hR := (HH.out.below hBz).more hBz.size
     have hF := RdI.of_own (own_below HOF3.out HZ.out.bel)
     have hsz2 : w.heap.size < wr.heap.size := hbw.lt
     have hsz3 : w3.heap.size < wr.heap.size := HZ.out.lt
     have hRa := (HH.out.below hBz).ra
     clear hBw hbw hBz
     by_cases hjl : j < na
     ·obtain ⟨ad, v, hA, hvb, hve, hvc⟩ := hRa.at_ (k := j) (by have := HLA.out; omega)
      subst hA
      have b3 : (j : Int) < (na : Int) := by omega
      obtain ⟨fd', t', e9, hfd, ht', hfc⟩ := hF.at_ (k := i) (by have := HLF.out; omega)
      obtain rfl : fd = fd' := by injection e9
      have htt : t' = t := by rw [HXT.out] at ht'; injection ht' with ht'; exact ht'.symm
      subst htt
      obtain ⟨r, hr⟩ : ∃ r, nxt a t' v = r := ⟨_, rfl⟩
      have HSTEP := Lib.hid (fun (W : World) (hW : AutR W W.heap.size (some ad) na ca M nm cm E ne ce a) => ref_Step3 (some ad) na ca M nm cm E ne ce a t' v W hW)
      rw [hr] at HSTEP
      have HR := Lib.hid hR
      have HVE := Lib.hid hve; clear hve
      have HRR := Lib.hid hr; clear hr
      clear hR ht' hF hRa
      go_wp2
      go_region_held3 (fun w' => w'.cell? ⟨w.heap.size, 0, none⟩ = some (.slice (some ad) na ca) ∧ w'.cell? ⟨w.heap.size, 1, none⟩ = some (.int .i64 a.st) ∧ w'.cell? ⟨w.heap.size, 2, none⟩ = some (.slice M nm cm) ∧ w'.cell? ⟨w.heap.size, 3, none⟩ = some (.slice E ne ce) ∧ w'.cell? (fd.add i) = some (.int .i64 t') ∧ w'.cell? (ad.add j) = some (.int .i64 v)) (first | exact ⟨c0, c1, c2, c3, hfc, hvc⟩ | exact ⟨y0, y1, y2, y3, y4, y5⟩ | go_keep)
       (first | (go_at_call 118; (with_reducible refine (HSTEP.out _ ?_).mono ?_); exact HR.out.dr; rintro e wA ⟨rfl, hbA⟩; replace hbA : Below wr.heap.size wr wA := ⟨hbA.os, hbA.tape, hbA.output, hbA.size, hbA.block⟩; have y0 := (hbA.cell (p := ⟨w.heap.size, 0, none⟩) hsz2).trans c0; have y1 := (hbA.cell (p := ⟨w.heap.size, 1, none⟩) hsz2).trans c1; have y2 := (hbA.cell (p := ⟨w.heap.size, 2, none⟩) hsz2).trans c2; have y3 := (hbA.cell (p := ⟨w.heap.size, 3, none⟩) hsz2).trans c3; have y4 := (hbA.cell (p := fd.add i) (by rw [block_of_add]; exact hfd)).trans hfc; have y5 := (hbA.cell (p := ad.add j) (by rw [block_of_add]; exact Nat.lt_trans hvb hsz2)).trans hvc) | fail)
      have hbA2 : Below wr.heap.size wr wA := hbA
      have HZA := Lib.hid (HZ.out.quiet hbA2)
      have HFA := Lib.hid (RdI.of_own (own_below HOF3.out HZA.out.bel))
      have d0 : wA.cell? ⟨w.heap.size, 0, none⟩ = some (.slice (some ad) na ca) := y0
      have d5 : wA.cell? (ad.add j) = some (.int .i64 v) := y5
      have hszA : w.heap.size < wA.heap.size := by have := hbA2.size; omega
      clear y0 y1 y2 y3 y4 y5 c0 c1 c2 c3 hfc hvc HSTEP HR HZ hbA hbA2 hsz2 hsz3
      try clear hs
      by_cases hr0 : r < 0
      ·have e1 : decide (0 ≤ r) = false := decide_eq_false (by omega)
       have HZ2 := Lib.hid (show Bld w3 wA (.slice V nv cv) (.int .i64 (nf : Int)) (.slice MA2 (km + 1) mc2) (.slice EA kf ec) (km + 1) kf (mksN (mkA a) l i ++ [(i : Int)]) (edsOf (stA a) a.al l i ++ edRow (stA a) l i t' (a.al.take (j + 1))) from by rw [edRow_no HVE.out HRR.out hr0]; exact HZA.out)
       clear hr0 d0 d5
       go_wp2
       go_roundw
       case rel => exact ⟨j + 1, kf, _, by go_num, by omega, by omega, HZ2⟩
       case measure => simp [intOf]; omega
      ·have e1 : 0 ≤ r := by omega
       have HZ2 := Lib.hid (show Bld w3 wA.drew (.slice V nv cv) (.int .i64 (nf : Int)) (.slice MA2 (km + 1) mc2) (.slice EA kf ec) (km + 1) kf (mksN (mkA a) l i ++ [(i : Int)]) (edsOf (stA a) a.al l i ++ edRow (stA a) l i t' (a.al.take j)) from HZA.out.quiet (below_dr _))
       have HEQ := Lib.hid (edRow_yes (l := l) (i := i) HVE.out HRR.out e1)
       have f3 : wA.cell? ⟨w3.heap.size, 3, none⟩ = some (.slice EA kf ec) := HZA.out.blk.cell (j := 3) rfl
       have hsz4 : w3.heap.size < wA.heap.size := HZA.out.lt
       have HIX := Lib.hid (ref_index _ cf nf l r wA.drew HLF.out (by exact HFA.out) (own_cap' HOF3.out).1 (own_cap' HOF3.out).2)
       have hsz5 : w3.heap.size + 1 ≤ wA.drew.heap.size := hsz4
       have hl3 : w.heap.size < w3.heap.size := (HBX.out.below HB13.out HBX.out.lt).lt
       have hv3 : ad.block < w3.heap.size := by omega
       clear hr0
       go_wp2
       refine wp_region_U (fun W => W.cell? ⟨w.heap.size, 0, none⟩ = some (.slice (some ad) na ca) ∧ W.cell? (ad.add j) = some (.int .i64 v)) (fun W => W.cell? ⟨w3.heap.size, 3, none⟩ = some (.slice EA kf ec)) 13 (by kernel_rfl) ?_
       change anyU _ _ _ _ _ _ _ 16 _ _ _
       have hA0 : wA.drew.cell? ⟨w.heap.size, 0, none⟩ = some (.slice (some ad) na ca) ∧ wA.drew.cell? (ad.add j) = some (.int .i64 v) := ⟨d0, d5⟩
       have hB0 : wA.drew.cell? ⟨w3.heap.size, 3, none⟩ = some (.slice EA kf ec) := f3
       have hsz6 : w.heap.size < wA.drew.heap.size := hszA
       clear d0 d5 f3 HZA
       generalize hwd : wA.drew = wd at HZ2 hsz5 hsz6 hA0 hB0 HIX ⊢
       have HWD := Lib.hid hwd; clear hwd
       (refine uA 0 ?_ rfl hA0 hB0 (fun W hA => ?_) ?_; rotate_left; (· (go_simp; try with_reducible rfl)); (try simp only [Act.put, List.setIfInBounds_toArray, List.set_cons_zero, List.set_cons_succ]))
       (refine uB 1 ?_ rfl hA0 hB0 (fun W hA hB => ?_) ?_; rotate_left; (· (go_simp; try with_reducible rfl)); (try simp only [Act.put, List.setIfInBounds_toArray, List.set_cons_zero, List.set_cons_succ]))
       (refine uA 2 ?_ rfl hA0 hB0 (fun W hA => ?_) ?_; rotate_left; (· (go_simp; try with_reducible rfl)); refine uA 3 ?_ rfl hA0 hB0 (fun W hA => ?_) ?_; rotate_left; (· (go_simp; try with_reducible rfl)); refine uA 4 ?_ rfl hA0 hB0 (fun W hA => ?_) ?_; rotate_left; (· (go_simp; try with_reducible rfl)); refine uA 5 ?_ rfl hA0 hB0 (fun W hA => ?_) ?_; rotate_left; (· (go_simp; try with_reducible rfl)); refine uA 6 ?_ rfl hA0 hB0 (fun W hA => ?_) ?_; rotate_left; (· (go_simp; try with_reducible rfl)); refine uA 7 ?_ rfl hA0 hB0 (fun W hA => ?_) ?_; rotate_left; (· (go_simp; try with_reducible rfl)); refine uA 8 ?_ rfl hA0 hB0 (fun W hA => ?_) ?_; rotate_left; (· (go_simp; try with_reducible rfl)); refine uA 9 ?_ rfl hA0 hB0 (fun W hA => ?_) ?_; rotate_left; (· (go_simp; try with_reducible rfl)); (try simp only [Act.put, List.setIfInBounds_toArray, List.set_cons_zero, List.set_cons_succ]))
       refine uOne (i := 10) rfl (by kernel_rfl) (fun K hK => ?_)
       go_simp
       go_at_call 119
       refine HIX.out.mono ?_
       rintro e wB ⟨rfl, rfl⟩
       (refine hK _ _ ⟨hA0, fun _ => hB0⟩ ?_; clear hK K; (try simp only [Act.put, List.setIfInBounds_toArray, List.set_cons_zero, List.set_cons_succ]))
       refine uOne (i := 11) rfl (by kernel_rfl) (fun K hK => ?_)
       go_simp
       (refine hK _ _ ⟨hA0, fun _ => hB0⟩ ?_; clear hK K; (try simp only [Act.put, List.setIfInBounds_toArray, List.set_cons_zero, List.set_cons_succ]))
       refine uOne (i := 12) rfl (by kernel_rfl) (fun K hK => ?_)
       go_simp
       have HBB := Lib.hid (HZ2.out.bel.alloc (Nat.le_of_lt hsz5) (.cells #[.int .i64 (i : Int), .int .i64 v, .int .i64 (idx l r)] 106))
       have hA1 : (wd.alloc (.cells #[.int .i64 (i : Int), .int .i64 v, .int .i64 (idx l r)] 106)).cell? ⟨w.heap.size, 0, none⟩ = some (.slice (some ad) na ca) ∧ (wd.alloc (.cells #[.int .i64 (i : Int), .int .i64 v, .int .i64 (idx l r)] 106)).cell? (ad.add j) = some (.int .i64 v) := ⟨(World.cell?_alloc_lt _ _ _ hsz6).trans hA0.1, (World.cell?_alloc_lt _ _ _ (by rw [block_of_add]; omega)).trans hA0.2⟩
       have hB1 : (wd.alloc (.cells #[.int .i64 (i : Int), .int .i64 v, .int .i64 (idx l r)] 106)).cell? ⟨w3.heap.size, 3, none⟩ = some (.slice EA kf ec) := (World.cell?_alloc_lt wd _ ⟨w3.heap.size, 3, none⟩ hsz5).trans hB0
       (refine hK _ _ ⟨hA1, fun _ => hB1⟩ ?_; clear hK K; (try simp only [Act.put, List.setIfInBounds_toArray, List.set_cons_zero, List.set_cons_succ]))
       refine uOne (i := 13) rfl (by kernel_rfl) (fun K hK => ?_)
       refine step_pushN wd [.int .i64 (i : Int), .int .i64 v, .int .i64 (idx l r)] (by rfl) (.tmp 56) (.tmp 67) 32 (by rfl) (w3.heap.size + 1) 106 (.agg #[.int .i64 0, .int .i64 0, .int .i64 0]) 3 24 Try.underlying32 edge_info (by rfl) (by decide) (by rfl) (.slice EA kf ec) kf _ (by rfl) HZ2.out.edg (by rfl) (fun q hq => by simp at hq; rcases hq with rfl | rfl | rfl <;> rfl) (by omega) (by omega) hsz5 ?_
       intro A9 c9 w9 ho9 hg9
       have B9 := HZ2.out.blk.kept hg9 (own_lt_ne HZ2.out.edg (Nat.lt_succ_self _))
       have e9 : w9.cell? ⟨w3.heap.size, 3, none⟩ = some (.slice EA kf ec) := B9.cell (j := 3) rfl
       have f9 : w9.frozen? ⟨w3.heap.size, 3, none⟩ = false := B9.free 3
       have l9 : w3.heap.size < w9.heap.size := B9.lt
       have HS9 := Lib.hid (HZ2.out.edge (x := ⟨i, v, idx l r⟩) ho9 hg9)
       have hne : ∀ p : Addr, p.block < w3.heap.size → w9.cell? p = wd.cell? p := fun p hp => hg9.cell_far p (by omega) (fun e => by have := (HZ2.out.edg.lt _ e.symm).1; omega)
       have hA2 : w9.cell? ⟨w.heap.size, 0, none⟩ = some (.slice (some ad) na ca) ∧ w9.cell? (ad.add j) = some (.int .i64 v) := ⟨(hne _ hl3).trans hA0.1, (hne _ (by rw [block_of_add]; exact hv3)).trans hA0.2⟩
       clear B9 ho9 hg9 hne hA1 hB1
       (refine hK _ _ ⟨hA2, fun h => absurd (h.symm.trans (by kernel_rfl : _ = true)) Bool.false_ne_true⟩ ?_; clear hK K; (try simp only [Act.put, List.setIfInBounds_toArray, List.set_cons_zero, List.set_cons_succ]))
       refine uOne (i := 14) rfl (by kernel_rfl) (fun K hK => ?_)
       go_simp
       (refine hK _ _ ⟨hA2, fun h => absurd (h.symm.trans (by kernel_rfl : _ = true)) Bool.false_ne_true⟩ ?_; clear hK K; (try simp only [Act.put, List.setIfInBounds_toArray, List.set_cons_zero, List.set_cons_succ]))
       have g0 : w3.cell? ⟨w.heap.size, 0, none⟩ = some (.slice (some ad) na ca) := (HZ2.out.bel.cell (p := ⟨w.heap.size, 0, none⟩) hl3).symm.trans hA0.1
       have g5 : w3.cell? (ad.add j) = some (.int .i64 v) := (HZ2.out.bel.cell (p := ad.add j) (by rw [block_of_add]; exact hv3)).symm.trans hA0.2
       have hA3 : (w9.setCell ⟨w3.heap.size, 3, none⟩ (.slice A9 (kf + 1) c9)).cell? ⟨w.heap.size, 0, none⟩ = some (.slice (some ad) na ca) ∧ (w9.setCell ⟨w3.heap.size, 3, none⟩ (.slice A9 (kf + 1) c9)).cell? (ad.add j) = some (.int .i64 v) := ⟨(HS9.out.bel.cell (p := ⟨w.heap.size, 0, none⟩) hl3).trans g0, (HS9.out.bel.cell (p := ad.add j) (by rw [block_of_add]; exact hv3)).trans g5⟩
       clear hA2 hA0 hB0 g0 g5
       refine uOne (i := 15) rfl (by kernel_rfl) (fun K hK => ?_)
       go_simp
       (refine hK _ _ ⟨hA3, fun h => absurd (h.symm.trans (by kernel_rfl : _ = true)) Bool.false_ne_true⟩ ?_; clear hK K; (try simp only [Act.put, List.setIfInBounds_toArray, List.set_cons_zero, List.set_cons_succ]))
       refine anyU_done (by kernel_rfl) ?_ _
       clear hA3 e9 f9 l9
       go_wp2
       go_roundw
       case rel => exact ⟨j + 1, kf + 1, _, by go_num, by omega, by omega, Lib.hid (by rw [HEQ.out, ← List.append_assoc]; exact HS9.out)⟩
       case measure => simp [intOf]; omega
     ·obtain rfl : j = na := by omega
      have HZ2 := Lib.hid (show Bld w3 wr (.slice V nv cv) (.int .i64 (nf : Int)) (.slice MA2 (km + 1) mc2) (.slice EA kf ec) (km + 1) kf (mksN (mkA a) l i ++ [(i : Int)]) (edsOf (stA a) a.al l (i + 1)) from by
       have := HZ.out
       rw [List.take_of_length_le (by rw [HLA.out]; exact Nat.le_refl _), ← edsOf_step HXT.out] at this
       exact this)
      clear hR hF hRa c1 c2 c3
      go_wp2
      go_roundw
      case rel => exact ⟨i + 1, km + 1, kf, _, _, by go_num, by omega, by omega, by omega, by rw [← HMK2.out]; exact HZ2⟩
      case measure => simp [intOf]; omega
   | false =>
    have HQ := Lib.hid hq; clear hq
    go_wp2
    go_quiet ((go_at_call 117; refine quiet_eq (ref_has M cm nm a.ma t false _ HLM.out HQ.out (HMA.out _) hmc hcM)))
    have HS7 := Lib.hid (HS.out.quiet (below_drewN (Below.refl _ _) nq))
    have HMK2 := Lib.hid (show mksN (mkA a) l i = mksN (mkA a) l (i + 1) by rw [mksN_no HXT.out (show mkA a t = false from HQ.out)])
    clear HS c0 c1 c2 c3 hfc HMA
    go_wp2
    have HS9 := Lib.hid (show Bld w3 _ (.slice V nv cv) (.int .i64 (nf : Int)) (.slice MA km mc) ev (km) ke (mksN (mkA a) l i) (edsOf (stA a) a.al l i ++ edRow (stA a) l i t (a.al.take 0)) from by
     have := HS7.out
     rw [show edsOf (stA a) a.al l i ++ edRow (stA a) l i t (a.al.take 0) = edsOf (stA a) a.al l i by simp [edRow]]
     exact this)
    go_loopw [6] (fun s6 wr => ∃ (j kf : Nat) (ev : Value), s6 = .int .i64 j ∧ j ≤ na ∧ kf ≤ i * 32 + j ∧ Hid (Bld w3 wr (.slice V nv cv) (.int .i64 (nf : Int)) (.slice MA km mc) ev (km) kf (mksN (mkA a) l i) (edsOf (stA a) a.al l i ++ edRow (stA a) l i t (a.al.take j)))) (fun s6 _ => na - (intOf s6).toNat)
    case atStart => exact ⟨0, ke, _, rfl, Nat.zero_le _, by omega, HS9⟩
    case round =>
     clear HS9
     obtain ⟨j, kf, ev, rfl, hj, hkf, HZ⟩ := hrel
     obtain ⟨EA, ec, rfl⟩ := own_shape HZ.out.edg
     have hBw := HB13.out.trans (HZ.out.bel.mono HB13.out.size)
     have hbw := HBX.out.below hBw HBX.out.lt
     have c0 : wr.cell? ⟨w.heap.size, 0, none⟩ = some (.slice A na ca) := hbw.cell (j := 0) rfl
     have c1 : wr.cell? ⟨w.heap.size, 1, none⟩ = some (.int .i64 a.st) := hbw.cell (j := 1) rfl
     have c2 : wr.cell? ⟨w.heap.size, 2, none⟩ = some (.slice M nm cm) := hbw.cell (j := 2) rfl
     have c3 : wr.cell? ⟨w.heap.size, 3, none⟩ = some (.slice E ne ce) := hbw.cell (j := 3) rfl
     have hBz := HB0.out.trans (hBw.mono HB0.out.size)
     have hR := (HH.out.below hBz).more hBz.size
     have hF := RdI.of_own (own_below HOF3.out HZ.out.bel)
     have hsz2 : w.heap.size < wr.heap.size := hbw.lt
     have hsz3 : w3.heap.size < wr.heap.size := HZ.out.lt
     have hRa := (HH.out.below hBz).ra
     clear hBw hbw hBz
     by_cases hjl : j < na
     ·obtain ⟨ad, v, hA, hvb, hve, hvc⟩ := hRa.at_ (k := j) (by have := HLA.out; omega)
      subst hA
      have b3 : (j : Int) < (na : Int) := by omega
      obtain ⟨fd', t', e9, hfd, ht', hfc⟩ := hF.at_ (k := i) (by have := HLF.out; omega)
      obtain rfl : fd = fd' := by injection e9
      have htt : t' = t := by rw [HXT.out] at ht'; injection ht' with ht'; exact ht'.symm
      subst htt
      obtain ⟨r, hr⟩ : ∃ r, nxt a t' v = r := ⟨_, rfl⟩
      have HSTEP := Lib.hid (fun (W : World) (hW : AutR W W.heap.size (some ad) na ca M nm cm E ne ce a) => ref_Step3 (some ad) na ca M nm cm E ne ce a t' v W hW)
      rw [hr] at HSTEP
      have HR := Lib.hid hR
      have HVE := Lib.hid hve; clear hve
      have HRR := Lib.hid hr; clear hr
      clear hR ht' hF hRa
      go_wp2
      go_region_held3 (fun w' => w'.cell? ⟨w.heap.size, 0, none⟩ = some (.slice (some ad) na ca) ∧ w'.cell? ⟨w.heap.size, 1, none⟩ = some (.int .i64 a.st) ∧ w'.cell? ⟨w.heap.size, 2, none⟩ = some (.slice M nm cm) ∧ w'.cell? ⟨w.heap.size, 3, none⟩ = some (.slice E ne ce) ∧ w'.cell? (fd.add i) = some (.int .i64 t') ∧ w'.cell? (ad.add j) = some (.int .i64 v)) (first | exact ⟨c0, c1, c2, c3, hfc, hvc⟩ | exact ⟨y0, y1, y2, y3, y4, y5⟩ | go_keep)
       (first | (go_at_call 118; (with_reducible refine (HSTEP.out _ ?_).mono ?_); exact HR.out.dr; rintro e wA ⟨rfl, hbA⟩; replace hbA : Below wr.heap.size wr wA := ⟨hbA.os, hbA.tape, hbA.output, hbA.size, hbA.block⟩; have y0 := (hbA.cell (p := ⟨w.heap.size, 0, none⟩) hsz2).trans c0; have y1 := (hbA.cell (p := ⟨w.heap.size, 1, none⟩) hsz2).trans c1; have y2 := (hbA.cell (p := ⟨w.heap.size, 2, none⟩) hsz2).trans c2; have y3 := (hbA.cell (p := ⟨w.heap.size, 3, none⟩) hsz2).trans c3; have y4 := (hbA.cell (p := fd.add i) (by rw [block_of_add]; exact hfd)).trans hfc; have y5 := (hbA.cell (p := ad.add j) (by rw [block_of_add]; exact Nat.lt_trans hvb hsz2)).trans hvc) | fail)
      have hbA2 : Below wr.heap.size wr wA := hbA
      have HZA := Lib.hid (HZ.out.quiet hbA2)
      have HFA := Lib.hid (RdI.of_own (own_below HOF3.out HZA.out.bel))
      have d0 : wA.cell? ⟨w.heap.size, 0, none⟩ = some (.slice (some ad) na ca) := y0
      have d5 : wA.cell? (ad.add j) = some (.int .i64 v) := y5
      have hszA : w.heap.size < wA.heap.size := by have := hbA2.size; omega
      clear y0 y1 y2 y3 y4 y5 c0 c1 c2 c3 hfc hvc HSTEP HR HZ hbA hbA2 hsz2 hsz3
      try clear hs
      by_cases hr0 : r < 0
      ·have e1 : decide (0 ≤ r) = false := decide_eq_false (by omega)
       have HZ2 := Lib.hid (show Bld w3 wA (.slice V nv cv) (.int .i64 (nf : Int)) (.slice MA km mc) (.slice EA kf ec) (km) kf (mksN (mkA a) l i) (edsOf (stA a) a.al l i ++ edRow (stA a) l i t' (a.al.take (j + 1))) from by rw [edRow_no HVE.out HRR.out hr0]; exact HZA.out)
       clear hr0 d0 d5
       go_wp2
       go_roundw
       case rel => exact ⟨j + 1, kf, _, by go_num, by omega, by omega, HZ2⟩
       case measure => simp [intOf]; omega
      ·have e1 : 0 ≤ r := by omega
       have HZ2 := Lib.hid (show Bld w3 wA.drew (.slice V nv cv) (.int .i64 (nf : Int)) (.slice MA km mc) (.slice EA kf ec) (km) kf (mksN (mkA a) l i) (edsOf (stA a) a.al l i ++ edRow (stA a) l i t' (a.al.take j)) from HZA.out.quiet (below_dr _))
       have HEQ := Lib.hid (edRow_yes (l := l) (i := i) HVE.out HRR.out e1)
       have f3 : wA.cell? ⟨w3.heap.size, 3, none⟩ = some (.slice EA kf ec) := HZA.out.blk.cell (j := 3) rfl
       have hsz4 : w3.heap.size < wA.heap.size := HZA.out.lt
       have HIX := Lib.hid (ref_index _ cf nf l r wA.drew HLF.out (by exact HFA.out) (own_cap' HOF3.out).1 (own_cap' HOF3.out).2)
       have hsz5 : w3.heap.size + 1 ≤ wA.drew.heap.size := hsz4
       have hl3 : w.heap.size < w3.heap.size := (HBX.out.below HB13.out HBX.out.lt).lt
       have hv3 : ad.block < w3.heap.size := by omega
       clear hr0
       go_wp2
       refine wp_region_U (fun W => W.cell? ⟨w.heap.size, 0, none⟩ = some (.slice (some ad) na ca) ∧ W.cell? (ad.add j) = some (.int .i64 v)) (fun W => W.cell? ⟨w3.heap.size, 3, none⟩ = some (.slice EA kf ec)) 13 (by kernel_rfl) ?_
       change anyU _ _ _ _ _ _ _ 16 _ _ _
       have hA0 : wA.drew.cell? ⟨w.heap.size, 0, none⟩ = some (.slice (some ad) na ca) ∧ wA.drew.cell? (ad.add j) = some (.int .i64 v) := ⟨d0, d5⟩
       have hB0 : wA.drew.cell? ⟨w3.heap.size, 3, none⟩ = some (.slice EA kf ec) := f3
       have hsz6 : w.heap.size < wA.drew.heap.size := hszA
       clear d0 d5 f3 HZA
       generalize hwd : wA.drew = wd at HZ2 hsz5 hsz6 hA0 hB0 HIX ⊢
       have HWD := Lib.hid hwd; clear hwd
       (refine uA 0 ?_ rfl hA0 hB0 (fun W hA => ?_) ?_; rotate_left; (· (go_simp; try with_reducible rfl)); (try simp only [Act.put, List.setIfInBounds_toArray, List.set_cons_zero, List.set_cons_succ]))
       (refine uB 1 ?_ rfl hA0 hB0 (fun W hA hB => ?_) ?_; rotate_left; (· (go_simp; try with_reducible rfl)); (try simp only [Act.put, List.setIfInBounds_toArray, List.set_cons_zero, List.set_cons_succ]))
       (refine uA 2 ?_ rfl hA0 hB0 (fun W hA => ?_) ?_; rotate_left; (· (go_simp; try with_reducible rfl)); refine uA 3 ?_ rfl hA0 hB0 (fun W hA => ?_) ?_; rotate_left; (· (go_simp; try with_reducible rfl)); refine uA 4 ?_ rfl hA0 hB0 (fun W hA => ?_) ?_; rotate_left; (· (go_simp; try with_reducible rfl)); refine uA 5 ?_ rfl hA0 hB0 (fun W hA => ?_) ?_; rotate_left; (· (go_simp; try with_reducible rfl)); refine uA 6 ?_ rfl hA0 hB0 (fun W hA => ?_) ?_; rotate_left; (· (go_simp; try with_reducible rfl)); refine uA 7 ?_ rfl hA0 hB0 (fun W hA => ?_) ?_; rotate_left; (· (go_simp; try with_reducible rfl)); refine uA 8 ?_ rfl hA0 hB0 (fun W hA => ?_) ?_; rotate_left; (· (go_simp; try with_reducible rfl)); refine uA 9 ?_ rfl hA0 hB0 (fun W hA => ?_) ?_; rotate_left; (· (go_simp; try with_reducible rfl)); (try simp only [Act.put, List.setIfInBounds_toArray, List.set_cons_zero, List.set_cons_succ]))
       refine uOne (i := 10) rfl (by kernel_rfl) (fun K hK => ?_)
       go_simp
       go_at_call 119
       refine HIX.out.mono ?_
       rintro e wB ⟨rfl, rfl⟩
       (refine hK _ _ ⟨hA0, fun _ => hB0⟩ ?_; clear hK K; (try simp only [Act.put, List.setIfInBounds_toArray, List.set_cons_zero, List.set_cons_succ]))
       refine uOne (i := 11) rfl (by kernel_rfl) (fun K hK => ?_)
       go_simp
       (refine hK _ _ ⟨hA0, fun _ => hB0⟩ ?_; clear hK K; (try simp only [Act.put, List.setIfInBounds_toArray, List.set_cons_zero, List.set_cons_succ]))
       refine uOne (i := 12) rfl (by kernel_rfl) (fun K hK => ?_)
       go_simp
       have HBB := Lib.hid (HZ2.out.bel.alloc (Nat.le_of_lt hsz5) (.cells #[.int .i64 (i : Int), .int .i64 v, .int .i64 (idx l r)] 106))
       have hA1 : (wd.alloc (.cells #[.int .i64 (i : Int), .int .i64 v, .int .i64 (idx l r)] 106)).cell? ⟨w.heap.size, 0, none⟩ = some (.slice (some ad) na ca) ∧ (wd.alloc (.cells #[.int .i64 (i : Int), .int .i64 v, .int .i64 (idx l r)] 106)).cell? (ad.add j) = some (.int .i64 v) := ⟨(World.cell?_alloc_lt _ _ _ hsz6).trans hA0.1, (World.cell?_alloc_lt _ _ _ (by rw [block_of_add]; omega)).trans hA0.2⟩
       have hB1 : (wd.alloc (.cells #[.int .i64 (i : Int), .int .i64 v, .int .i64 (idx l r)] 106)).cell? ⟨w3.heap.size, 3, none⟩ = some (.slice EA kf ec) := (World.cell?_alloc_lt wd _ ⟨w3.heap.size, 3, none⟩ hsz5).trans hB0
       (refine hK _ _ ⟨hA1, fun _ => hB1⟩ ?_; clear hK K; (try simp only [Act.put, List.setIfInBounds_toArray, List.set_cons_zero, List.set_cons_succ]))
       refine uOne (i := 13) rfl (by kernel_rfl) (fun K hK => ?_)
       refine step_pushN wd [.int .i64 (i : Int), .int .i64 v, .int .i64 (idx l r)] (by rfl) (.tmp 56) (.tmp 67) 32 (by rfl) (w3.heap.size + 1) 106 (.agg #[.int .i64 0, .int .i64 0, .int .i64 0]) 3 24 Try.underlying32 edge_info (by rfl) (by decide) (by rfl) (.slice EA kf ec) kf _ (by rfl) HZ2.out.edg (by rfl) (fun q hq => by simp at hq; rcases hq with rfl | rfl | rfl <;> rfl) (by omega) (by omega) hsz5 ?_
       intro A9 c9 w9 ho9 hg9
       have B9 := HZ2.out.blk.kept hg9 (own_lt_ne HZ2.out.edg (Nat.lt_succ_self _))
       have e9 : w9.cell? ⟨w3.heap.size, 3, none⟩ = some (.slice EA kf ec) := B9.cell (j := 3) rfl
       have f9 : w9.frozen? ⟨w3.heap.size, 3, none⟩ = false := B9.free 3
       have l9 : w3.heap.size < w9.heap.size := B9.lt
       have HS9 := Lib.hid (HZ2.out.edge (x := ⟨i, v, idx l r⟩) ho9 hg9)
       have hne : ∀ p : Addr, p.block < w3.heap.size → w9.cell? p = wd.cell? p := fun p hp => hg9.cell_far p (by omega) (fun e => by have := (HZ2.out.edg.lt _ e.symm).1; omega)
       have hA2 : w9.cell? ⟨w.heap.size, 0, none⟩ = some (.slice (some ad) na ca) ∧ w9.cell? (ad.add j) = some (.int .i64 v) := ⟨(hne _ hl3).trans hA0.1, (hne _ (by rw [block_of_add]; exact hv3)).trans hA0.2⟩
       clear B9 ho9 hg9 hne hA1 hB1
       (refine hK _ _ ⟨hA2, fun h => absurd (h.symm.trans (by kernel_rfl : _ = true)) Bool.false_ne_true⟩ ?_; clear hK K; (try simp only [Act.put, List.setIfInBounds_toArray, List.set_cons_zero, List.set_cons_succ]))
       refine uOne (i := 14) rfl (by kernel_rfl) (fun K hK => ?_)
       go_simp
       (refine hK _ _ ⟨hA2, fun h => absurd (h.symm.trans (by kernel_rfl : _ = true)) Bool.false_ne_true⟩ ?_; clear hK K; (try simp only [Act.put, List.setIfInBounds_toArray, List.set_cons_zero, List.set_cons_succ]))
       have g0 : w3.cell? ⟨w.heap.size, 0, none⟩ = some (.slice (some ad) na ca) := (HZ2.out.bel.cell (p := ⟨w.heap.size, 0, none⟩) hl3).symm.trans hA0.1
       have g5 : w3.cell? (ad.add j) = some (.int .i64 v) := (HZ2.out.bel.cell (p := ad.add j) (by rw [block_of_add]; exact hv3)).symm.trans hA0.2
       have hA3 : (w9.setCell ⟨w3.heap.size, 3, none⟩ (.slice A9 (kf + 1) c9)).cell? ⟨w.heap.size, 0, none⟩ = some (.slice (some ad) na ca) ∧ (w9.setCell ⟨w3.heap.size, 3, none⟩ (.slice A9 (kf + 1) c9)).cell? (ad.add j) = some (.int .i64 v) := ⟨(HS9.out.bel.cell (p := ⟨w.heap.size, 0, none⟩) hl3).trans g0, (HS9.out.bel.cell (p := ad.add j) (by rw [block_of_add]; exact hv3)).trans g5⟩
       clear hA2 hA0 hB0 g0 g5
       refine uOne (i := 15) rfl (by kernel_rfl) (fun K hK => ?_)
       go_simp
       (refine hK _ _ ⟨hA3, fun h => absurd (h.symm.trans (by kernel_rfl : _ = true)) Bool.false_ne_true⟩ ?_; clear hK K; (try simp only [Act.put, List.setIfInBounds_toArray, List.set_cons_zero, List.set_cons_succ]))
       refine anyU_done (by kernel_rfl) ?_ _
       clear hA3 e9 f9 l9
       go_wp2
       go_roundw
       case rel => exact ⟨j + 1, kf + 1, _, by go_num, by omega, by omega, Lib.hid (by rw [HEQ.out, ← List.append_assoc]; exact HS9.out)⟩
       case measure => simp [intOf]; omega
     ·obtain rfl : j = na := by omega
      have HZ2 := Lib.hid (show Bld w3 wr (.slice V nv cv) (.int .i64 (nf : Int)) (.slice MA km mc) (.slice EA kf ec) (km) kf (mksN (mkA a) l i) (edsOf (stA a) a.al l (i + 1)) from by
       have := HZ.out
       rw [List.take_of_length_le (by rw [HLA.out]; exact Nat.le_refl _), ← edsOf_step HXT.out] at this
       exact this)
      clear hR hF hRa c1 c2 c3
      go_wp2
      go_roundw
      case rel => exact ⟨i + 1, km, kf, _, _, by go_num, by omega, by omega, by omega, by rw [← HMK2.out]; exact HZ2⟩
      case measure => simp [intOf]; omega
  ·obtain rfl : i = nf := by omega
   obtain ⟨EA, ec, rfl⟩ := own_shape HS.out.edg
   have hBw := HB13.out.trans (HS.out.bel.mono HB13.out.size)
   have hrs := HRS.out.below hBw HRS.out.lt
   have hB := HB0.out.trans (hBw.mono HB0.out.size)
   have f0 := hrs.free 0
   have f1 := hrs.free 1
   have f2 := hrs.free 2
   have f3 := hrs.free 3
   have e0 := hrs.cell (j := 0) rfl
   have e1 := hrs.cell (j := 1) rfl
   have e2 := hrs.cell (j := 2) rfl
   have e3 := hrs.cell (j := 3) rfl
   have l0 : w.heap.size + 1 < wr.heap.size := hrs.lt
   have o0 : wr.cell? ⟨w3.heap.size, 0, none⟩ = some (.slice V nv cv) := HS.out.blk.cell (j := 0) rfl
   have o1 : wr.cell? ⟨w3.heap.size, 1, none⟩ = some (.int .i64 (i : Int)) := HS.out.blk.cell (j := 1) rfl
   have o2 : wr.cell? ⟨w3.heap.size, 2, none⟩ = some (.slice MA km mc) := HS.out.blk.cell (j := 2) rfl
   have o3 : wr.cell? ⟨w3.heap.size, 3, none⟩ = some (.slice EA ke ec) := HS.out.blk.cell (j := 3) rfl
   have hz3 : w.heap.size + 2 ≤ w3.heap.size := by have := HB13.out.size; have := HS0.out; omega
   have hfc := found_can HFL.out
   rw [HLF.out] at hfc
   have HO := Lib.hid (HS.out.fin (st := (i : Int)) HLV.out HOV.out (by omega))
   have HFC := Lib.hid hfc; clear hfc
   clear hR hF hRa c0 c1 c2 c3
   go_wp2
   have hb3 := (((hrs.set (j := 0) (by simp) (.slice V nv cv)).set (j := 1) (by simp) (.int .i64 (i : Int))).set (j := 2) (by simp) (.slice MA km mc)).set (j := 3) (by simp) (.slice EA ke ec)
   have z0 := hb3.cell (j := 0) rfl
   have z1 := hb3.cell (j := 1) rfl
   have z2 := hb3.cell (j := 2) rfl
   have z3 := hb3.cell (j := 3) rfl
   refine bodyPost_ret (v := .agg #[.slice V nv cv, .int .i64 (i : Int), .slice MA km mc, .slice EA ke ec]) (by simp [results, Try.results88, go_sem, z0, z1, z2, z3]) rfl ?_
   have hg5 : wr.grownBy ((((wr.setCell ⟨w.heap.size + 1, 0, none⟩ (.slice V nv cv)).setCell ⟨w.heap.size + 1, 1, none⟩ (.int .i64 (i : Int))).setCell ⟨w.heap.size + 1, 2, none⟩ (.slice MA km mc)).setCell ⟨w.heap.size + 1, 3, none⟩ (.slice EA ke ec)) (some (w.heap.size + 1)) := (((grown_setCell _ _ _ _).trans (grown_setCell _ _ _ _)).trans (grown_setCell _ _ _ _)).trans (grown_setCell _ _ _ _)
   rw [HFC.out]
   exact ⟨V, nv, cv, MA, km, mc, EA, ke, ec, rfl, ((HO.out.low hg5 (Nat.lt_succ_self _)).down (by omega)), hB.grown hg5 hB.size (fun j hj => by injection hj with hj; omega)⟩
end Go.Proofs.Ytddhaidimadliaa
