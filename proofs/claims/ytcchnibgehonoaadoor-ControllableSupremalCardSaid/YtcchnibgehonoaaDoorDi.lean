/- Walks: the law's reached. -/
import Derived.Test.YtcchnibgehonoaaDoorDh
namespace Go.Proofs.YtcchnibgehonoaaDoor
open Go.RowKit Go Go.Maps

theorem fl_same {N : List Bool} {s : Int} (h0 : 0 ≤ s) (h1 : s < (N.length : Int)) : N.set s.toNat (fl N s) = N := by
 apply List.ext_getElem?
 intro i
 rw [List.getElem?_set]
 by_cases hi : s.toNat = i
 ·subst hi; rw [if_pos rfl, if_pos (by omega), fl_get rfl h0 h1]
 ·rw [if_neg hi]
theorem stepF_set {V : List Int} {back : Bool} {N : List Bool} {x : Ed} (h0 : 0 ≤ eTo back x) (h1 : eTo back x < (N.length : Int)) (hv : hasB V x.e = true) {qt qf : Bool} (ht : fl N (eTo back x) = qt) (hf : fl N (eFr back x) = qf) : stepF V back N x = N.set (eTo back x).toNat (qt || qf) := by
 unfold stepF goE
 rw [hf, hv]
 cases qf with
 | true => rw [Bool.or_true]; rfl
 | false =>
  rw [Bool.or_false, ← ht, fl_same h0 h1]
  simp
theorem stepF_no {V : List Int} {back : Bool} {N : List Bool} {x : Ed} (hv : hasB V x.e = false) : stepF V back N x = N := by
 unfold stepF goE; rw [hv, Bool.and_false]; rfl
theorem ClM.setb {w wr : World} {bx : List Value} {N : List Bool} (h : ClM w wr bx N) {s : Int} (h0 : 0 ≤ s) (h1 : s < (N.length : Int)) (q : Bool) : ClM w (wr.setCell ⟨w.heap.size + 1, s.toNat, none⟩ (.bool q)) bx (N.set s.toNat q) := by
 refine ⟨h.bel.setCell (p := ⟨w.heap.size + 1, s.toNat, none⟩) (Nat.le_succ _) _, h.box.kept (grown_setCell wr (w.heap.size + 1) s.toNat _) (by intro e; injection e with e; omega), ?_⟩
 have := h.num.set (j := s.toNat) (by rw [bvl_length]; omega) (.bool q)
 rwa [bvl_set] at this

set_option maxRecDepth 100000 in
set_option maxHeartbeats 3200000 in
theorem reached_false (A M E : Option Addr) (na ca nm cm ne ce : Nat) (a : Aut) (S : Option Addr) (cs ns : Nat) (set : List Int) (V : Option Addr) (cv nv : Nat) (ev : List Int) (n : Nat) (w : World) (h : AutR w w.heap.size A na ca M nm cm E ne ce a) (hw : WF a) (hn : a.st = (n : Int))
  (hsl : set.length = ns) (hS : RdI w w.heap.size S set) (hset : ∀ s ∈ set, 0 ≤ s ∧ s < (n : Int)) (hs1 : ns ≤ cs) (hs2 : cs ≤ 9223372036854775807) (hvl : ev.length = nv) (hV : RdI w w.heap.size V ev) (hv1 : nv ≤ 9223372036854775807) :
  Calls Tryd.prog 36 #[.agg #[.slice A na ca, .int .i64 a.st, .slice M nm cm, .slice E ne ce], .slice S ns cs, .slice V nv cv, .bool false] w (RetO 3 (clS a.ed ev false n set) w) := by
 have hn4 : n ≤ 4096 := by have := hw.st1; omega
 rw [hn]
 have hB0 := box_below w (.cells #[.slice A na ca, .int .i64 (n : Int), .slice M nm cm, .slice E ne ce] 25)
 have k3 : Blk (w.alloc (.cells #[.slice A na ca, .int .i64 (n : Int), .slice M nm cm, .slice E ne ce] 25)) w.heap.size 25 [.slice A na ca, .int .i64 (n : Int), .slice M nm cm, .slice E ne ce] := Blk.new _ _ _
 have hm : ∀ W : World, (Instr.makeSlice 110 (.int .i64 (n : Int)) (.int .i64 (n : Int))).run Tryd.prog W = .ok (.slice (some ⟨W.heap.size, 0, none⟩) n n) (W.alloc (.cells (madeCells #[.bool false] n) 4)) := fun W => run_make_row' 110 4 (.bool false) 1 Tryd.underlying110 bool_info rfl .i64 .i64 n (by omega) (by omega) W
 have HC0 := Lib.hid (show ClM w ((w.alloc (.cells #[.slice A na ca, .int .i64 (n : Int), .slice M nm cm, .slice E ne ce] 25)).alloc (.cells (madeCells #[.bool false] n) 4)) [.slice A na ca, .int .i64 (n : Int), .slice M nm cm, .slice E ne ce] (inF n (set.take 0)) from by
  refine ⟨hB0.alloc hB0.size _, k3.below (box_below _ _) k3.lt, ?_⟩
  show Blk _ _ _ (bvl (List.replicate n false))
  rw [made_bools]
  have := Blk.new (w.alloc (.cells #[.slice A na ca, .int .i64 (n : Int), .slice M nm cm, .slice E ne ce] 25)) 4 (bvl (List.replicate n false))
  rwa [World.size_alloc] at this)
 have HRE := Lib.hid h.re
 have HSS := Lib.hid hS
 have HVV := Lib.hid hV
 have hle := h.le
 have hec := h.ec
 have hcE := h.cE
 have hedl := hw.ed_le
 rw [hle] at hedl
 have HEN := Lib.hid (EdIn.of hw hn)
 have c1 : (w.alloc (.cells #[.slice A na ca, .int .i64 (n : Int), .slice M nm cm, .slice E ne ce] 25)).cell? ⟨w.heap.size, 1, none⟩ = some (.int .i64 (n : Int)) := k3.cell (j := 1) rfl
 have HLE := Lib.hid hle; clear hle
 have HSL := Lib.hid hsl; clear hsl
 have HSET := Lib.hid hset; clear hset
 have HVL := Lib.hid hvl; clear hvl
 clear hB0 k3 h hS hV hw hn
 go_enter Tryd.func36, Tryd.ntmps36
 go_wp2
 clear c1 hm
 go_loopw [10] (fun s10 wr => ∃ k : Nat, s10 = .int .i64 k ∧ k ≤ ns ∧ Hid (ClM w wr [.slice A na ca, .int .i64 (n : Int), .slice M nm cm, .slice E ne ce] (inF n (set.take k)))) (fun s10 _ => ns - (intOf s10).toNat)
 case atStart => exact ⟨0, rfl, Nat.zero_le _, HC0⟩
 case round =>
  clear HC0
  obtain ⟨k, rfl, hk, HC⟩ := hrel
  by_cases hlt : k < ns
  ·obtain ⟨sd, s, rfl, hsb, hss, hsc⟩ := (HSS.out.below HC.out.bel).at_ (k := k) (by have := HSL.out; omega)
   have b1 : (k : Int) < (ns : Int) := by omega
   obtain ⟨s0, s1⟩ := HSET.out s (List.mem_of_getElem? hss)
   have hln := inF_len n (set.take k)
   have g1 : ∃ q, wr.cell? ⟨w.heap.size + 1, s.toNat, none⟩ = some (.bool q) := ⟨_, cell_flag HC.out.num rfl s0 (by rw [hln]; exact s1)⟩
   obtain ⟨q, g1⟩ := g1
   have g2 : wr.frozen? ⟨w.heap.size + 1, s.toNat, none⟩ = false := HC.out.num.free _
   have g3 : w.heap.size + 1 < wr.heap.size := HC.out.lt
   have hC2 := HC.out.put s0 (by rw [hln]; exact s1)
   rw [← inF_snoc n hss] at hC2
   have HC2 := Lib.hid hC2; clear hC2
   clear hss hln
   go_wp2
   go_roundw
   case rel => exact ⟨k + 1, by go_num, by omega, HC2⟩
   case measure => simp [intOf]; omega
  ·have b1 : ¬ (k : Int) < (ns : Int) := by omega
   have hC := HC.out
   rw [List.take_of_length_le (by rw [HSL.out]; omega)] at hC
   have HC1 := Lib.hid (show ClM w wr [.slice A na ca, .int .i64 (n : Int), .slice M nm cm, .slice E ne ce] (itF ev false a.ed 0 (inF n set)) from hC)
   clear hC HC
   go_wp2
   go_loopw [11] (fun s11 wr => ∃ r : Nat, s11 = .int .i64 r ∧ r ≤ n ∧ Hid (ClM w wr [.slice A na ca, .int .i64 (n : Int), .slice M nm cm, .slice E ne ce] (itF ev false a.ed r (inF n set)))) (fun s11 _ => n - (intOf s11).toNat)
   case atStart => exact ⟨0, rfl, Nat.zero_le _, HC1⟩
   case round =>
    clear HC1
    obtain ⟨r, rfl, hr, HC⟩ := hrel
    obtain ⟨N0, hN0⟩ : ∃ N, itF ev false a.ed r (inF n set) = N := ⟨_, rfl⟩
    have HLN := Lib.hid (show N0.length = n by rw [← hN0, itF_len, inF_len])
    have d1 : wr.cell? ⟨w.heap.size, 1, none⟩ = some (.int .i64 (n : Int)) := HC.out.box.cell (j := 1) rfl
    by_cases hrn : r < n
    ·have b3 : (r : Int) < (n : Int) := by omega
     have HPN := Lib.hid (show itF ev false a.ed (r + 1) (inF n set) = passF ev false a.ed N0 by rw [← hN0]; rfl)
     rw [hN0] at HC
     clear hN0
     obtain ⟨wo, rfl⟩ : ∃ wo : World, wo = wr := ⟨_, rfl⟩
     go_wp2
     clear d1
     go_loopw [12] (fun s12 wr => ∃ q : Nat, s12 = .int .i64 q ∧ q ≤ ne ∧ Hid (ClM w wr [.slice A na ca, .int .i64 (n : Int), .slice M nm cm, .slice E ne ce] (passF ev false (a.ed.take q) N0))) (fun s12 _ => ne - (intOf s12).toNat)
     case atStart => exact ⟨0, rfl, Nat.zero_le _, HC⟩
     case round =>
      clear HC
      obtain ⟨q, rfl, hq, HC⟩ := hrel
      have d3 : wr.cell? ⟨w.heap.size, 3, none⟩ = some (.slice E ne ce) := HC.out.box.cell (j := 3) rfl
      by_cases hql : q < ne
      ·obtain ⟨ed, x, rfl, hbe, hxe, g0, g1, g2⟩ := (HRE.out.below HC.out.bel).at_ (k := q) (by have := HLE.out; omega)
       have c1 : (q : Int) < (ne : Int) := by omega
       have r1 : wr.cell? ⟨(ed.add (q * 3)).block, (ed.add (q * 3)).off + 1, none⟩ = some (.int .i64 x.e) := st_cells (j := 0) g1
       have r2 : wr.cell? ⟨(ed.add (q * 3)).block, (ed.add (q * 3)).off + 2, none⟩ = some (.int .i64 x.t) := st_cells (j := 1) g2
       have hmem := List.mem_of_getElem? hxe
       have hfr := HEN.out.fr hmem false
       have hto := HEN.out.to hmem false
       obtain ⟨Nq, hNq⟩ : ∃ Nq, passF ev false (a.ed.take q) N0 = Nq := ⟨_, rfl⟩
       have HPS := Lib.hid (passF_snoc (V := ev) (back := false) hxe N0)
       rw [hNq] at HPS HC
       have HLEN := Lib.hid (show (Nq.length : Int) = (n : Int) by rw [← hNq, passF_len, HLN.out])
       have HCA := HC
       have HCX := Lib.hid (HC.out.quiet (box_below wr (.cells #[.int .i64 x.f, .int .i64 x.e, .int .i64 x.t] 83)))
       have kx : Blk (wr.alloc (.cells #[.int .i64 x.f, .int .i64 x.e, .int .i64 x.t] 83)) wr.heap.size 83 [.int .i64 x.f, .int .i64 x.e, .int .i64 x.t] := Blk.new _ _ _
       have k1 := kx.cell (j := 1) rfl
       have hw1 : w.heap.size + 1 < wr.heap.size := HC.out.lt
       have hfr0 : 0 ≤ x.f := hfr.1
       have hfr1 : x.f < (n : Int) := hfr.2
       have hto0 : 0 ≤ x.t := hto.1
       have hto1 : x.t < (n : Int) := hto.2
       obtain ⟨hv, hhv⟩ : ∃ b, hasB ev x.e = b := ⟨_, rfl⟩
       have HH := Lib.hid (law_has V cv nv ev x.e hv (wr.alloc (.cells #[.int .i64 x.f, .int .i64 x.e, .int .i64 x.t] 83)) HVL.out ((HVV.out.below HCX.out.bel).more HCX.out.bel.size) hv1 hhv)
       have HHV := Lib.hid hhv; clear hhv
       have KX := Lib.hid kx; clear kx
       clear hmem hNq hfr hto hbe hxe HC
       cases hv with
       | false =>
        have HC9 := Lib.hid (show ClM w _ _ (passF ev false (a.ed.take (q + 1)) N0) from by rw [HPS.out, stepF_no HHV.out]; exact HCX.out)
        go_wp2_with fail
        refine HH.out.mono ?_
        rintro e wx ⟨rfl, rfl⟩
        go_wp2
        go_roundw
        case rel => exact ⟨q + 1, by go_num, by omega, HC9⟩
        case measure => simp [intOf]; omega
       | true =>
        obtain ⟨qt, hqt⟩ : ∃ b, fl Nq (eTo false x) = b := ⟨_, rfl⟩
        obtain ⟨qf, hqf⟩ : ∃ b, fl Nq (eFr false x) = b := ⟨_, rfl⟩
        have HQT := Lib.hid hqt; clear hqt
        have HQF := Lib.hid hqf; clear hqf
        go_wp2_with fail
        refine HH.out.mono ?_
        rintro e wx ⟨rfl, rfl⟩
        clear HH g0 r1 r2 d3
        have kx2 := (KX.out).below (below_dr ((wr.alloc (.cells #[.int .i64 x.f, .int .i64 x.e, .int .i64 x.t] 83)))) (KX.out).lt
        have HCD := Lib.hid (HCX.out.quiet (below_dr ((wr.alloc (.cells #[.int .i64 x.f, .int .i64 x.e, .int .i64 x.t] 83)))))
        go_upto_region 16 with fail
        refine wp_region_U (fun W => W.cell? ⟨wr.heap.size, 0, none⟩ = some (.int .i64 x.f) ∧ W.cell? ⟨wr.heap.size, 2, none⟩ = some (.int .i64 x.t)) (fun W => W.cell? ⟨w.heap.size + 1, (x.t).toNat, none⟩ = some (.bool qt) ∧ W.cell? ⟨w.heap.size + 1, (x.f).toNat, none⟩ = some (.bool qf)) 16 (by kernel_rfl) ?_
        change anyU _ _ _ _ _ _ _ 17 _ _ _
        generalize hwd : ((wr.alloc (.cells #[.int .i64 x.f, .int .i64 x.e, .int .i64 x.t] 83))).drew = wd at kx2 HCD ⊢
        have HWD := Lib.hid hwd; clear hwd
        have hA0 : wd.cell? ⟨wr.heap.size, 0, none⟩ = some (.int .i64 x.f) ∧ wd.cell? ⟨wr.heap.size, 2, none⟩ = some (.int .i64 x.t) := ⟨kx2.cell (j := 0) rfl, kx2.cell (j := 2) rfl⟩
        have hB0 : wd.cell? ⟨w.heap.size + 1, (x.t).toNat, none⟩ = some (.bool qt) ∧ wd.cell? ⟨w.heap.size + 1, (x.f).toNat, none⟩ = some (.bool qf) := ⟨cell_flag HCD.out.num HQT.out hto0 (by rw [HLEN.out]; exact hto1), cell_flag HCD.out.num HQF.out hfr0 (by rw [HLEN.out]; exact hfr1)⟩
        have g7 : wd.frozen? ⟨w.heap.size + 1, (x.t).toNat, none⟩ = false := HCD.out.num.free _
        have g8 : w.heap.size + 1 < wd.heap.size := HCD.out.lt
        have g9 := hB0.1
        have hsc := grown_setCell wd (w.heap.size + 1) (x.t).toNat (.bool (qt || qf))
        have kx3 := kx2.kept hsc (by intro e; injection e with e; omega)
        have hAF : (wd.setCell ⟨w.heap.size + 1, (x.t).toNat, none⟩ (.bool (qt || qf))).cell? ⟨wr.heap.size, 0, none⟩ = some (.int .i64 x.f) ∧ (wd.setCell ⟨w.heap.size + 1, (x.t).toNat, none⟩ (.bool (qt || qf))).cell? ⟨wr.heap.size, 2, none⟩ = some (.int .i64 x.t) := ⟨kx3.cell (j := 0) rfl, kx3.cell (j := 2) rfl⟩
        have HC9 := Lib.hid (show ClM w (wd.setCell ⟨w.heap.size + 1, (x.t).toNat, none⟩ (.bool (qt || qf))) _ (passF ev false (a.ed.take (q + 1)) N0) from by
         rw [HPS.out, stepF_set (show 0 ≤ eTo false x from hto0) (by rw [HLEN.out]; exact hto1) HHV.out HQT.out HQF.out]
         exact HCD.out.setb (s := eTo false x) hto0 (by rw [HLEN.out]; exact hto1) (qt || qf))
        clear hsc kx2 kx3 HCD
        have g5 : True := trivial
        have g6 : True := trivial
        cases qt with
        | true =>
         (refine uA 0 ?_ rfl hA0 hB0 (fun W hA => ?_) ?_; rotate_left; (· (go_simp; try with_reducible rfl)); refine uA 1 ?_ rfl hA0 hB0 (fun W hA => ?_) ?_; rotate_left; (· (go_simp; try with_reducible rfl)); (try simp only [Act.put, List.setIfInBounds_toArray, List.set_cons_zero, List.set_cons_succ]))
         (refine uA 2 ?_ rfl hA0 hB0 (fun W hA => ?_) ?_; rotate_left; (· (obtain ⟨a0, a1⟩ := hA; go_simp; try with_reducible rfl)); (try simp only [Act.put, List.setIfInBounds_toArray, List.set_cons_zero, List.set_cons_succ]))
         (refine uA 3 ?_ rfl hA0 hB0 (fun W hA => ?_) ?_; rotate_left; (· (go_simp; try with_reducible rfl)); refine uA 4 ?_ rfl hA0 hB0 (fun W hA => ?_) ?_; rotate_left; (· (go_simp; try with_reducible rfl)); (try simp only [Act.put, List.setIfInBounds_toArray, List.set_cons_zero, List.set_cons_succ]))
         (refine uA 5 ?_ rfl hA0 hB0 (fun W hA => ?_) ?_; rotate_left; (· (obtain ⟨a0, a1⟩ := hA; go_simp; try with_reducible rfl)); (try simp only [Act.put, List.setIfInBounds_toArray, List.set_cons_zero, List.set_cons_succ]))
         (refine uA 6 ?_ rfl hA0 hB0 (fun W hA => ?_) ?_; rotate_left; (· (go_simp; try with_reducible rfl)); (try simp only [Act.put, List.setIfInBounds_toArray, List.set_cons_zero, List.set_cons_succ]))
         (refine uB 7 ?_ rfl hA0 hB0 (fun W hA hB => ?_) ?_; rotate_left; (· (obtain ⟨b0, b1⟩ := hB; go_simp; try with_reducible rfl)); (try simp only [Act.put, List.setIfInBounds_toArray, List.set_cons_zero, List.set_cons_succ]))
         (refine uA 8 ?_ rfl hA0 hB0 (fun W hA => ?_) ?_; rotate_left; (· (go_simp; try with_reducible rfl)); (try simp only [Act.put, List.setIfInBounds_toArray, List.set_cons_zero, List.set_cons_succ]))
         (refine uS 9 rfl hA0 hB0 ?_; refine uS 10 rfl hA0 hB0 ?_; refine uS 11 rfl hA0 hB0 ?_; refine uS 12 rfl hA0 hB0 ?_; refine uS 13 rfl hA0 hB0 ?_; (try simp only [Act.put, List.setIfInBounds_toArray, List.set_cons_zero, List.set_cons_succ]))
         (refine uA 14 ?_ rfl hA0 hB0 (fun W hA => ?_) ?_; rotate_left; (· (go_simp; try with_reducible rfl)); refine uA 15 ?_ rfl hA0 hB0 (fun W hA => ?_) ?_; rotate_left; (· (go_simp; try with_reducible rfl)); (try simp only [Act.put, List.setIfInBounds_toArray, List.set_cons_zero, List.set_cons_succ]))
         refine uOne (i := 16) rfl (by kernel_rfl) (fun K hK => ?_)
         go_simp
         (refine hK _ _ ⟨hAF, fun h => absurd (h.symm.trans (by kernel_rfl : _ = true)) Bool.false_ne_true⟩ ?_; clear hK K; (try simp only [Act.put, List.setIfInBounds_toArray, List.set_cons_zero, List.set_cons_succ]))
         refine anyU_done (by kernel_rfl) ?_ _
         clear hA0 hB0 hAF g5 g6 g7 g8 g9
         go_wp2
         go_roundw
         case rel => exact ⟨q + 1, by go_num, by omega, HC9⟩
         case measure => simp [intOf]; omega
        | false =>
         (refine uA 0 ?_ rfl hA0 hB0 (fun W hA => ?_) ?_; rotate_left; (· (go_simp; try with_reducible rfl)); refine uA 1 ?_ rfl hA0 hB0 (fun W hA => ?_) ?_; rotate_left; (· (go_simp; try with_reducible rfl)); (try simp only [Act.put, List.setIfInBounds_toArray, List.set_cons_zero, List.set_cons_succ]))
         (refine uA 2 ?_ rfl hA0 hB0 (fun W hA => ?_) ?_; rotate_left; (· (obtain ⟨a0, a1⟩ := hA; go_simp; try with_reducible rfl)); (try simp only [Act.put, List.setIfInBounds_toArray, List.set_cons_zero, List.set_cons_succ]))
         (refine uA 3 ?_ rfl hA0 hB0 (fun W hA => ?_) ?_; rotate_left; (· (go_simp; try with_reducible rfl)); refine uA 4 ?_ rfl hA0 hB0 (fun W hA => ?_) ?_; rotate_left; (· (go_simp; try with_reducible rfl)); (try simp only [Act.put, List.setIfInBounds_toArray, List.set_cons_zero, List.set_cons_succ]))
         (refine uA 5 ?_ rfl hA0 hB0 (fun W hA => ?_) ?_; rotate_left; (· (obtain ⟨a0, a1⟩ := hA; go_simp; try with_reducible rfl)); (try simp only [Act.put, List.setIfInBounds_toArray, List.set_cons_zero, List.set_cons_succ]))
         (refine uA 6 ?_ rfl hA0 hB0 (fun W hA => ?_) ?_; rotate_left; (· (go_simp; try with_reducible rfl)); (try simp only [Act.put, List.setIfInBounds_toArray, List.set_cons_zero, List.set_cons_succ]))
         (refine uB 7 ?_ rfl hA0 hB0 (fun W hA hB => ?_) ?_; rotate_left; (· (obtain ⟨b0, b1⟩ := hB; go_simp; try with_reducible rfl)); (try simp only [Act.put, List.setIfInBounds_toArray, List.set_cons_zero, List.set_cons_succ]))
         (refine uA 8 ?_ rfl hA0 hB0 (fun W hA => ?_) ?_; rotate_left; (· (go_simp; try with_reducible rfl)); refine uA 9 ?_ rfl hA0 hB0 (fun W hA => ?_) ?_; rotate_left; (· (go_simp; try with_reducible rfl)); refine uA 10 ?_ rfl hA0 hB0 (fun W hA => ?_) ?_; rotate_left; (· (go_simp; try with_reducible rfl)); (try simp only [Act.put, List.setIfInBounds_toArray, List.set_cons_zero, List.set_cons_succ]))
         (refine uA 11 ?_ rfl hA0 hB0 (fun W hA => ?_) ?_; rotate_left; (· (obtain ⟨a0, a1⟩ := hA; go_simp; try with_reducible rfl)); (try simp only [Act.put, List.setIfInBounds_toArray, List.set_cons_zero, List.set_cons_succ]))
         (refine uA 12 ?_ rfl hA0 hB0 (fun W hA => ?_) ?_; rotate_left; (· (go_simp; try with_reducible rfl)); (try simp only [Act.put, List.setIfInBounds_toArray, List.set_cons_zero, List.set_cons_succ]))
         (refine uB 13 ?_ rfl hA0 hB0 (fun W hA hB => ?_) ?_; rotate_left; (· (obtain ⟨b0, b1⟩ := hB; go_simp; try with_reducible rfl)); (try simp only [Act.put, List.setIfInBounds_toArray, List.set_cons_zero, List.set_cons_succ]))
         (refine uA 14 ?_ rfl hA0 hB0 (fun W hA => ?_) ?_; rotate_left; (· (go_simp; try with_reducible rfl)); refine uA 15 ?_ rfl hA0 hB0 (fun W hA => ?_) ?_; rotate_left; (· (go_simp; try with_reducible rfl)); (try simp only [Act.put, List.setIfInBounds_toArray, List.set_cons_zero, List.set_cons_succ]))
         refine uOne (i := 16) rfl (by kernel_rfl) (fun K hK => ?_)
         go_simp
         (refine hK _ _ ⟨hAF, fun h => absurd (h.symm.trans (by kernel_rfl : _ = true)) Bool.false_ne_true⟩ ?_; clear hK K; (try simp only [Act.put, List.setIfInBounds_toArray, List.set_cons_zero, List.set_cons_succ]))
         refine anyU_done (by kernel_rfl) ?_ _
         clear hA0 hB0 hAF g5 g6 g7 g8 g9
         go_wp2
         go_roundw
         case rel => exact ⟨q + 1, by go_num, by omega, HC9⟩
         case measure => simp [intOf]; omega
      ·obtain rfl : q = ne := by omega
       have b4 : ¬ (q : Int) < (q : Int) := by omega
       have hC := HC.out
       rw [List.take_of_length_le (by rw [HLE.out]; exact Nat.le_refl _), ← HPN.out] at hC
       have HC9 := Lib.hid hC; clear hC
       go_wp2
       go_roundw
       case rel => exact ⟨r + 1, by go_num, by omega, HC9⟩
       case measure => simp [intOf]; omega
    ·obtain rfl : r = n := by omega
     have b3 : ¬ (r : Int) < (r : Int) := by omega
     have HON := Lib.hid (show clS a.ed ev false r set = onF N0 by unfold clS; rw [hN0])
     rw [hN0] at HC
     clear hN0
     have HO0 := Lib.hid (World.ownsRow_nil wr (w.heap.size + 2) 3 1)
     go_wp2
     clear d1
     go_loopw [14, 15] (fun s14 s15 wr => ∃ (k m : Nat) (v : Value), s15 = .int .i64 k ∧ s14 = v ∧ k ≤ r ∧ m ≤ k ∧ Hid (((rngI (k : Int)).filter (fun s => fl N0 s)).length = m) ∧ Hid (wr.ownsRow (w.heap.size + 2) 3 1 v m (iv ((rngI (k : Int)).filter (fun s => fl N0 s)))) ∧ Hid (ClM w wr [.slice A na ca, .int .i64 (r : Int), .slice M nm cm, .slice E ne ce] N0)) (fun _ s15 _ => r - (intOf s15).toNat)
     case atStart => exact ⟨0, 0, _, rfl, rfl, Nat.zero_le _, Nat.le_refl _, Lib.hid rfl, HO0, HC⟩
     case round =>
      clear HO0 HC
      obtain ⟨k, m, v, rfl, rfl, hk, hmk, HML, HO, HC⟩ := hrel
      obtain ⟨OA, oc, rfl⟩ := own_shape HO.out
      by_cases hlt : k < r
      ·have b1 : (k : Int) < (r : Int) := by omega
       obtain ⟨q, hq⟩ : ∃ q, N0[k]? = some q := ⟨_, List.getElem?_eq_getElem (by rw [HLN.out]; exact hlt)⟩
       have g1 : wr.cell? ⟨w.heap.size + 1, k, none⟩ = some (.bool q) := HC.out.num.cell (by rw [bvl_get, hq]; rfl)
       have HSN := Lib.hid (onF_snoc hq)
       have hbs : w.heap.size + 2 ≤ wr.heap.size := HC.out.lt
       clear hq
       cases q with
       | true =>
        go_wp2_with (at_builtin; refine wpList_push wr (.int .i64 (k : Int)) rfl (.tmp 87) (.tmp 89) 22 rfl (w.heap.size + 2) 3 (.int .i64 0) 8 Tryd.underlying22 int_info rfl (.slice OA m oc) m _ rfl HO.out rfl rfl (by omega) (by omega) hbs ?_; intro v' w' ho' hg' hb1)
        have HC9 := Lib.hid (show ClM w w' [.slice A na ca, .int .i64 (r : Int), .slice M nm cm, .slice E ne ce] N0 from ⟨HC.out.bel.trans (hb1.mono (by omega)), HC.out.box.below hb1 (by omega), HC.out.num.below hb1 (by omega)⟩)
        go_roundw
        case rel => exact ⟨k + 1, m + 1, _, by go_num, rfl, by omega, by omega, Lib.hid (by rw [Int.natCast_succ, HSN.out, List.length_append, HML.out]; rfl), Lib.hid (by rw [Int.natCast_succ, HSN.out, iv_append]; exact ho'), HC9⟩
        case measure => simp [intOf]; omega
       | false =>
        go_wp2
        go_roundw
        case rel => exact ⟨k + 1, m, _, by go_num, rfl, by omega, by omega, Lib.hid (by rw [Int.natCast_succ, HSN.out]; simpa using HML.out), Lib.hid (by rw [Int.natCast_succ, HSN.out]; simpa using HO.out), HC⟩
        case measure => simp [intOf]; omega
      ·obtain rfl : k = r := by omega
       have b1 : ¬ (k : Int) < (k : Int) := by omega
       have HOF := Lib.hid (show (rngI (k : Int)).filter (fun s => fl N0 s) = onF N0 by unfold onF; rw [HLN.out])
       go_wp2
       go_ret
       have ho := HO.out
       rw [HOF.out] at ho
       have hml := HML.out
       rw [HOF.out] at hml
       rw [HON.out]
       exact ⟨_, rfl, by rw [hml]; exact own_base ho (by omega), HC.out.bel⟩
set_option maxRecDepth 100000 in
set_option maxHeartbeats 3200000 in
theorem reached_true (A M E : Option Addr) (na ca nm cm ne ce : Nat) (a : Aut) (S : Option Addr) (cs ns : Nat) (set : List Int) (V : Option Addr) (cv nv : Nat) (ev : List Int) (n : Nat) (w : World) (h : AutR w w.heap.size A na ca M nm cm E ne ce a) (hw : WF a) (hn : a.st = (n : Int))
  (hsl : set.length = ns) (hS : RdI w w.heap.size S set) (hset : ∀ s ∈ set, 0 ≤ s ∧ s < (n : Int)) (hs1 : ns ≤ cs) (hs2 : cs ≤ 9223372036854775807) (hvl : ev.length = nv) (hV : RdI w w.heap.size V ev) (hv1 : nv ≤ 9223372036854775807) :
  Calls Tryd.prog 36 #[.agg #[.slice A na ca, .int .i64 a.st, .slice M nm cm, .slice E ne ce], .slice S ns cs, .slice V nv cv, .bool true] w (RetO 3 (clS a.ed ev true n set) w) := by
 have hn4 : n ≤ 4096 := by have := hw.st1; omega
 rw [hn]
 have hB0 := box_below w (.cells #[.slice A na ca, .int .i64 (n : Int), .slice M nm cm, .slice E ne ce] 25)
 have k3 : Blk (w.alloc (.cells #[.slice A na ca, .int .i64 (n : Int), .slice M nm cm, .slice E ne ce] 25)) w.heap.size 25 [.slice A na ca, .int .i64 (n : Int), .slice M nm cm, .slice E ne ce] := Blk.new _ _ _
 have hm : ∀ W : World, (Instr.makeSlice 110 (.int .i64 (n : Int)) (.int .i64 (n : Int))).run Tryd.prog W = .ok (.slice (some ⟨W.heap.size, 0, none⟩) n n) (W.alloc (.cells (madeCells #[.bool false] n) 4)) := fun W => run_make_row' 110 4 (.bool false) 1 Tryd.underlying110 bool_info rfl .i64 .i64 n (by omega) (by omega) W
 have HC0 := Lib.hid (show ClM w ((w.alloc (.cells #[.slice A na ca, .int .i64 (n : Int), .slice M nm cm, .slice E ne ce] 25)).alloc (.cells (madeCells #[.bool false] n) 4)) [.slice A na ca, .int .i64 (n : Int), .slice M nm cm, .slice E ne ce] (inF n (set.take 0)) from by
  refine ⟨hB0.alloc hB0.size _, k3.below (box_below _ _) k3.lt, ?_⟩
  show Blk _ _ _ (bvl (List.replicate n false))
  rw [made_bools]
  have := Blk.new (w.alloc (.cells #[.slice A na ca, .int .i64 (n : Int), .slice M nm cm, .slice E ne ce] 25)) 4 (bvl (List.replicate n false))
  rwa [World.size_alloc] at this)
 have HRE := Lib.hid h.re
 have HSS := Lib.hid hS
 have HVV := Lib.hid hV
 have hle := h.le
 have hec := h.ec
 have hcE := h.cE
 have hedl := hw.ed_le
 rw [hle] at hedl
 have HEN := Lib.hid (EdIn.of hw hn)
 have c1 : (w.alloc (.cells #[.slice A na ca, .int .i64 (n : Int), .slice M nm cm, .slice E ne ce] 25)).cell? ⟨w.heap.size, 1, none⟩ = some (.int .i64 (n : Int)) := k3.cell (j := 1) rfl
 have HLE := Lib.hid hle; clear hle
 have HSL := Lib.hid hsl; clear hsl
 have HSET := Lib.hid hset; clear hset
 have HVL := Lib.hid hvl; clear hvl
 clear hB0 k3 h hS hV hw hn
 go_enter Tryd.func36, Tryd.ntmps36
 go_wp2
 clear c1 hm
 go_loopw [10] (fun s10 wr => ∃ k : Nat, s10 = .int .i64 k ∧ k ≤ ns ∧ Hid (ClM w wr [.slice A na ca, .int .i64 (n : Int), .slice M nm cm, .slice E ne ce] (inF n (set.take k)))) (fun s10 _ => ns - (intOf s10).toNat)
 case atStart => exact ⟨0, rfl, Nat.zero_le _, HC0⟩
 case round =>
  clear HC0
  obtain ⟨k, rfl, hk, HC⟩ := hrel
  by_cases hlt : k < ns
  ·obtain ⟨sd, s, rfl, hsb, hss, hsc⟩ := (HSS.out.below HC.out.bel).at_ (k := k) (by have := HSL.out; omega)
   have b1 : (k : Int) < (ns : Int) := by omega
   obtain ⟨s0, s1⟩ := HSET.out s (List.mem_of_getElem? hss)
   have hln := inF_len n (set.take k)
   have g1 : ∃ q, wr.cell? ⟨w.heap.size + 1, s.toNat, none⟩ = some (.bool q) := ⟨_, cell_flag HC.out.num rfl s0 (by rw [hln]; exact s1)⟩
   obtain ⟨q, g1⟩ := g1
   have g2 : wr.frozen? ⟨w.heap.size + 1, s.toNat, none⟩ = false := HC.out.num.free _
   have g3 : w.heap.size + 1 < wr.heap.size := HC.out.lt
   have hC2 := HC.out.put s0 (by rw [hln]; exact s1)
   rw [← inF_snoc n hss] at hC2
   have HC2 := Lib.hid hC2; clear hC2
   clear hss hln
   go_wp2
   go_roundw
   case rel => exact ⟨k + 1, by go_num, by omega, HC2⟩
   case measure => simp [intOf]; omega
  ·have b1 : ¬ (k : Int) < (ns : Int) := by omega
   have hC := HC.out
   rw [List.take_of_length_le (by rw [HSL.out]; omega)] at hC
   have HC1 := Lib.hid (show ClM w wr [.slice A na ca, .int .i64 (n : Int), .slice M nm cm, .slice E ne ce] (itF ev true a.ed 0 (inF n set)) from hC)
   clear hC HC
   go_wp2
   go_loopw [11] (fun s11 wr => ∃ r : Nat, s11 = .int .i64 r ∧ r ≤ n ∧ Hid (ClM w wr [.slice A na ca, .int .i64 (n : Int), .slice M nm cm, .slice E ne ce] (itF ev true a.ed r (inF n set)))) (fun s11 _ => n - (intOf s11).toNat)
   case atStart => exact ⟨0, rfl, Nat.zero_le _, HC1⟩
   case round =>
    clear HC1
    obtain ⟨r, rfl, hr, HC⟩ := hrel
    obtain ⟨N0, hN0⟩ : ∃ N, itF ev true a.ed r (inF n set) = N := ⟨_, rfl⟩
    have HLN := Lib.hid (show N0.length = n by rw [← hN0, itF_len, inF_len])
    have d1 : wr.cell? ⟨w.heap.size, 1, none⟩ = some (.int .i64 (n : Int)) := HC.out.box.cell (j := 1) rfl
    by_cases hrn : r < n
    ·have b3 : (r : Int) < (n : Int) := by omega
     have HPN := Lib.hid (show itF ev true a.ed (r + 1) (inF n set) = passF ev true a.ed N0 by rw [← hN0]; rfl)
     rw [hN0] at HC
     clear hN0
     obtain ⟨wo, rfl⟩ : ∃ wo : World, wo = wr := ⟨_, rfl⟩
     go_wp2
     clear d1
     go_loopw [12] (fun s12 wr => ∃ q : Nat, s12 = .int .i64 q ∧ q ≤ ne ∧ Hid (ClM w wr [.slice A na ca, .int .i64 (n : Int), .slice M nm cm, .slice E ne ce] (passF ev true (a.ed.take q) N0))) (fun s12 _ => ne - (intOf s12).toNat)
     case atStart => exact ⟨0, rfl, Nat.zero_le _, HC⟩
     case round =>
      clear HC
      obtain ⟨q, rfl, hq, HC⟩ := hrel
      have d3 : wr.cell? ⟨w.heap.size, 3, none⟩ = some (.slice E ne ce) := HC.out.box.cell (j := 3) rfl
      by_cases hql : q < ne
      ·obtain ⟨ed, x, rfl, hbe, hxe, g0, g1, g2⟩ := (HRE.out.below HC.out.bel).at_ (k := q) (by have := HLE.out; omega)
       have c1 : (q : Int) < (ne : Int) := by omega
       have r1 : wr.cell? ⟨(ed.add (q * 3)).block, (ed.add (q * 3)).off + 1, none⟩ = some (.int .i64 x.e) := st_cells (j := 0) g1
       have r2 : wr.cell? ⟨(ed.add (q * 3)).block, (ed.add (q * 3)).off + 2, none⟩ = some (.int .i64 x.t) := st_cells (j := 1) g2
       have hmem := List.mem_of_getElem? hxe
       have hfr := HEN.out.fr hmem true
       have hto := HEN.out.to hmem true
       obtain ⟨Nq, hNq⟩ : ∃ Nq, passF ev true (a.ed.take q) N0 = Nq := ⟨_, rfl⟩
       have HPS := Lib.hid (passF_snoc (V := ev) (back := true) hxe N0)
       rw [hNq] at HPS HC
       have HLEN := Lib.hid (show (Nq.length : Int) = (n : Int) by rw [← hNq, passF_len, HLN.out])
       have HCA := HC
       have HCX := Lib.hid (HC.out.quiet (box_below wr (.cells #[.int .i64 x.f, .int .i64 x.e, .int .i64 x.t] 83)))
       have kx : Blk (wr.alloc (.cells #[.int .i64 x.f, .int .i64 x.e, .int .i64 x.t] 83)) wr.heap.size 83 [.int .i64 x.f, .int .i64 x.e, .int .i64 x.t] := Blk.new _ _ _
       have k1 := kx.cell (j := 1) rfl
       have hw1 : w.heap.size + 1 < wr.heap.size := HC.out.lt
       have hfr0 : 0 ≤ x.t := hfr.1
       have hfr1 : x.t < (n : Int) := hfr.2
       have hto0 : 0 ≤ x.f := hto.1
       have hto1 : x.f < (n : Int) := hto.2
       obtain ⟨hv, hhv⟩ : ∃ b, hasB ev x.e = b := ⟨_, rfl⟩
       have HH := Lib.hid (law_has V cv nv ev x.e hv (wr.alloc (.cells #[.int .i64 x.f, .int .i64 x.e, .int .i64 x.t] 83)) HVL.out ((HVV.out.below HCX.out.bel).more HCX.out.bel.size) hv1 hhv)
       have HHV := Lib.hid hhv; clear hhv
       have KX := Lib.hid kx; clear kx
       clear hmem hNq hfr hto hbe hxe HC
       cases hv with
       | false =>
        have HC9 := Lib.hid (show ClM w _ _ (passF ev true (a.ed.take (q + 1)) N0) from by rw [HPS.out, stepF_no HHV.out]; exact HCX.out)
        go_wp2_with fail
        refine HH.out.mono ?_
        rintro e wx ⟨rfl, rfl⟩
        go_wp2
        go_roundw
        case rel => exact ⟨q + 1, by go_num, by omega, HC9⟩
        case measure => simp [intOf]; omega
       | true =>
        obtain ⟨qt, hqt⟩ : ∃ b, fl Nq (eTo true x) = b := ⟨_, rfl⟩
        obtain ⟨qf, hqf⟩ : ∃ b, fl Nq (eFr true x) = b := ⟨_, rfl⟩
        have HQT := Lib.hid hqt; clear hqt
        have HQF := Lib.hid hqf; clear hqf
        go_wp2_with fail
        refine HH.out.mono ?_
        rintro e wx ⟨rfl, rfl⟩
        clear HH g0 r1 r2 d3
        have e0 := KX.out.cell (j := 0) rfl
        have e2 := KX.out.cell (j := 2) rfl
        have f0 := KX.out.free 0
        have f2 := KX.out.free 2
        have lx := KX.out.lt
        have HKS := Lib.hid (show Blk (wr.alloc (.cells #[.int .i64 x.t, .int .i64 x.e, .int .i64 x.f] 83)) wr.heap.size 83 [.int .i64 x.t, .int .i64 x.e, .int .i64 x.f] from Blk.new _ _ [_, _, _])
        have HCS := Lib.hid (show ClM w (wr.alloc (.cells #[.int .i64 x.t, .int .i64 x.e, .int .i64 x.f] 83)) [.slice A na ca, .int .i64 (n : Int), .slice M nm cm, .slice (some ed) ne ce] Nq from HCA.out.quiet (box_below wr _))
        go_upto_region 16 with fail
        clear e0 e2 f0 f2 lx
        have kx2 := (HKS.out).below (below_dr ((wr.alloc (.cells #[.int .i64 x.t, .int .i64 x.e, .int .i64 x.f] 83)))) (HKS.out).lt
        have HCD := Lib.hid (HCS.out.quiet (below_dr ((wr.alloc (.cells #[.int .i64 x.t, .int .i64 x.e, .int .i64 x.f] 83)))))
        go_upto_region 16 with fail
        refine wp_region_U (fun W => W.cell? ⟨wr.heap.size, 0, none⟩ = some (.int .i64 x.t) ∧ W.cell? ⟨wr.heap.size, 2, none⟩ = some (.int .i64 x.f)) (fun W => W.cell? ⟨w.heap.size + 1, (x.f).toNat, none⟩ = some (.bool qt) ∧ W.cell? ⟨w.heap.size + 1, (x.t).toNat, none⟩ = some (.bool qf)) 16 (by kernel_rfl) ?_
        change anyU _ _ _ _ _ _ _ 17 _ _ _
        generalize hwd : ((wr.alloc (.cells #[.int .i64 x.t, .int .i64 x.e, .int .i64 x.f] 83))).drew = wd at kx2 HCD ⊢
        have HWD := Lib.hid hwd; clear hwd
        have hA0 : wd.cell? ⟨wr.heap.size, 0, none⟩ = some (.int .i64 x.t) ∧ wd.cell? ⟨wr.heap.size, 2, none⟩ = some (.int .i64 x.f) := ⟨kx2.cell (j := 0) rfl, kx2.cell (j := 2) rfl⟩
        have hB0 : wd.cell? ⟨w.heap.size + 1, (x.f).toNat, none⟩ = some (.bool qt) ∧ wd.cell? ⟨w.heap.size + 1, (x.t).toNat, none⟩ = some (.bool qf) := ⟨cell_flag HCD.out.num HQT.out hto0 (by rw [HLEN.out]; exact hto1), cell_flag HCD.out.num HQF.out hfr0 (by rw [HLEN.out]; exact hfr1)⟩
        have g7 : wd.frozen? ⟨w.heap.size + 1, (x.f).toNat, none⟩ = false := HCD.out.num.free _
        have g8 : w.heap.size + 1 < wd.heap.size := HCD.out.lt
        have g9 := hB0.1
        have hsc := grown_setCell wd (w.heap.size + 1) (x.f).toNat (.bool (qt || qf))
        have kx3 := kx2.kept hsc (by intro e; injection e with e; omega)
        have hAF : (wd.setCell ⟨w.heap.size + 1, (x.f).toNat, none⟩ (.bool (qt || qf))).cell? ⟨wr.heap.size, 0, none⟩ = some (.int .i64 x.t) ∧ (wd.setCell ⟨w.heap.size + 1, (x.f).toNat, none⟩ (.bool (qt || qf))).cell? ⟨wr.heap.size, 2, none⟩ = some (.int .i64 x.f) := ⟨kx3.cell (j := 0) rfl, kx3.cell (j := 2) rfl⟩
        have HC9 := Lib.hid (show ClM w (wd.setCell ⟨w.heap.size + 1, (x.f).toNat, none⟩ (.bool (qt || qf))) _ (passF ev true (a.ed.take (q + 1)) N0) from by
         rw [HPS.out, stepF_set (show 0 ≤ eTo true x from hto0) (by rw [HLEN.out]; exact hto1) HHV.out HQT.out HQF.out]
         exact HCD.out.setb (s := eTo true x) hto0 (by rw [HLEN.out]; exact hto1) (qt || qf))
        clear hsc kx2 kx3 HCD
        have g5 : True := trivial
        have g6 : True := trivial
        cases qt with
        | true =>
         (refine uA 0 ?_ rfl hA0 hB0 (fun W hA => ?_) ?_; rotate_left; (· (go_simp; try with_reducible rfl)); refine uA 1 ?_ rfl hA0 hB0 (fun W hA => ?_) ?_; rotate_left; (· (go_simp; try with_reducible rfl)); (try simp only [Act.put, List.setIfInBounds_toArray, List.set_cons_zero, List.set_cons_succ]))
         (refine uA 2 ?_ rfl hA0 hB0 (fun W hA => ?_) ?_; rotate_left; (· (obtain ⟨a0, a1⟩ := hA; go_simp; try with_reducible rfl)); (try simp only [Act.put, List.setIfInBounds_toArray, List.set_cons_zero, List.set_cons_succ]))
         (refine uA 3 ?_ rfl hA0 hB0 (fun W hA => ?_) ?_; rotate_left; (· (go_simp; try with_reducible rfl)); refine uA 4 ?_ rfl hA0 hB0 (fun W hA => ?_) ?_; rotate_left; (· (go_simp; try with_reducible rfl)); (try simp only [Act.put, List.setIfInBounds_toArray, List.set_cons_zero, List.set_cons_succ]))
         (refine uA 5 ?_ rfl hA0 hB0 (fun W hA => ?_) ?_; rotate_left; (· (obtain ⟨a0, a1⟩ := hA; go_simp; try with_reducible rfl)); (try simp only [Act.put, List.setIfInBounds_toArray, List.set_cons_zero, List.set_cons_succ]))
         (refine uA 6 ?_ rfl hA0 hB0 (fun W hA => ?_) ?_; rotate_left; (· (go_simp; try with_reducible rfl)); (try simp only [Act.put, List.setIfInBounds_toArray, List.set_cons_zero, List.set_cons_succ]))
         (refine uB 7 ?_ rfl hA0 hB0 (fun W hA hB => ?_) ?_; rotate_left; (· (obtain ⟨b0, b1⟩ := hB; go_simp; try with_reducible rfl)); (try simp only [Act.put, List.setIfInBounds_toArray, List.set_cons_zero, List.set_cons_succ]))
         (refine uA 8 ?_ rfl hA0 hB0 (fun W hA => ?_) ?_; rotate_left; (· (go_simp; try with_reducible rfl)); (try simp only [Act.put, List.setIfInBounds_toArray, List.set_cons_zero, List.set_cons_succ]))
         (refine uS 9 rfl hA0 hB0 ?_; refine uS 10 rfl hA0 hB0 ?_; refine uS 11 rfl hA0 hB0 ?_; refine uS 12 rfl hA0 hB0 ?_; refine uS 13 rfl hA0 hB0 ?_; (try simp only [Act.put, List.setIfInBounds_toArray, List.set_cons_zero, List.set_cons_succ]))
         (refine uA 14 ?_ rfl hA0 hB0 (fun W hA => ?_) ?_; rotate_left; (· (go_simp; try with_reducible rfl)); refine uA 15 ?_ rfl hA0 hB0 (fun W hA => ?_) ?_; rotate_left; (· (go_simp; try with_reducible rfl)); (try simp only [Act.put, List.setIfInBounds_toArray, List.set_cons_zero, List.set_cons_succ]))
         refine uOne (i := 16) rfl (by kernel_rfl) (fun K hK => ?_)
         go_simp
         (refine hK _ _ ⟨hAF, fun h => absurd (h.symm.trans (by kernel_rfl : _ = true)) Bool.false_ne_true⟩ ?_; clear hK K; (try simp only [Act.put, List.setIfInBounds_toArray, List.set_cons_zero, List.set_cons_succ]))
         refine anyU_done (by kernel_rfl) ?_ _
         clear hA0 hB0 hAF g5 g6 g7 g8 g9
         go_wp2
         go_roundw
         case rel => exact ⟨q + 1, by go_num, by omega, HC9⟩
         case measure => simp [intOf]; omega
        | false =>
         (refine uA 0 ?_ rfl hA0 hB0 (fun W hA => ?_) ?_; rotate_left; (· (go_simp; try with_reducible rfl)); refine uA 1 ?_ rfl hA0 hB0 (fun W hA => ?_) ?_; rotate_left; (· (go_simp; try with_reducible rfl)); (try simp only [Act.put, List.setIfInBounds_toArray, List.set_cons_zero, List.set_cons_succ]))
         (refine uA 2 ?_ rfl hA0 hB0 (fun W hA => ?_) ?_; rotate_left; (· (obtain ⟨a0, a1⟩ := hA; go_simp; try with_reducible rfl)); (try simp only [Act.put, List.setIfInBounds_toArray, List.set_cons_zero, List.set_cons_succ]))
         (refine uA 3 ?_ rfl hA0 hB0 (fun W hA => ?_) ?_; rotate_left; (· (go_simp; try with_reducible rfl)); refine uA 4 ?_ rfl hA0 hB0 (fun W hA => ?_) ?_; rotate_left; (· (go_simp; try with_reducible rfl)); (try simp only [Act.put, List.setIfInBounds_toArray, List.set_cons_zero, List.set_cons_succ]))
         (refine uA 5 ?_ rfl hA0 hB0 (fun W hA => ?_) ?_; rotate_left; (· (obtain ⟨a0, a1⟩ := hA; go_simp; try with_reducible rfl)); (try simp only [Act.put, List.setIfInBounds_toArray, List.set_cons_zero, List.set_cons_succ]))
         (refine uA 6 ?_ rfl hA0 hB0 (fun W hA => ?_) ?_; rotate_left; (· (go_simp; try with_reducible rfl)); (try simp only [Act.put, List.setIfInBounds_toArray, List.set_cons_zero, List.set_cons_succ]))
         (refine uB 7 ?_ rfl hA0 hB0 (fun W hA hB => ?_) ?_; rotate_left; (· (obtain ⟨b0, b1⟩ := hB; go_simp; try with_reducible rfl)); (try simp only [Act.put, List.setIfInBounds_toArray, List.set_cons_zero, List.set_cons_succ]))
         (refine uA 8 ?_ rfl hA0 hB0 (fun W hA => ?_) ?_; rotate_left; (· (go_simp; try with_reducible rfl)); refine uA 9 ?_ rfl hA0 hB0 (fun W hA => ?_) ?_; rotate_left; (· (go_simp; try with_reducible rfl)); refine uA 10 ?_ rfl hA0 hB0 (fun W hA => ?_) ?_; rotate_left; (· (go_simp; try with_reducible rfl)); (try simp only [Act.put, List.setIfInBounds_toArray, List.set_cons_zero, List.set_cons_succ]))
         (refine uA 11 ?_ rfl hA0 hB0 (fun W hA => ?_) ?_; rotate_left; (· (obtain ⟨a0, a1⟩ := hA; go_simp; try with_reducible rfl)); (try simp only [Act.put, List.setIfInBounds_toArray, List.set_cons_zero, List.set_cons_succ]))
         (refine uA 12 ?_ rfl hA0 hB0 (fun W hA => ?_) ?_; rotate_left; (· (go_simp; try with_reducible rfl)); (try simp only [Act.put, List.setIfInBounds_toArray, List.set_cons_zero, List.set_cons_succ]))
         (refine uB 13 ?_ rfl hA0 hB0 (fun W hA hB => ?_) ?_; rotate_left; (· (obtain ⟨b0, b1⟩ := hB; go_simp; try with_reducible rfl)); (try simp only [Act.put, List.setIfInBounds_toArray, List.set_cons_zero, List.set_cons_succ]))
         (refine uA 14 ?_ rfl hA0 hB0 (fun W hA => ?_) ?_; rotate_left; (· (go_simp; try with_reducible rfl)); refine uA 15 ?_ rfl hA0 hB0 (fun W hA => ?_) ?_; rotate_left; (· (go_simp; try with_reducible rfl)); (try simp only [Act.put, List.setIfInBounds_toArray, List.set_cons_zero, List.set_cons_succ]))
         refine uOne (i := 16) rfl (by kernel_rfl) (fun K hK => ?_)
         go_simp
         (refine hK _ _ ⟨hAF, fun h => absurd (h.symm.trans (by kernel_rfl : _ = true)) Bool.false_ne_true⟩ ?_; clear hK K; (try simp only [Act.put, List.setIfInBounds_toArray, List.set_cons_zero, List.set_cons_succ]))
         refine anyU_done (by kernel_rfl) ?_ _
         clear hA0 hB0 hAF g5 g6 g7 g8 g9
         go_wp2
         go_roundw
         case rel => exact ⟨q + 1, by go_num, by omega, HC9⟩
         case measure => simp [intOf]; omega
      ·obtain rfl : q = ne := by omega
       have b4 : ¬ (q : Int) < (q : Int) := by omega
       have hC := HC.out
       rw [List.take_of_length_le (by rw [HLE.out]; exact Nat.le_refl _), ← HPN.out] at hC
       have HC9 := Lib.hid hC; clear hC
       go_wp2
       go_roundw
       case rel => exact ⟨r + 1, by go_num, by omega, HC9⟩
       case measure => simp [intOf]; omega
    ·obtain rfl : r = n := by omega
     have b3 : ¬ (r : Int) < (r : Int) := by omega
     have HON := Lib.hid (show clS a.ed ev true r set = onF N0 by unfold clS; rw [hN0])
     rw [hN0] at HC
     clear hN0
     have HO0 := Lib.hid (World.ownsRow_nil wr (w.heap.size + 2) 3 1)
     go_wp2
     clear d1
     go_loopw [14, 15] (fun s14 s15 wr => ∃ (k m : Nat) (v : Value), s15 = .int .i64 k ∧ s14 = v ∧ k ≤ r ∧ m ≤ k ∧ Hid (((rngI (k : Int)).filter (fun s => fl N0 s)).length = m) ∧ Hid (wr.ownsRow (w.heap.size + 2) 3 1 v m (iv ((rngI (k : Int)).filter (fun s => fl N0 s)))) ∧ Hid (ClM w wr [.slice A na ca, .int .i64 (r : Int), .slice M nm cm, .slice E ne ce] N0)) (fun _ s15 _ => r - (intOf s15).toNat)
     case atStart => exact ⟨0, 0, _, rfl, rfl, Nat.zero_le _, Nat.le_refl _, Lib.hid rfl, HO0, HC⟩
     case round =>
      clear HO0 HC
      obtain ⟨k, m, v, rfl, rfl, hk, hmk, HML, HO, HC⟩ := hrel
      obtain ⟨OA, oc, rfl⟩ := own_shape HO.out
      by_cases hlt : k < r
      ·have b1 : (k : Int) < (r : Int) := by omega
       obtain ⟨q, hq⟩ : ∃ q, N0[k]? = some q := ⟨_, List.getElem?_eq_getElem (by rw [HLN.out]; exact hlt)⟩
       have g1 : wr.cell? ⟨w.heap.size + 1, k, none⟩ = some (.bool q) := HC.out.num.cell (by rw [bvl_get, hq]; rfl)
       have HSN := Lib.hid (onF_snoc hq)
       have hbs : w.heap.size + 2 ≤ wr.heap.size := HC.out.lt
       clear hq
       cases q with
       | true =>
        go_wp2_with (at_builtin; refine wpList_push wr (.int .i64 (k : Int)) rfl (.tmp 87) (.tmp 89) 22 rfl (w.heap.size + 2) 3 (.int .i64 0) 8 Tryd.underlying22 int_info rfl (.slice OA m oc) m _ rfl HO.out rfl rfl (by omega) (by omega) hbs ?_; intro v' w' ho' hg' hb1)
        have HC9 := Lib.hid (show ClM w w' [.slice A na ca, .int .i64 (r : Int), .slice M nm cm, .slice E ne ce] N0 from ⟨HC.out.bel.trans (hb1.mono (by omega)), HC.out.box.below hb1 (by omega), HC.out.num.below hb1 (by omega)⟩)
        go_roundw
        case rel => exact ⟨k + 1, m + 1, _, by go_num, rfl, by omega, by omega, Lib.hid (by rw [Int.natCast_succ, HSN.out, List.length_append, HML.out]; rfl), Lib.hid (by rw [Int.natCast_succ, HSN.out, iv_append]; exact ho'), HC9⟩
        case measure => simp [intOf]; omega
       | false =>
        go_wp2
        go_roundw
        case rel => exact ⟨k + 1, m, _, by go_num, rfl, by omega, by omega, Lib.hid (by rw [Int.natCast_succ, HSN.out]; simpa using HML.out), Lib.hid (by rw [Int.natCast_succ, HSN.out]; simpa using HO.out), HC⟩
        case measure => simp [intOf]; omega
      ·obtain rfl : k = r := by omega
       have b1 : ¬ (k : Int) < (k : Int) := by omega
       have HOF := Lib.hid (show (rngI (k : Int)).filter (fun s => fl N0 s) = onF N0 by unfold onF; rw [HLN.out])
       go_wp2
       go_ret
       have ho := HO.out
       rw [HOF.out] at ho
       have hml := HML.out
       rw [HOF.out] at hml
       rw [HON.out]
       exact ⟨_, rfl, by rw [hml]; exact own_base ho (by omega), HC.out.bel⟩
theorem law_reached (back : Bool) (A M E : Option Addr) (na ca nm cm ne ce : Nat) (a : Aut) (S : Option Addr) (cs ns : Nat) (set : List Int) (V : Option Addr) (cv nv : Nat) (ev : List Int) (n : Nat) (w : World) (h : AutR w w.heap.size A na ca M nm cm E ne ce a) (hw : WF a) (hn : a.st = (n : Int))
  (hsl : set.length = ns) (hS : RdI w w.heap.size S set) (hset : ∀ s ∈ set, 0 ≤ s ∧ s < (n : Int)) (hs1 : ns ≤ cs) (hs2 : cs ≤ 9223372036854775807) (hvl : ev.length = nv) (hV : RdI w w.heap.size V ev) (hv1 : nv ≤ 9223372036854775807) :
  Calls Tryd.prog 36 #[.agg #[.slice A na ca, .int .i64 a.st, .slice M nm cm, .slice E ne ce], .slice S ns cs, .slice V nv cv, .bool back] w (RetO 3 (clS a.ed ev back n set) w) := by
 cases back with
 | true => exact reached_true A M E na ca nm cm ne ce a S cs ns set V cv nv ev n w h hw hn hsl hS hset hs1 hs2 hvl hV hv1
 | false => exact reached_false A M E na ca nm cm ne ce a S cs ns set V cv nv ev n w h hw hn hsl hS hset hs1 hs2 hvl hV hv1
end Go.Proofs.YtcchnibgehonoaaDoor
