/- Walks: L03.Make. -/
import Derived.Test.YtddhaidimadliaaGd
import Derived.IntWalk
namespace Go.Proofs.Ytddhaidimadliaa
open Go.RowKit Go

/-- a graph as cells -/
def gcells (g : Gr) : List Value := .int .u8 g.st :: .int .u8 g.mb :: bv g.to
theorem gcells_at {g : Gr} {i k : Nat} (h : g.ok) (hi : i < 5) (hk : k < 5) : (gcells g)[2 + (i * 5 + k)]? = some (.int .u8 (g.at_ i k)) ∧ 0 ≤ g.at_ i k ∧ g.at_ i k ≤ 255 := by
 have hl := h.len
 have hlt : i * 5 + k < g.to.length := by omega
 have hg : g.to[i * 5 + k]? = some (g.at_ i k) := by
  unfold Gr.at_
  rw [List.getD_eq_getElem?_getD, List.getElem?_eq_getElem hlt]; rfl
 refine ⟨?_, h.to _ (List.mem_of_getElem? hg)⟩
 rw [show 2 + (i * 5 + k) = (i * 5 + k) + 1 + 1 by omega]
 unfold gcells
 rw [List.getElem?_cons_succ, List.getElem?_cons_succ]
 simp [bv, hg]

set_option maxRecDepth 100000 in
set_option maxHeartbeats 3200000 in
theorem law_Make (A : Option Addr) (ca na : Nat) (al : List Int) (g : Gr) (w : World) (hl : al.length = na) (ha : RdI w w.heap.size A al) (hc1 : na ≤ ca) (_hc2 : ca ≤ 9223372036854775807) (hg : g.ok) (hinc : Inc al) (hr : ∀ x ∈ al, 0 ≤ x ∧ x < 32) :
  Calls Try.prog 44 #[.slice A na ca, .agg (gcells g).toArray] w (RetA (mkG al g) w) := by
 have h32 : na ≤ 32 := by rw [← hl]; exact inc_len (n := 32) hinc hr
 have hB0 := (box_below w (.cells (gcells g).toArray 27)).alloc (by simp) (.cells #[.slice none 0 0, .int .i64 0, .slice none 0 0, .slice none 0 0] 34)
 have hbx : Blk ((w.alloc (.cells (gcells g).toArray 27)).alloc (.cells #[.slice none 0 0, .int .i64 0, .slice none 0 0, .slice none 0 0] 34)) w.heap.size 27 (gcells g) := Blk.alc (Blk.new _ _ _) _
 have hrs : Blk ((w.alloc (.cells (gcells g).toArray 27)).alloc (.cells #[.slice none 0 0, .int .i64 0, .slice none 0 0, .slice none 0 0] 34)) (w.heap.size + 1) 34 [.slice none 0 0, .int .i64 0, .slice none 0 0, .slice none 0 0] := by
  have := Blk.new (w.alloc (.cells (gcells g).toArray 27)) 34 [.slice none 0 0, .int .i64 0, .slice none 0 0, .slice none 0 0]
  rwa [World.size_alloc] at this
 have hsz0 : ((w.alloc (.cells (gcells g).toArray 27)).alloc (.cells #[.slice none 0 0, .int .i64 0, .slice none 0 0, .slice none 0 0] 34)).heap.size = w.heap.size + 2 := by simp
 have ha1 := (ha.below hB0).more hB0.size
 have HE := Lib.hid (ref_Empty A ca na al _ hl ha1 (by omega))
 obtain ⟨w1, hw1⟩ : ∃ w1, w1 = ((w.alloc (.cells (gcells g).toArray 27)).alloc (.cells #[.slice none 0 0, .int .i64 0, .slice none 0 0, .slice none 0 0] 34)) := ⟨_, rfl⟩
 have c0 := hbx.cell (j := 0) rfl
 have gs0 := hg.st.1
 have gs1 := hg.st.2
 rw [← hw1] at hB0 hrs hsz0
 have HBX := hbx
 rw [← hw1] at HBX
 have HA1 := ha1
 rw [← hw1] at HA1
 clear hbx ha1
 have HL := Lib.hid hl; clear hl
 have HHA := Lib.hid ha; clear ha
 have HG := Lib.hid hg; clear hg
 have HINC := Lib.hid hinc; clear hinc
 have HR := Lib.hid hr; clear hr
 have HB0 := Lib.hid hB0; clear hB0
 replace HBX := Lib.hid HBX
 replace HA1 := Lib.hid HA1
 have HRS := Lib.hid hrs; clear hrs
 have HS0 := Lib.hid hsz0; clear hsz0
 by_cases h250 : 250 ≤ g.st
 ·have hmk : mkG al g = ⟨al, 0, [], []⟩ := by unfold mkG; rw [if_pos h250]
  have HW1 := Lib.hid hw1; clear hw1
  have HMK := Lib.hid hmk; clear hmk
  go_enter Try.func44, Try.ntmps44
  go_wp2_with fail
  refine HE.out.mono ?_
  rw [← HW1.out]
  rintro e w3 ⟨V, nv, cv, rfl, hlv, hov, hb3⟩
  have hrs := HRS.out.below hb3 HRS.out.lt
  have hB := HB0.out.trans (hb3.mono HB0.out.size)
  have f0 := hrs.free 0
  have f1 := hrs.free 1
  have f2 := hrs.free 2
  have f3 := hrs.free 3
  have e0 := hrs.cell (j := 0) rfl
  have e1 := hrs.cell (j := 1) rfl
  have e2 := hrs.cell (j := 2) rfl
  have e3 := hrs.cell (j := 3) rfl
  have l0 : w.heap.size + 1 < w3.heap.size := hrs.lt
  have HLV := Lib.hid hlv; clear hlv
  have HOV := Lib.hid hov; clear hov
  have HB := Lib.hid hB; clear hB
  clear hb3
  go_wp2
  have hb3 := (((hrs.set (j := 0) (by simp) (.slice V nv cv)).set (j := 1) (by simp) (.int .i64 0)).set (j := 2) (by simp) (.slice none 0 0)).set (j := 3) (by simp) (.slice none 0 0)
  have z0 := hb3.cell (j := 0) rfl
  have z1 := hb3.cell (j := 1) rfl
  have z2 := hb3.cell (j := 2) rfl
  have z3 := hb3.cell (j := 3) rfl
  refine bodyPost_ret (v := .agg #[.slice V nv cv, .int .i64 0, .slice none 0 0, .slice none 0 0]) (by simp [results, Try.results44, go_sem, z0, z1, z2, z3]) rfl ?_
  have hg5 : w3.grownBy ((((w3.setCell ⟨w.heap.size + 1, 0, none⟩ (.slice V nv cv)).setCell ⟨w.heap.size + 1, 1, none⟩ (.int .i64 0)).setCell ⟨w.heap.size + 1, 2, none⟩ (.slice none 0 0)).setCell ⟨w.heap.size + 1, 3, none⟩ (.slice none 0 0)) (some (w.heap.size + 1)) := (((grown_setCell _ _ _ _).trans (grown_setCell _ _ _ _)).trans (grown_setCell _ _ _ _)).trans (grown_setCell _ _ _ _)
  rw [HMK.out]
  have hO : AutO w3 (w.heap.size + 2) V nv cv none 0 0 none 0 0 ⟨al, 0, [], []⟩ := ⟨HLV.out, own_base HOV.out (by have := HS0.out; omega), rfl, World.ownsRow_nil _ _ _ _, rfl, World.ownsRow_nil _ _ _ _⟩
  exact ⟨V, nv, cv, none, 0, 0, none, 0, 0, rfl, (hO.low hg5 (Nat.lt_succ_self _)).down (by omega), HB.out.grown hg5 HB.out.size (fun j hj => by injection hj with hj; omega)⟩
 have d250 : decide (250 ≤ g.st) = false := decide_eq_false h250
 have h249 : g.st < 250 := by omega
 have hmk : mkG al g = canA (rawG al g) := by unfold mkG; rw [if_neg h250]
 have hwf := rawG_wf HG.out HINC.out HR.out
 obtain ⟨n, hn⟩ : ∃ n, g.n = n := ⟨_, rfl⟩
 have hn5 := g.n_le
 rw [hn] at hn5
 have hng : 1 + g.st % 5 = (n : Int) := by rw [← hn]; unfold Gr.n; omega
 have HW1 := Lib.hid hw1; clear hw1
 have HMK := Lib.hid hmk; clear hmk
 have HWF := Lib.hid hwf; clear hwf
 have HN := Lib.hid hn; clear hn
 clear h250
 obtain ⟨n1, n5⟩ := hn5
 go_enter Try.func44, Try.ntmps44
 go_wp2_with fail
 refine HE.out.mono ?_
 rw [← HW1.out]
 rintro e w3 ⟨V, nv, cv, rfl, hlv, hov, hb3⟩
 replace c0 : w3.cell? ⟨w.heap.size, 0, none⟩ = some (.int .u8 g.st) := (HBX.out.below hb3 HBX.out.lt).cell (j := 0) rfl
 have HB13 := Lib.hid hb3
 have hl3 : w.heap.size < w3.heap.size := (HBX.out.below hb3 HBX.out.lt).lt
 have HLV := Lib.hid hlv; clear hlv
 have HOV := Lib.hid (own_base (base := w.heap.size + 2) hov (by have := HS0.out; omega))
 clear hb3 hov HE
 go_wp2
 have HS := Lib.hid (show Bld w3 (w3.alloc (.cells #[.slice V nv cv, .int .i64 (n : Int), .slice none 0 0, .slice none 0 0] 34)) (.slice V nv cv) (.int .i64 (n : Int)) (.slice none 0 0) (.slice none 0 0) 0 0 (setB g.mb 0) (edsG al g 0) from Bld.start _ _ _)
 go_loopw [6] (fun s6 wr => ∃ (i km ke : Nat) (mv ev : Value), s6 = .int .i64 i ∧ i ≤ n ∧ km ≤ i ∧ ke ≤ i * 5 ∧ Hid (Bld w3 wr (.slice V nv cv) (.int .i64 (n : Int)) mv ev km ke (setB g.mb i) (edsG al g i))) (fun s6 _ => n - (intOf s6).toNat)
 case atStart => exact ⟨0, 0, 0, _, _, rfl, Nat.zero_le _, by omega, by omega, HS⟩
 case round =>
  clear HS c0
  obtain ⟨i, km, ke, mv, ev, rfl, hin, hkm, hke, HS⟩ := hrel
  obtain ⟨MA, mc, rfl⟩ := own_shape HS.out.mrk
  have hBw := HB13.out.trans (HS.out.bel.mono HB13.out.size)
  have hbw := HBX.out.below hBw HBX.out.lt
  have hsz3 : w3.heap.size < wr.heap.size := HS.out.lt
  have o1 : wr.cell? ⟨w3.heap.size, 1, none⟩ = some (.int .i64 (n : Int)) := HS.out.blk.cell (j := 1) rfl
  have c1 : wr.cell? ⟨w.heap.size, 1, none⟩ = some (.int .u8 g.mb) := hbw.cell (j := 1) rfl
  have mb0 := HG.out.mb.1
  have mb1 := HG.out.mb.2
  by_cases hlt : i < n
  ·have b1 : (i : Int) < (n : Int) := by omega
   clear hBw hbw
   obtain ⟨wo, rfl⟩ : ∃ wo : World, wo = wr := ⟨_, rfl⟩
   cases hq : bitB g.mb i with
   | true =>
    have hb2 : (bits BinOp.and IntKind.u8 (g.mb / 2 ^ i) 1 == 1) = true := bit_u8 hq mb0 mb1
    have HMK2 := Lib.hid (show setB g.mb i ++ [(i : Int)] = setB g.mb (i + 1) by rw [setB_yes hq])
    have g2 : wo.cell? ⟨w3.heap.size, 2, none⟩ = some (.slice MA km mc) := HS.out.blk.cell (j := 2) rfl
    have hbs : w3.heap.size + 1 ≤ wo.heap.size := HS.out.lt
    clear hq
    go_wp2_with (at_builtin; refine wpList_pushA _ [.int .i64 (i : Int)] rfl (.tmp 35) (.tmp 37) 31 rfl (w3.heap.size + 1) 3 (.int .i64 0) 1 8 Try.underlying31 int_info rfl (by decide) rfl (.slice MA km mc) km _ rfl HS.out.mrk rfl (fun u hu => by simp at hu; subst hu; rfl) (by omega) (by omega) hbs ?_; intro MA2 mc2 w8 ho8 hg8 hl8; have B8 := HS.out.blk.kept hg8 (own_lt_ne HS.out.mrk (Nat.lt_succ_self _)); have e8 : w8.cell? ⟨w3.heap.size, 2, none⟩ = some (.slice MA km mc) := B8.cell (j := 2) rfl; have f8 : w8.frozen? ⟨w3.heap.size, 2, none⟩ = false := B8.free 2; have l8 : w3.heap.size < w8.heap.size := B8.lt; have HS8 := Lib.hid (HS.out.mark (i := (i : Int)) ho8 hg8); clear B8 ho8 hg8 hl8)
    have HS9 := Lib.hid (show Bld w3 _ (.slice V nv cv) (.int .i64 (n : Int)) (.slice MA2 (km + 1) mc2) ev (km + 1) ke (setB g.mb i ++ [(i : Int)]) (edsG al g i ++ rowG al g i 0) from by
     have := HS8.out
     rw [show edsG al g i ++ rowG al g i 0 = edsG al g i by simp [rowG]]
     exact this)
    go_loopw [7] (fun s7 wr => ∃ (j kf : Nat) (ev : Value), s7 = .int .i64 j ∧ j ≤ 5 ∧ j ≤ na ∧ kf ≤ i * 5 + j ∧ Hid (Bld w3 wr (.slice V nv cv) (.int .i64 (n : Int)) (.slice MA2 (km + 1) mc2) ev (km + 1) kf (setB g.mb i ++ [(i : Int)]) (edsG al g i ++ rowG al g i j))) (fun s7 _ => 5 - (intOf s7).toNat)
    case atStart => exact ⟨0, ke, _, rfl, by omega, by omega, by omega, HS9⟩
    case round =>
     clear HS9
     obtain ⟨j, kf, ev, rfl, hj5, hjn, hkf, HZ⟩ := hrel
     obtain ⟨EA, ec, rfl⟩ := own_shape HZ.out.edg
     have hBw := HB13.out.trans (HZ.out.bel.mono HB13.out.size)
     have hbw := HBX.out.below hBw HBX.out.lt
     have hsz3 : w3.heap.size < wr.heap.size := HZ.out.lt
     have o1 : wr.cell? ⟨w3.heap.size, 1, none⟩ = some (.int .i64 (n : Int)) := HZ.out.blk.cell (j := 1) rfl
     by_cases hjl : j < na
     ·by_cases hj5' : j < 5
      ·have hA3 := (HHA.out.below HB0.out).below (hBw.mono HB0.out.size)
       obtain ⟨ad, v, hA, hvb, hve, hvc⟩ := hA3.at_ (k := j) (by have := HL.out; omega)
       subst hA
       have b3 : (j : Int) < (na : Int) := by omega
       have b4 : (j : Int) < 5 := by omega
       have b5 : (i : Int) < 5 := by omega
       obtain ⟨hgc, hg0, hg1⟩ := gcells_at HG.out (show i < 5 by omega) hj5'
       have hgv : wr.cell? ⟨w.heap.size, 2 + i * 5 + j, none⟩ = some (.int .u8 (g.at_ i j)) := by rw [Nat.add_assoc]; exact hbw.cell hgc
       obtain ⟨t, ht⟩ : ∃ t, g.too i j = t := ⟨_, rfl⟩
       have htd : g.at_ i j % ((n : Int) + 2) = t := by rw [← ht, ← HN.out]; rfl
       have HVE := Lib.hid hve; clear hve
       clear hgc hBw hbw hA3
       go_wp2
       go_quiet (fail)
       have HZq := Lib.hid (HZ.out.quiet (below_drewN (Below.refl _ _) nq))
       have o1q : (wr.drewN nq).cell? ⟨w3.heap.size, 1, none⟩ = some (.int .i64 (n : Int)) := o1
       have hvq : (wr.drewN nq).cell? (ad.add j) = some (.int .i64 v) := hvc
       obtain ⟨wq, hwq⟩ : ∃ wq, wq = wr.drewN nq := ⟨_, rfl⟩
       rw [← hwq] at HZq o1q hvq
       rw [← hwq]
       have HWQ := Lib.hid hwq; clear hwq
       clear o1 hvc hgv HZ
       have hl3' := hl3
       have hv3 : ad.block < w3.heap.size := by omega
       by_cases htn : t < (n : Int)
       ·have HEQ := Lib.hid (rowG_yes (i := i) HVE.out (show g.too i j < (g.n : Int) by rw [ht, HN.out]; exact htn))
        rw [ht] at HEQ
        have f3 : wq.cell? ⟨w3.heap.size, 3, none⟩ = some (.slice EA kf ec) := HZq.out.blk.cell (j := 3) rfl
        have hsz4 : w3.heap.size < wq.heap.size := HZq.out.lt
        have HT := Lib.hid ht; clear ht
        go_wp2
        refine wp_region_U (fun W => W.cell? (ad.add j) = some (.int .i64 v)) (fun W => W.cell? ⟨w3.heap.size, 3, none⟩ = some (.slice EA kf ec)) 10 (by kernel_rfl) ?_
        change anyU _ _ _ _ _ _ _ 13 _ _ _
        have hA0 : wq.drew.cell? (ad.add j) = some (.int .i64 v) := hvq
        have hB0 : wq.drew.cell? ⟨w3.heap.size, 3, none⟩ = some (.slice EA kf ec) := f3
        have HZ2 := Lib.hid (HZq.out.quiet (below_dr wq))
        have hsz5 : w3.heap.size + 1 ≤ wq.drew.heap.size := hsz4
        clear f3 HZq hvq o1q hsz4
        generalize hwd : wq.drew = wd at HZ2 hsz5 hA0 hB0 ⊢
        have HWD := Lib.hid hwd; clear hwd
        (refine uA 0 ?_ rfl hA0 hB0 (fun W hA => ?_) ?_; rotate_left; (· (go_simp; try with_reducible rfl)); (try simp only [Act.put, List.setIfInBounds_toArray, List.set_cons_zero, List.set_cons_succ]))
        (refine uB 1 ?_ rfl hA0 hB0 (fun W hA hB => ?_) ?_; rotate_left; (· (go_simp; try with_reducible rfl)); (try simp only [Act.put, List.setIfInBounds_toArray, List.set_cons_zero, List.set_cons_succ]))
        (refine uA 2 ?_ rfl hA0 hB0 (fun W hA => ?_) ?_; rotate_left; (· (go_simp; try with_reducible rfl)); refine uA 3 ?_ rfl hA0 hB0 (fun W hA => ?_) ?_; rotate_left; (· (go_simp; try with_reducible rfl)); refine uA 4 ?_ rfl hA0 hB0 (fun W hA => ?_) ?_; rotate_left; (· (go_simp; try with_reducible rfl)); refine uA 5 ?_ rfl hA0 hB0 (fun W hA => ?_) ?_; rotate_left; (· (go_simp; try with_reducible rfl)); refine uA 6 ?_ rfl hA0 hB0 (fun W hA => ?_) ?_; rotate_left; (· (go_simp; try with_reducible rfl)); refine uA 7 ?_ rfl hA0 hB0 (fun W hA => ?_) ?_; rotate_left; (· (go_simp; try with_reducible rfl)); (try simp only [Act.put, List.setIfInBounds_toArray, List.set_cons_zero, List.set_cons_succ]))
        refine uOne (i := 8) rfl (by kernel_rfl) (fun K hK => ?_)
        go_simp
        (refine hK _ _ ⟨hA0, fun _ => hB0⟩ ?_; clear hK K; (try simp only [Act.put, List.setIfInBounds_toArray, List.set_cons_zero, List.set_cons_succ]))
        refine uOne (i := 9) rfl (by kernel_rfl) (fun K hK => ?_)
        go_simp
        have hA1 : (wd.alloc (.cells #[.int .i64 (i : Int), .int .i64 v, .int .i64 t] 106)).cell? (ad.add j) = some (.int .i64 v) := (World.cell?_alloc_lt _ _ _ (by rw [block_of_add]; omega)).trans hA0
        have hB1 : (wd.alloc (.cells #[.int .i64 (i : Int), .int .i64 v, .int .i64 t] 106)).cell? ⟨w3.heap.size, 3, none⟩ = some (.slice EA kf ec) := (World.cell?_alloc_lt wd _ ⟨w3.heap.size, 3, none⟩ hsz5).trans hB0
        (refine hK _ _ ⟨hA1, fun _ => hB1⟩ ?_; clear hK K; (try simp only [Act.put, List.setIfInBounds_toArray, List.set_cons_zero, List.set_cons_succ]))
        refine uOne (i := 10) rfl (by kernel_rfl) (fun K hK => ?_)
        refine step_pushN wd [.int .i64 (i : Int), .int .i64 v, .int .i64 t] (by rfl) (.tmp 66) (.tmp 74) 32 (by rfl) (w3.heap.size + 1) 106 (.agg #[.int .i64 0, .int .i64 0, .int .i64 0]) 3 24 Try.underlying32 edge_info (by rfl) (by decide) (by rfl) (.slice EA kf ec) kf _ (by rfl) HZ2.out.edg (by rfl) (fun q hq => by simp at hq; rcases hq with rfl | rfl | rfl <;> rfl) (by omega) (by omega) hsz5 ?_
        intro A9 c9 w9 ho9 hg9
        have B9 := HZ2.out.blk.kept hg9 (own_lt_ne HZ2.out.edg (Nat.lt_succ_self _))
        have e9 : w9.cell? ⟨w3.heap.size, 3, none⟩ = some (.slice EA kf ec) := B9.cell (j := 3) rfl
        have f9 : w9.frozen? ⟨w3.heap.size, 3, none⟩ = false := B9.free 3
        have l9 : w3.heap.size < w9.heap.size := B9.lt
        have HS9 := Lib.hid (HZ2.out.edge (x := ⟨i, v, t⟩) ho9 hg9)
        have hA2 : w9.cell? (ad.add j) = some (.int .i64 v) := (hg9.cell_far _ (by rw [block_of_add]; omega) (fun e => by have := (HZ2.out.edg.lt _ e.symm).1; rw [block_of_add] at this; omega)).trans hA0
        have g5 : w3.cell? (ad.add j) = some (.int .i64 v) := (HZ2.out.bel.cell (p := ad.add j) (by rw [block_of_add]; exact hv3)).symm.trans hA0
        have hA3 : (w9.setCell ⟨w3.heap.size, 3, none⟩ (.slice A9 (kf + 1) c9)).cell? (ad.add j) = some (.int .i64 v) := (HS9.out.bel.cell (p := ad.add j) (by rw [block_of_add]; exact hv3)).trans g5
        clear B9 ho9 hg9 hA1 hB1 hA0 hB0 g5
        (refine hK _ _ ⟨hA2, fun h => absurd (h.symm.trans (by kernel_rfl : _ = true)) Bool.false_ne_true⟩ ?_; clear hK K; (try simp only [Act.put, List.setIfInBounds_toArray, List.set_cons_zero, List.set_cons_succ]))
        refine uOne (i := 11) rfl (by kernel_rfl) (fun K hK => ?_)
        go_simp
        (refine hK _ _ ⟨hA2, fun h => absurd (h.symm.trans (by kernel_rfl : _ = true)) Bool.false_ne_true⟩ ?_; clear hK K; (try simp only [Act.put, List.setIfInBounds_toArray, List.set_cons_zero, List.set_cons_succ]))
        clear hA2
        refine uOne (i := 12) rfl (by kernel_rfl) (fun K hK => ?_)
        go_simp
        (refine hK _ _ ⟨hA3, fun h => absurd (h.symm.trans (by kernel_rfl : _ = true)) Bool.false_ne_true⟩ ?_; clear hK K; (try simp only [Act.put, List.setIfInBounds_toArray, List.set_cons_zero, List.set_cons_succ]))
        refine anyU_done (by kernel_rfl) ?_ _
        clear hA3 e9 f9 l9
        go_wp2
        go_roundw
        case rel => exact ⟨j + 1, kf + 1, _, by go_num, by omega, by omega, by omega, Lib.hid (by rw [HEQ.out, ← List.append_assoc]; exact HS9.out)⟩
        case measure => simp [intOf]; omega
       ·have HEQ := Lib.hid (rowG_no (i := i) HVE.out (show ¬ g.too i j < (g.n : Int) by rw [ht, HN.out]; exact htn))
        have e1 : decide (t < (n : Int)) = false := decide_eq_false htn
        have HT := Lib.hid ht; clear ht
        clear htn
        go_wp2
        go_roundw
        case rel => exact ⟨j + 1, kf, _, by go_num, by omega, by omega, by omega, by rw [HEQ.out]; exact HZq⟩
        case measure => simp [intOf]; omega
      ·obtain rfl : j = 5 := by omega
       have hwid : wid al = 5 := by unfold wid; have := HL.out; omega
       have HZ2 := Lib.hid (show Bld w3 wr (.slice V nv cv) (.int .i64 (n : Int)) (.slice MA2 (km + 1) mc2) (.slice EA kf ec) (km + 1) kf (setB g.mb i ++ [(i : Int)]) (edsG al g (i + 1)) from by
        have := HZ.out
        rw [← hwid] at this
        exact this)
       have b3 : (5 : Int) < (na : Int) := by omega
       clear hBw hbw hwid
       go_wp2
       go_roundw
       case rel => exact ⟨i + 1, km + 1, kf, _, _, by go_num, by omega, by omega, by omega, by rw [← HMK2.out]; exact HZ2⟩
       case measure => simp [intOf]; omega
     ·obtain rfl : j = na := by omega
      have hwid : wid al = j := by unfold wid; have := HL.out; omega
      have HZ2 := Lib.hid (show Bld w3 wr (.slice V nv cv) (.int .i64 (n : Int)) (.slice MA2 (km + 1) mc2) (.slice EA kf ec) (km + 1) kf (setB g.mb i ++ [(i : Int)]) (edsG al g (i + 1)) from by
       have := HZ.out
       rw [← hwid] at this
       exact this)
      clear hBw hbw hwid
      go_wp2
      go_roundw
      case rel => exact ⟨i + 1, km + 1, kf, _, _, by go_num, by omega, by omega, by omega, by rw [← HMK2.out]; exact HZ2⟩
      case measure => simp [intOf]; omega
   | false =>
    have hb2 : (bits BinOp.and IntKind.u8 (g.mb / 2 ^ i) 1 == 1) = false := bit_u8 hq mb0 mb1
    have HMK2 := Lib.hid (show setB g.mb i = setB g.mb (i + 1) by rw [setB_no hq])
    clear hq
    go_wp2
    have HS9 := Lib.hid (show Bld w3 _ (.slice V nv cv) (.int .i64 (n : Int)) (.slice MA km mc) ev (km) ke (setB g.mb i) (edsG al g i ++ rowG al g i 0) from by
     have := HS.out
     rw [show edsG al g i ++ rowG al g i 0 = edsG al g i by simp [rowG]]
     exact this)
    go_loopw [7] (fun s7 wr => ∃ (j kf : Nat) (ev : Value), s7 = .int .i64 j ∧ j ≤ 5 ∧ j ≤ na ∧ kf ≤ i * 5 + j ∧ Hid (Bld w3 wr (.slice V nv cv) (.int .i64 (n : Int)) (.slice MA km mc) ev (km) kf (setB g.mb i) (edsG al g i ++ rowG al g i j))) (fun s7 _ => 5 - (intOf s7).toNat)
    case atStart => exact ⟨0, ke, _, rfl, by omega, by omega, by omega, HS9⟩
    case round =>
     clear HS9
     obtain ⟨j, kf, ev, rfl, hj5, hjn, hkf, HZ⟩ := hrel
     obtain ⟨EA, ec, rfl⟩ := own_shape HZ.out.edg
     have hBw := HB13.out.trans (HZ.out.bel.mono HB13.out.size)
     have hbw := HBX.out.below hBw HBX.out.lt
     have hsz3 : w3.heap.size < wr.heap.size := HZ.out.lt
     have o1 : wr.cell? ⟨w3.heap.size, 1, none⟩ = some (.int .i64 (n : Int)) := HZ.out.blk.cell (j := 1) rfl
     by_cases hjl : j < na
     ·by_cases hj5' : j < 5
      ·have hA3 := (HHA.out.below HB0.out).below (hBw.mono HB0.out.size)
       obtain ⟨ad, v, hA, hvb, hve, hvc⟩ := hA3.at_ (k := j) (by have := HL.out; omega)
       subst hA
       have b3 : (j : Int) < (na : Int) := by omega
       have b4 : (j : Int) < 5 := by omega
       have b5 : (i : Int) < 5 := by omega
       obtain ⟨hgc, hg0, hg1⟩ := gcells_at HG.out (show i < 5 by omega) hj5'
       have hgv : wr.cell? ⟨w.heap.size, 2 + i * 5 + j, none⟩ = some (.int .u8 (g.at_ i j)) := by rw [Nat.add_assoc]; exact hbw.cell hgc
       obtain ⟨t, ht⟩ : ∃ t, g.too i j = t := ⟨_, rfl⟩
       have htd : g.at_ i j % ((n : Int) + 2) = t := by rw [← ht, ← HN.out]; rfl
       have HVE := Lib.hid hve; clear hve
       clear hgc hBw hbw hA3
       go_wp2
       go_quiet (fail)
       have HZq := Lib.hid (HZ.out.quiet (below_drewN (Below.refl _ _) nq))
       have o1q : (wr.drewN nq).cell? ⟨w3.heap.size, 1, none⟩ = some (.int .i64 (n : Int)) := o1
       have hvq : (wr.drewN nq).cell? (ad.add j) = some (.int .i64 v) := hvc
       obtain ⟨wq, hwq⟩ : ∃ wq, wq = wr.drewN nq := ⟨_, rfl⟩
       rw [← hwq] at HZq o1q hvq
       rw [← hwq]
       have HWQ := Lib.hid hwq; clear hwq
       clear o1 hvc hgv HZ
       have hl3' := hl3
       have hv3 : ad.block < w3.heap.size := by omega
       by_cases htn : t < (n : Int)
       ·have HEQ := Lib.hid (rowG_yes (i := i) HVE.out (show g.too i j < (g.n : Int) by rw [ht, HN.out]; exact htn))
        rw [ht] at HEQ
        have f3 : wq.cell? ⟨w3.heap.size, 3, none⟩ = some (.slice EA kf ec) := HZq.out.blk.cell (j := 3) rfl
        have hsz4 : w3.heap.size < wq.heap.size := HZq.out.lt
        have HT := Lib.hid ht; clear ht
        go_wp2
        refine wp_region_U (fun W => W.cell? (ad.add j) = some (.int .i64 v)) (fun W => W.cell? ⟨w3.heap.size, 3, none⟩ = some (.slice EA kf ec)) 10 (by kernel_rfl) ?_
        change anyU _ _ _ _ _ _ _ 13 _ _ _
        have hA0 : wq.drew.cell? (ad.add j) = some (.int .i64 v) := hvq
        have hB0 : wq.drew.cell? ⟨w3.heap.size, 3, none⟩ = some (.slice EA kf ec) := f3
        have HZ2 := Lib.hid (HZq.out.quiet (below_dr wq))
        have hsz5 : w3.heap.size + 1 ≤ wq.drew.heap.size := hsz4
        clear f3 HZq hvq o1q hsz4
        generalize hwd : wq.drew = wd at HZ2 hsz5 hA0 hB0 ⊢
        have HWD := Lib.hid hwd; clear hwd
        (refine uA 0 ?_ rfl hA0 hB0 (fun W hA => ?_) ?_; rotate_left; (· (go_simp; try with_reducible rfl)); (try simp only [Act.put, List.setIfInBounds_toArray, List.set_cons_zero, List.set_cons_succ]))
        (refine uB 1 ?_ rfl hA0 hB0 (fun W hA hB => ?_) ?_; rotate_left; (· (go_simp; try with_reducible rfl)); (try simp only [Act.put, List.setIfInBounds_toArray, List.set_cons_zero, List.set_cons_succ]))
        (refine uA 2 ?_ rfl hA0 hB0 (fun W hA => ?_) ?_; rotate_left; (· (go_simp; try with_reducible rfl)); refine uA 3 ?_ rfl hA0 hB0 (fun W hA => ?_) ?_; rotate_left; (· (go_simp; try with_reducible rfl)); refine uA 4 ?_ rfl hA0 hB0 (fun W hA => ?_) ?_; rotate_left; (· (go_simp; try with_reducible rfl)); refine uA 5 ?_ rfl hA0 hB0 (fun W hA => ?_) ?_; rotate_left; (· (go_simp; try with_reducible rfl)); refine uA 6 ?_ rfl hA0 hB0 (fun W hA => ?_) ?_; rotate_left; (· (go_simp; try with_reducible rfl)); refine uA 7 ?_ rfl hA0 hB0 (fun W hA => ?_) ?_; rotate_left; (· (go_simp; try with_reducible rfl)); (try simp only [Act.put, List.setIfInBounds_toArray, List.set_cons_zero, List.set_cons_succ]))
        refine uOne (i := 8) rfl (by kernel_rfl) (fun K hK => ?_)
        go_simp
        (refine hK _ _ ⟨hA0, fun _ => hB0⟩ ?_; clear hK K; (try simp only [Act.put, List.setIfInBounds_toArray, List.set_cons_zero, List.set_cons_succ]))
        refine uOne (i := 9) rfl (by kernel_rfl) (fun K hK => ?_)
        go_simp
        have hA1 : (wd.alloc (.cells #[.int .i64 (i : Int), .int .i64 v, .int .i64 t] 106)).cell? (ad.add j) = some (.int .i64 v) := (World.cell?_alloc_lt _ _ _ (by rw [block_of_add]; omega)).trans hA0
        have hB1 : (wd.alloc (.cells #[.int .i64 (i : Int), .int .i64 v, .int .i64 t] 106)).cell? ⟨w3.heap.size, 3, none⟩ = some (.slice EA kf ec) := (World.cell?_alloc_lt wd _ ⟨w3.heap.size, 3, none⟩ hsz5).trans hB0
        (refine hK _ _ ⟨hA1, fun _ => hB1⟩ ?_; clear hK K; (try simp only [Act.put, List.setIfInBounds_toArray, List.set_cons_zero, List.set_cons_succ]))
        refine uOne (i := 10) rfl (by kernel_rfl) (fun K hK => ?_)
        refine step_pushN wd [.int .i64 (i : Int), .int .i64 v, .int .i64 t] (by rfl) (.tmp 66) (.tmp 74) 32 (by rfl) (w3.heap.size + 1) 106 (.agg #[.int .i64 0, .int .i64 0, .int .i64 0]) 3 24 Try.underlying32 edge_info (by rfl) (by decide) (by rfl) (.slice EA kf ec) kf _ (by rfl) HZ2.out.edg (by rfl) (fun q hq => by simp at hq; rcases hq with rfl | rfl | rfl <;> rfl) (by omega) (by omega) hsz5 ?_
        intro A9 c9 w9 ho9 hg9
        have B9 := HZ2.out.blk.kept hg9 (own_lt_ne HZ2.out.edg (Nat.lt_succ_self _))
        have e9 : w9.cell? ⟨w3.heap.size, 3, none⟩ = some (.slice EA kf ec) := B9.cell (j := 3) rfl
        have f9 : w9.frozen? ⟨w3.heap.size, 3, none⟩ = false := B9.free 3
        have l9 : w3.heap.size < w9.heap.size := B9.lt
        have HS9 := Lib.hid (HZ2.out.edge (x := ⟨i, v, t⟩) ho9 hg9)
        have hA2 : w9.cell? (ad.add j) = some (.int .i64 v) := (hg9.cell_far _ (by rw [block_of_add]; omega) (fun e => by have := (HZ2.out.edg.lt _ e.symm).1; rw [block_of_add] at this; omega)).trans hA0
        have g5 : w3.cell? (ad.add j) = some (.int .i64 v) := (HZ2.out.bel.cell (p := ad.add j) (by rw [block_of_add]; exact hv3)).symm.trans hA0
        have hA3 : (w9.setCell ⟨w3.heap.size, 3, none⟩ (.slice A9 (kf + 1) c9)).cell? (ad.add j) = some (.int .i64 v) := (HS9.out.bel.cell (p := ad.add j) (by rw [block_of_add]; exact hv3)).trans g5
        clear B9 ho9 hg9 hA1 hB1 hA0 hB0 g5
        (refine hK _ _ ⟨hA2, fun h => absurd (h.symm.trans (by kernel_rfl : _ = true)) Bool.false_ne_true⟩ ?_; clear hK K; (try simp only [Act.put, List.setIfInBounds_toArray, List.set_cons_zero, List.set_cons_succ]))
        refine uOne (i := 11) rfl (by kernel_rfl) (fun K hK => ?_)
        go_simp
        (refine hK _ _ ⟨hA2, fun h => absurd (h.symm.trans (by kernel_rfl : _ = true)) Bool.false_ne_true⟩ ?_; clear hK K; (try simp only [Act.put, List.setIfInBounds_toArray, List.set_cons_zero, List.set_cons_succ]))
        clear hA2
        refine uOne (i := 12) rfl (by kernel_rfl) (fun K hK => ?_)
        go_simp
        (refine hK _ _ ⟨hA3, fun h => absurd (h.symm.trans (by kernel_rfl : _ = true)) Bool.false_ne_true⟩ ?_; clear hK K; (try simp only [Act.put, List.setIfInBounds_toArray, List.set_cons_zero, List.set_cons_succ]))
        refine anyU_done (by kernel_rfl) ?_ _
        clear hA3 e9 f9 l9
        go_wp2
        go_roundw
        case rel => exact ⟨j + 1, kf + 1, _, by go_num, by omega, by omega, by omega, Lib.hid (by rw [HEQ.out, ← List.append_assoc]; exact HS9.out)⟩
        case measure => simp [intOf]; omega
       ·have HEQ := Lib.hid (rowG_no (i := i) HVE.out (show ¬ g.too i j < (g.n : Int) by rw [ht, HN.out]; exact htn))
        have e1 : decide (t < (n : Int)) = false := decide_eq_false htn
        have HT := Lib.hid ht; clear ht
        clear htn
        go_wp2
        go_roundw
        case rel => exact ⟨j + 1, kf, _, by go_num, by omega, by omega, by omega, by rw [HEQ.out]; exact HZq⟩
        case measure => simp [intOf]; omega
      ·obtain rfl : j = 5 := by omega
       have hwid : wid al = 5 := by unfold wid; have := HL.out; omega
       have HZ2 := Lib.hid (show Bld w3 wr (.slice V nv cv) (.int .i64 (n : Int)) (.slice MA km mc) (.slice EA kf ec) (km) kf (setB g.mb i) (edsG al g (i + 1)) from by
        have := HZ.out
        rw [← hwid] at this
        exact this)
       have b3 : (5 : Int) < (na : Int) := by omega
       clear hBw hbw hwid
       go_wp2
       go_roundw
       case rel => exact ⟨i + 1, km, kf, _, _, by go_num, by omega, by omega, by omega, by rw [← HMK2.out]; exact HZ2⟩
       case measure => simp [intOf]; omega
     ·obtain rfl : j = na := by omega
      have hwid : wid al = j := by unfold wid; have := HL.out; omega
      have HZ2 := Lib.hid (show Bld w3 wr (.slice V nv cv) (.int .i64 (n : Int)) (.slice MA km mc) (.slice EA kf ec) (km) kf (setB g.mb i) (edsG al g (i + 1)) from by
       have := HZ.out
       rw [← hwid] at this
       exact this)
      clear hBw hbw hwid
      go_wp2
      go_roundw
      case rel => exact ⟨i + 1, km, kf, _, _, by go_num, by omega, by omega, by omega, by rw [← HMK2.out]; exact HZ2⟩
      case measure => simp [intOf]; omega
  ·obtain rfl : i = n := by omega
   obtain ⟨EA, ec, rfl⟩ := own_shape HS.out.edg
   have hrs := HRS.out.below hBw HRS.out.lt
   have hB := HB0.out.trans (hBw.mono HB0.out.size)
   have o0 : wr.cell? ⟨w3.heap.size, 0, none⟩ = some (.slice V nv cv) := HS.out.blk.cell (j := 0) rfl
   have o2 : wr.cell? ⟨w3.heap.size, 2, none⟩ = some (.slice MA km mc) := HS.out.blk.cell (j := 2) rfl
   have o3 : wr.cell? ⟨w3.heap.size, 3, none⟩ = some (.slice EA ke ec) := HS.out.blk.cell (j := 3) rfl
   have hz3 : w.heap.size + 2 ≤ w3.heap.size := by have := HB13.out.size; have := HS0.out; omega
   have hO := HS.out.fin (st := (i : Int)) HLV.out HOV.out (by omega)
   have hraw : rawG al g = ⟨al, (i : Int), setB g.mb i, edsG al g i⟩ := by unfold rawG; rw [HN.out]
   rw [← hraw] at hO
   have hst : (rawG al g).st = (i : Int) := by rw [hraw]
   have HC := Lib.hid (ref_Canonical V nv cv MA km mc EA ke ec (rawG al g) wr hO.rd HWF.out)
   rw [hst] at HC
   have HHB := Lib.hid hB; clear hB
   have HHRS := Lib.hid hrs; clear hrs
   clear hO hraw hst hBw hbw c1
   go_wp2_with fail
   refine HC.out.mono ?_
   rintro e w5 ⟨V5, nv5, cv5, M5, nm5, cm5, E5, ne5, ce5, rfl, hO5, hb5⟩
   have hrs := HHRS.out.below hb5 HHRS.out.lt
   have hB5 := HHB.out.trans (hb5.mono HHB.out.size)
   have hsz5 := hb5.size
   have f0 := hrs.free 0
   have f1 := hrs.free 1
   have f2 := hrs.free 2
   have f3 := hrs.free 3
   have e0 := hrs.cell (j := 0) rfl
   have e1 := hrs.cell (j := 1) rfl
   have e2 := hrs.cell (j := 2) rfl
   have e3 := hrs.cell (j := 3) rfl
   have l0 : w.heap.size + 1 < w5.heap.size := hrs.lt
   have HO5 := Lib.hid (hO5.down (b0 := w.heap.size + 2) (by omega))
   have HB5 := Lib.hid hB5; clear hB5
   obtain ⟨st5, hst5⟩ : ∃ s5, (canA (rawG al g)).st = s5 := ⟨_, rfl⟩
   rw [hst5]
   have HST5 := Lib.hid hst5; clear hst5
   clear hb5 hO5 HC
   go_wp2
   have hb3 := (((hrs.set (j := 0) (by simp) (.slice V5 nv5 cv5)).set (j := 1) (by simp) (.int .i64 st5)).set (j := 2) (by simp) (.slice M5 nm5 cm5)).set (j := 3) (by simp) (.slice E5 ne5 ce5)
   have z0 := hb3.cell (j := 0) rfl
   have z1 := hb3.cell (j := 1) rfl
   have z2 := hb3.cell (j := 2) rfl
   have z3 := hb3.cell (j := 3) rfl
   refine bodyPost_ret (v := .agg #[.slice V5 nv5 cv5, .int .i64 st5, .slice M5 nm5 cm5, .slice E5 ne5 ce5]) (by simp [results, Try.results44, go_sem, z0, z1, z2, z3]) rfl ?_
   have hg5 : w5.grownBy ((((w5.setCell ⟨w.heap.size + 1, 0, none⟩ (.slice V5 nv5 cv5)).setCell ⟨w.heap.size + 1, 1, none⟩ (.int .i64 st5)).setCell ⟨w.heap.size + 1, 2, none⟩ (.slice M5 nm5 cm5)).setCell ⟨w.heap.size + 1, 3, none⟩ (.slice E5 ne5 ce5)) (some (w.heap.size + 1)) := (((grown_setCell _ _ _ _).trans (grown_setCell _ _ _ _)).trans (grown_setCell _ _ _ _)).trans (grown_setCell _ _ _ _)
   rw [HMK.out]
   exact ⟨V5, nv5, cv5, M5, nm5, cm5, E5, ne5, ce5, by rw [HST5.out], (HO5.out.low hg5 (Nat.lt_succ_self _)).down (by omega), HB5.out.grown hg5 HB5.out.size (fun j hj => by injection hj with hj; omega)⟩
end Go.Proofs.Ytddhaidimadliaa
