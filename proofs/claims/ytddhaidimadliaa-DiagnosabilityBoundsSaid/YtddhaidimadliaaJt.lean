/- Walks: diagnosability.twin.path. -/
import Derived.Test.YtddhaidimadliaaJr
import Derived.Test.YtddhaidimadliaaJo
import Derived.Test.YtddhaidimadliaaJp

namespace Go.Proofs.Ytddhaidimadliaa
open Go.RowKit Go Go.Maps

/-- what path returns -/
def RetTp (o : Option (List Ed)) (w : World) (e : Ending) (w' : World) : Prop := Below w.heap.size w w' ∧ match o with
 | none => e = .returned (.slice none 0 0)
 | some l => ∃ (ad : Addr) (c : Nat), e = .returned (.slice (some ad) l.length c) ∧ w'.ownsRow w.heap.size 62 4 (.slice (some ad) l.length c) l.length (l.flatMap mvc) ∧ l.length ≤ 6000
theorem own_lit4 (w : World) (base : Nat) (hb : base ≤ w.heap.size) (a b c d : Value) (e : TypeId) : (w.alloc (.cells #[a, b, c, d] e)).ownsRow base e 4 (.slice (some ⟨w.heap.size, 0, none⟩) 1 1) 1 [a, b, c, d] :=
 ⟨by simp, .inr ⟨w.heap.size, 1, #[a, b, c, d], rfl, hb, heap_alloc_new w _, Nat.le_refl _, by unfold maxLen; omega, by simp, by simp⟩⟩
theorem own_some {w : World} {base : Nat} {e : TypeId} {size n k c : Nat} {A : Option Addr} {xs : List Value} (h : w.ownsRow base e size (.slice A k c) n xs) (hn : 0 < n) : ∃ ad, A = some ad := by
 rcases h.2 with ⟨h1, h2⟩ | ⟨q, cap, cur, h1, _⟩
 ·omega
 ·injection h1 with h1; exact ⟨_, h1⟩
theorem RdI.own_at {w : World} {B n c k : Nat} {A : Option Addr} {l : List Int} {v : Int} (h : w.ownsRow B 3 1 (.slice A n c) n (iv l)) (hk : l[k]? = some v) : ∃ ad, A = some ad ∧ w.cell? (ad.add k) = some (.int .i64 v) := by
 obtain ⟨ad, e1, _, e2⟩ := RdV.of_own h k (.int .i64 v) (by unfold iv; rw [List.getElem?_map, hk]; rfl)
 exact ⟨ad, e1, e2⟩
theorem PtS.push {B o : Nat} {w0 w w6 w7 : World} {tv : Value} {nt : Nat} {fr : Int} {bef : List Ed} {x : Ed} {A : Option Addr} {c : Nat} (h : PtS B o w0 w tv nt fr bef) (ht : TabM Try.prog 3 w6 o (bef.length + 1) (befA (bef ++ [x]))) (hg6 : w.grownBy w6 (some o))
  (ho : w7.ownsRow B 3 1 (.slice A (nt + 1) c) (nt + 1) (iv ((fr : Int) :: bef.map Ed.t) ++ [.int .i64 x.t])) (hg7 : w6.grownBy w7 tv.ownBlock) : PtS B o w0 w7 (.slice A (nt + 1) c) (nt + 1) fr (bef ++ [x]) := by
 have hl := h.lt
 have hs := h.siz
 have hs6 := hg6.size
 have hb6 : Below B w0 w6 := h.bel.grown hg6 hs (fun j hj => by injection hj with hj; omega)
 have ho6 : w6.ownsRow B 3 1 tv nt (iv (fr :: bef.map Ed.t)) := h.tod.kept hg6 (.inr (fun e => h.tab.ne h.tod e.symm))
 refine ⟨hb6.grown hg7 (by omega) (fun j hj => (ho6.lt j hj).1), Nat.le_trans (by omega) hg7.size, ?_, by rw [List.length_append, ← h.nl]; rfl, ?_, h.lt⟩
 ·rw [List.map_append, ← List.cons_append, iv_append]; exact ho
 ·rw [List.length_append]
  exact ht.kept hg7 (ht.ne ho6)
set_option maxRecDepth 100000 in
set_option maxHeartbeats 6400000 in
theorem dm_path (T : TwP) (R : Bs TwS) (hed : EdR T.n R.es) (w : World) (hz : T.ok w R) (hn : T.n ≤ 4096) (hm : R.es.length ≤ 262144) (fr tg : Nat) (hf : fr < T.n) :
  Calls Try.prog 84 #[.pointer (some ⟨T.tb, 0, none⟩), .int .i64 (fr : Int), .int .i64 (tg : Int)] w (RetTp (tpS R.es T.n (fr : Int) (tg : Int)) w) := by
 have HED := Lib.hid hed
 have HZ := Lib.hid hz
 obtain ⟨RES, hRES⟩ : ∃ r, tpS R.es T.n (fr : Int) (tg : Int) = r := ⟨_, rfl⟩
 rw [hRES]
 have HG0 := Lib.hid (show tpG R.es (fr : Int) (tg : Int) (T.n + 2 - 0) 0 [] = RES from hRES)
 have HI0 := Lib.hid (show TpI R.es T.n (fr : Int) (tg : Int) [] from ⟨fun x hx => (by cases hx), fun k x hx => by simp at hx, List.nodup_nil, fun h => by cases h⟩)
 obtain ⟨tb, fb, rb, sb, n, m, A1, c1, A2, c2, F⟩ := T
 dsimp only at hed hz hn hf HG0 HI0 ⊢
 have hmk := @run_makeMap Try.prog
 clear hed hz hRES
 go_enter Try.func84, Try.ntmps84
 go_wp2
 have HS0 := Lib.hid (show PtS w.heap.size w.heap.size w ((w.alloc (.map #[] 0)).alloc (.cells #[.int .i64 (fr : Int)] 3)) (.slice (some ⟨w.heap.size + 1, 0, none⟩) 1 1) 1 (fr : Int) [] from by
  have hb := (box_below w (.map #[] 0)).alloc (box_below w (.map #[] 0)).size (.cells #[.int .i64 (fr : Int)] 3)
  have ho := own_lit (w.alloc (.map #[] 0)) [.int .i64 (fr : Int)] w.heap.size 3 (by simp) (by simp)
  rw [World.size_alloc] at ho
  exact ⟨hb, hb.size, ho, rfl, (TabM.made w Try.prog 3).kept (World.grownBy_alloc _ _ none) (by simp), Nat.le_refl _⟩)
 go_loopw [6, 8, 9, 11, 12, 13, 14] (fun s6 s8 s9 s11 s12 s13 s14 wr => ∃ (i nt : Nat) (v11 v12 v13 v14 : Value) (TA : Option Addr) (tc : Nat) (bef : List Ed), s8 = .slice TA nt tc ∧ s9 = .int .i64 i ∧ s6 = .slice none 0 0 ∧ s11 = v11 ∧ s12 = v12 ∧ s13 = v13 ∧ s14 = v14 ∧ i ≤ nt ∧ nt ≤ n + 1 ∧ Hid (PtS w.heap.size w.heap.size w wr (.slice TA nt tc) nt (fr : Int) bef) ∧ Hid (tpG R.es (fr : Int) (tg : Int) (n + 2 - i) i bef = RES) ∧ Hid (TpI R.es n (fr : Int) (tg : Int) bef)) (fun _ _ s9 _ _ _ _ _ => n + 2 - (intOf s9).toNat)
 case atStart => exact ⟨0, 1, _, _, _, _, _, _, [], rfl, rfl, rfl, rfl, rfl, rfl, rfl, by omega, by omega, HS0, HG0, HI0⟩
 case round =>
  clear HS0 HG0 HI0
  obtain ⟨i, nt, v11, v12, v13, v14, TA, tc, bef, rfl, rfl, rfl, rfl, rfl, rfl, rfl, hi, hnt, HS, HG, HI⟩ := hrel
  obtain ⟨wo, hwo⟩ : ∃ wo : World, wo = wr := ⟨_, rfl⟩
  rw [← hwo] at HS ⊢
  clear hwo
  by_cases hlt : i < nt
  ·obtain ⟨kk, hkk⟩ : ∃ k, ((fr : Int) :: bef.map Ed.t)[i]? = some k := ⟨_, List.getElem?_eq_getElem (by rw [List.length_cons, List.length_map]; have := HS.out.nl; omega)⟩
   have hkr : 0 ≤ kk ∧ kk < (n : Int) := by
    rcases List.mem_cons.1 (List.mem_of_getElem? hkk) with rfl | h
    ·omega
    ·obtain ⟨y, hy, rfl⟩ := List.mem_map.1 h
     exact (HED.out y (HI.out.mem y hy)).2
   obtain ⟨kn, rfl⟩ : ∃ k : Nat, kk = (k : Int) := ⟨kk.toNat, by omega⟩
   have hkn : kn < n := by omega
   have HGM := Lib.hid (show tpM R.es (fr : Int) (tg : Int) (n + 1 - i) i (outL R.es (kn : Int)) bef = RES by
    rw [← tpG_M hkk, show n + 1 - i + 1 = n + 2 - i by omega]; exact HG.out)
   have hzo := HZ.out.ex2 (Ex2.refl.trans (Ex2.below (r := rb) (s := sb) HS.out.bel))
   obtain ⟨RA, rc, hF, hrow⟩ := HZ.out.row kn hkn
   dsimp only at hF hrow
   obtain ⟨nk, hnk⟩ : ∃ k, (outL R.es (kn : Int)).length = k := ⟨_, rfl⟩
   rw [hnk] at hF
   have hnm : nk ≤ 262144 := by rw [← hnk]; exact Nat.le_trans (List.length_filter_le _ _) hm
   obtain ⟨td, hTA⟩ := own_some HS.out.tod (by omega)
   subst hTA
   have htd : td.block < wo.heap.size := (HS.out.tod.lt td.block rfl).2
   have HROW := Lib.hid hrow.1
   have HNK := Lib.hid hnk
   have HKK := Lib.hid hkk
   have hcell : wo.cell? (td.add i) = some (.int .i64 (kn : Int)) := by
    obtain ⟨td', e1, e2⟩ := RdI.own_at HS.out.tod hkk
    injection e1 with e1
    subst e1
    exact e2
   have HAF := Lib.hid (fun (W : World) (hW : Below wo.heap.size wo W) => show W.cell? ⟨tb, 2, none⟩ = some (.slice (some ⟨fb, 0, none⟩) n n) ∧ W.cell? (td.add i) = some (.int .i64 (kn : Int)) ∧ W.cell? ⟨fb, kn, none⟩ = some (.slice RA nk rc) from
    ⟨(hzo.blk.below hW hzo.blk.lt).cell (j := 2) rfl, (hW.cell (by rw [block_of_add]; exact htd)).trans hcell, (hzo.fr.below hW hzo.fr.lt).cell hF⟩)
   have b1 : (i : Int) < (nt : Int) := by omega
   have b2 : (kn : Int) < (n : Int) := by omega
   have hint0 : i + 1 ≤ nt := hlt
   clear hkk hkr hzo hF hrow hnk HG hcell htd
   go_upto_region 6 with fail
   refine wp_region_U (fun W => W.cell? ⟨tb, 2, none⟩ = some (.slice (some ⟨fb, 0, none⟩) n n) ∧ W.cell? (td.add i) = some (.int .i64 (kn : Int)) ∧ W.cell? ⟨fb, kn, none⟩ = some (.slice RA nk rc)) (fun _ => True) 12 (by kernel_rfl) ?_
   change anyU _ _ _ _ _ _ _ 12 _ _ _
   have hB0 : True := trivial
   have HBD := Lib.hid (below_dr wo)
   generalize wo.drew = wd at HBD ⊢
   have hA0 := HAF.out wd HBD.out
   (refine uA 0 ?_ rfl hA0 hB0 (fun W hA => ?_) ?_; rotate_left; (· (go_simp; try with_reducible rfl)); refine uA 1 ?_ rfl hA0 hB0 (fun W hA => ?_) ?_; rotate_left; (· (go_simp; try with_reducible rfl)); refine uA 2 ?_ rfl hA0 hB0 (fun W hA => ?_) ?_; rotate_left; (· (go_simp; try with_reducible rfl)); (try simp only [Act.put, List.setIfInBounds_toArray, List.set_cons_zero, List.set_cons_succ]))
   (refine uA 3 ?_ rfl hA0 hB0 (fun W hA => ?_) ?_; rotate_left; (· (obtain ⟨h0, h1, h2⟩ := hA; go_simp; try with_reducible rfl)); (try simp only [Act.put, List.setIfInBounds_toArray, List.set_cons_zero, List.set_cons_succ]))
   (refine uA 4 ?_ rfl hA0 hB0 (fun W hA => ?_) ?_; rotate_left; (· (go_simp; try with_reducible rfl)); refine uA 5 ?_ rfl hA0 hB0 (fun W hA => ?_) ?_; rotate_left; (· (go_simp; try with_reducible rfl)); refine uA 6 ?_ rfl hA0 hB0 (fun W hA => ?_) ?_; rotate_left; (· (go_simp; try with_reducible rfl)); (try simp only [Act.put, List.setIfInBounds_toArray, List.set_cons_zero, List.set_cons_succ]))
   (refine uA 7 ?_ rfl hA0 hB0 (fun W hA => ?_) ?_; rotate_left; (· (obtain ⟨h0, h1, h2⟩ := hA; go_simp; try with_reducible rfl)); (try simp only [Act.put, List.setIfInBounds_toArray, List.set_cons_zero, List.set_cons_succ]))
   (refine uA 8 ?_ rfl hA0 hB0 (fun W hA => ?_) ?_; rotate_left; (· (go_simp; try with_reducible rfl)); (try simp only [Act.put, List.setIfInBounds_toArray, List.set_cons_zero, List.set_cons_succ]))
   (refine uA 9 ?_ rfl hA0 hB0 (fun W hA => ?_) ?_; rotate_left; (· (obtain ⟨h0, h1, h2⟩ := hA; go_simp; try with_reducible rfl)); (try simp only [Act.put, List.setIfInBounds_toArray, List.set_cons_zero, List.set_cons_succ]))
   (refine uA 10 ?_ rfl hA0 hB0 (fun W hA => ?_) ?_; rotate_left; (· (go_simp; try with_reducible rfl)); refine uA 11 ?_ rfl hA0 hB0 (fun W hA => ?_) ?_; rotate_left; (· (go_simp; try with_reducible rfl)); (try simp only [Act.put, List.setIfInBounds_toArray, List.set_cons_zero, List.set_cons_succ]))
   refine anyU_done (by kernel_rfl) ?_ _
   have HS1 := Lib.hid (HS.out.quiet HBD.out)
   have HSF := Lib.hid HS1.out.bel
   have HW0 := Lib.hid (Below.refl wd.heap.size wd)
   have hwsz : w.heap.size ≤ wd.heap.size := HS1.out.siz
   clear hA0 HS HAF hB0
   go_wp2_with fail
   go_loopw [6, 8, 11, 12, 13, 14, 35] (fun s6 s8 s11 s12 s13 s14 s35 wr => ∃ (q nt : Nat) (v11 v12 v13 v14 : Value) (TA : Option Addr) (tc : Nat) (bef : List Ed), s35 = .int .i64 q ∧ s8 = .slice TA nt tc ∧ s6 = .slice none 0 0 ∧ s11 = v11 ∧ s12 = v12 ∧ s13 = v13 ∧ s14 = v14 ∧ q ≤ nk ∧ i + 1 ≤ nt ∧ nt ≤ n + 1 ∧ Hid (PtS w.heap.size w.heap.size w wr (.slice TA nt tc) nt (fr : Int) bef) ∧ Hid (tpM R.es (fr : Int) (tg : Int) (n + 1 - i) i ((outL R.es (kn : Int)).drop q) bef = RES) ∧ Hid (TpI R.es n (fr : Int) (tg : Int) bef) ∧ Hid (((fr : Int) :: bef.map Ed.t)[i]? = some (kn : Int))) (fun _ _ _ _ _ _ s35 _ => nk - (intOf s35).toNat)
   case atStart => exact ⟨0, nt, _, _, _, _, _, tc, bef, rfl, rfl, rfl, rfl, rfl, rfl, rfl, by omega, hint0, hnt, HS1, HGM, HI, HKK⟩
   case round =>
    clear HS1 HGM HI HKK hint0 hnt HSF HW0 b1 hi hlt hwsz HBD
    obtain ⟨q, nt, v11, v12, v13, v14, TA, tc, bef, rfl, rfl, rfl, rfl, rfl, rfl, rfl, hq, hint, hnt, HS, HGM, HI, HKK⟩ := hrel
    by_cases hqk : q < nk
    ·obtain ⟨ad, x, hA, hab, hx, hcx⟩ := (HROW.out.below HS.out.bel).get (k := q) (by rw [HNK.out]; exact hqk)
     subst hA
     have hxo := outL_mem.1 (List.mem_of_getElem? hx)
     have hxr := (HED.out x hxo.1).2
     obtain ⟨jt, hjt⟩ : ∃ j : Nat, x.t = (j : Int) := ⟨x.t.toNat, by omega⟩
     have hjn : jt < n := by omega
     obtain ⟨ev, hev⟩ : ∃ q, x.e / 3 = q := ⟨_, rfl⟩
     obtain ⟨sd, hsd⟩ : ∃ q, x.e % 3 = q := ⟨_, rfl⟩
     obtain ⟨fv, hfv⟩ : ∃ q, x.f = q := ⟨_, rfl⟩
     have q0 : wr.cell? (ad.add (q * 4)) = some (.int .i64 fv) := by rw [← hfv]; exact hcx 0 _ rfl
     have q1 : wr.cell? ⟨(ad.add (q * 4)).block, (ad.add (q * 4)).off + 1, none⟩ = some (.int .i64 ev) := by rw [← hev]; exact ev_cells (j := 0) (hcx 1 _ rfl)
     have q2 : wr.cell? ⟨(ad.add (q * 4)).block, (ad.add (q * 4)).off + 2, none⟩ = some (.int .i64 sd) := by rw [← hsd]; exact ev_cells (j := 1) (hcx 2 _ rfl)
     have q3 : wr.cell? ⟨(ad.add (q * 4)).block, (ad.add (q * 4)).off + 3, none⟩ = some (.int .i64 (jt : Int)) := by rw [← hjt]; exact ev_cells (j := 2) (hcx 3 _ rfl)
     have HX4 := Lib.hid (show x.f = fv ∧ x.e / 3 = ev ∧ x.e % 3 = sd ∧ x.t = (jt : Int) from ⟨hfv, hev, hsd, hjt⟩)
     have HXM := Lib.hid hxo
     have HGX := Lib.hid (show tpM R.es (fr : Int) (tg : Int) (n + 1 - i) i (x :: (outL R.es (kn : Int)).drop (q + 1)) bef = RES by rw [← drop_cons' hx]; exact HGM.out)
     have b1 : (q : Int) < (nk : Int) := by omega
     have hbx := box_below wr (.cells #[.int .i64 fv, .int .i64 ev, .int .i64 sd, .int .i64 (jt : Int)] 62)
     have kb : Blk (wr.alloc (.cells #[.int .i64 fv, .int .i64 ev, .int .i64 sd, .int .i64 (jt : Int)] 62)) wr.heap.size 62 [.int .i64 fv, .int .i64 ev, .int .i64 sd, .int .i64 (jt : Int)] := Blk.new _ _ [_, _, _, _]
     have HS4 := Lib.hid (HS.out.quiet hbx)
     have hbw : w.heap.size ≤ wr.heap.size := HS.out.siz
     have HKEY := Lib.hid (intKey (jt : Int) (WalkArith.wf_i64 (by omega)))
     clear hx hcx hxo hxr hjt hev hsd hfv hab hbx HS HGM
     go_upto_region 9 with fail
     obtain ⟨bx, hbe⟩ : ∃ b, wr.heap.size = b := ⟨_, rfl⟩
     rw [hbe] at kb hbw ⊢
     generalize wr.alloc (.cells #[.int .i64 fv, .int .i64 ev, .int .i64 sd, .int .i64 (jt : Int)] 62) = w4 at HS4 kb ⊢
     have HKB := Lib.hid kb
     clear hbe q0 q1 q2 q3 kb
     have g3 := HKB.out.cell (j := 3) rfl
     obtain ⟨sn, hsn⟩ : ∃ b, (befA bef (jt : Int)).isSome = b := ⟨_, rfl⟩
     have HSN := Lib.hid hsn
     go_upto_region 10 with (first
      | (at_lookup; refine wpList_tabM_look rfl (.tmp 40) (.tmp 42) 180 rfl intLaw Try.underlying180 (zeroMv _) rfl HS4.out.tab (jt : Int) rfl HKEY.out ?_; rw [hsn]; intro y1 y2 y3 y4)
      | fail)
     clear hsn
     have hbx5 := box_below w4 (.cells #[.int .i64 y1, .int .i64 y2, .int .i64 y3, .int .i64 y4] 62)
     have HS5 := Lib.hid (HS4.out.quiet hbx5)
     have HK5 := Lib.hid (HKB.out.below hbx5 HKB.out.lt)
     generalize w4.alloc (.cells #[.int .i64 y1, .int .i64 y2, .int .i64 y3, .int .i64 y4] 62) = w5 at HS5 HK5 ⊢
     clear hbx5 g3 HS4 HKB
     cases sn with
     | true =>
      have HG5 := Lib.hid (show tpM R.es (fr : Int) (tg : Int) (n + 1 - i) i ((outL R.es (kn : Int)).drop (q + 1)) bef = RES by
       rw [← HGX.out]
       exact (tpM_eq (tpX_seen (by rw [HX4.out.2.2.2]; exact HSN.out))).symm)
      go_wp2
      go_roundw
      case rel => exact ⟨q + 1, nt, _, _, _, _, TA, tc, bef, by go_num, rfl, rfl, rfl, rfl, rfl, rfl, by omega, hint, hnt, HS5, HG5, HI, HKK⟩
      case measure => simp [intOf]; omega
     | false =>
      have hnot : x.t ∉ bef.map Ed.t := fun h => by
       have h2 := befA_none.2 h
       rw [HX4.out.2.2.2, HSN.out] at h2
       cases h2
      have hkf : x.f = (fr : Int) ∨ x.f ∈ bef.map Ed.t := by
       rw [HXM.out.2]
       have h2 := List.mem_of_getElem? HKK.out
       rcases List.mem_cons.1 h2 with h3 | h3
       ·exact .inl h3
       ·exact .inr h3
      obtain ⟨hp1, hp2, hp3⟩ := HI.out.push HXM.out.1 hkf hnot
      have HP1 := Lib.hid hp1
      have HP2 := Lib.hid hp2
      have HP3 := Lib.hid hp3
      have HNOT := Lib.hid hnot
      have hbl : bef.length ≤ 5000 := by have := HS5.out.nl; omega
      have g0 := HK5.out.cell (j := 0) rfl
      have g1 := HK5.out.cell (j := 1) rfl
      have g2 := HK5.out.cell (j := 2) rfl
      have g3 := HK5.out.cell (j := 3) rfl
      clear hnot hkf hp1 hp2 hp3
      go_upto_region 12 with (first
       | (at_mapUpdate; refine wpList_tabM_put rfl (.tmp 47) (.tmp 49) (.tmp 50) 180 rfl intLaw Try.underlying180 rfl HS5.out.tab (by omega) (jt : Int) rfl HKEY.out x (by rw [HX4.out.1, HX4.out.2.1, HX4.out.2.2.1, HX4.out.2.2.2]; rfl) (befA (bef ++ [x])) (by rw [← HX4.out.2.2.2]; exact befA_new HNOT.out) (fun d hd => befA_other (by rw [HX4.out.2.2.2]; exact hd)) ?_; intro w6 hT6 hg6)
       | fail)
      have HT6 := Lib.hid hT6
      have HG6 := Lib.hid hg6
      have HK6 := Lib.hid (HK5.out.kept hg6 (fun e => by injection e with e; exact HS5.out.tab.neB HK5.out e.symm))
      clear g0 g1 g2 g3 hT6 hg6
      have g3 := HK6.out.cell (j := 3) rfl
      by_cases hjt : jt = tg
      ·have b3 : ((jt : Int) != (tg : Int)) = false := by simp [hjt]
       obtain ⟨LST, hLST⟩ : ∃ l, tbk (bef ++ [x]) (fr : Int) bef.length x = l := ⟨_, rfl⟩
       have HRS := Lib.hid (show RES = some LST.reverse by
        rw [← HGX.out, ← hLST]
        exact tpM_hit (tpX_hit (by rw [HX4.out.2.2.2]; exact HSN.out) (by rw [HX4.out.2.2.2, hjt])))
       have HL0 := Lib.hid (show LST = [] ++ tbk (bef ++ [x]) (fr : Int) bef.length x from hLST.symm)
       have g0 := HK6.out.cell (j := 0) rfl
       have g1 := HK6.out.cell (j := 1) rfl
       have g2 := HK6.out.cell (j := 2) rfl
       have hs6 : w.heap.size ≤ w6.heap.size := Nat.le_trans HS5.out.siz HG6.out.size
       have hbel6 : Below w.heap.size w w6 := HS5.out.bel.grown HG6.out HS5.out.siz (fun j hj => by injection hj with hj; omega)
       have HBW := Lib.hid hbel6
       have HJX := Lib.hid (show (bef ++ [x])[bef.length]? = some x ∧ bef.length ≤ bef.length from ⟨by simp, Nat.le_refl _⟩)
       obtain ⟨nb, hnb⟩ : ∃ k, bef.length = k := ⟨_, rfl⟩
       rw [hnb] at HL0 HJX hbl HT6
       obtain ⟨B2, hB2⟩ : ∃ l, bef ++ [x] = l := ⟨_, rfl⟩
       rw [hB2] at HL0 HJX HT6 HP1 HP2 HP3
       have hbx6 := box_below w6 (.cells #[.int .i64 fv, .int .i64 ev, .int .i64 sd, .int .i64 (jt : Int)] 62)
       have hro := own_lit4 w6 w.heap.size hs6 (.int .i64 fv) (.int .i64 ev) (.int .i64 sd) (.int .i64 (jt : Int)) 62
       have hmx : mvc x = [.int .i64 fv, .int .i64 ev, .int .i64 sd, .int .i64 (jt : Int)] := by unfold mvc; rw [HX4.out.1, HX4.out.2.1, HX4.out.2.2.1, HX4.out.2.2.2]
       have HRO := Lib.hid (show (w6.alloc (.cells #[.int .i64 fv, .int .i64 ev, .int .i64 sd, .int .i64 (jt : Int)] 62)).ownsRow w.heap.size 62 4 (.slice (some ⟨w6.heap.size, 0, none⟩) 1 1) 1 (([] ++ [x]).flatMap mvc) by
        rw [List.nil_append, List.flatMap_cons, List.flatMap_nil, List.append_nil, hmx]; exact hro)
       have HK7 := Lib.hid (show Blk (w6.alloc (.cells #[.int .i64 fv, .int .i64 ev, .int .i64 sd, .int .i64 (jt : Int)] 62)) bx 62 (mvc x) by rw [hmx]; exact HK6.out.below hbx6 HK6.out.lt)
       have HT7 := Lib.hid (HT6.out.below hbx6)
       have HB7 := Lib.hid (HBW.out.trans (hbx6.mono hs6))
       have HNB := Lib.hid (show ∀ g, (Value.slice (some ⟨w6.heap.size, 0, none⟩) 1 1).ownBlock = some g → g ≠ bx from fun g hg => by
        have h1 := HK6.out.lt
        have h2 : w6.heap.size = g := by simpa [Value.ownBlock] using hg
        omega)
       clear hLST hnb hB2 hbx6 hro hmx hbel6 hjt HS5 HG6 HGX HX4 HSN HXM HNOT HK5 HT6 HKK HI
       go_upto_region 15 with fail
       generalize w6.heap.size = b6 at HRO HNB ⊢
       generalize w6.alloc (.cells #[.int .i64 fv, .int .i64 ev, .int .i64 sd, .int .i64 (jt : Int)] 62) = w7 at HRO HK7 HT7 HB7 ⊢
       clear g0 g1 g2 g3 hs6
       go_loopw [14] (fun s14 wr => ∃ (k g jj : Nat) (la : Addr) (lc : Nat) (y : Ed) (pre : List Ed), s14 = .slice (some la) k lc ∧ k + g = nb + 1 ∧ Hid (wr.ownsRow w.heap.size 62 4 (.slice (some la) k lc) k ((pre ++ [y]).flatMap mvc)) ∧ Hid (pre.length + 1 = k) ∧ Hid (Blk wr bx 62 (mvc y)) ∧ Hid (TabM Try.prog 3 wr w.heap.size (nb + 1) (befA B2)) ∧ Hid (Below w.heap.size w wr) ∧ Hid (∀ g, (Value.slice (some la) k lc).ownBlock = some g → g ≠ bx) ∧ Hid (LST = pre ++ tbk B2 (fr : Int) g y) ∧ Hid (B2[jj]? = some y ∧ jj ≤ g)) (fun s14 _ => nb + 2 - lenV s14)
       case atStart => exact ⟨1, nb, nb, _, _, x, [], rfl, by omega, HRO, Lib.hid rfl, HK7, HT7, HB7, HNB, HL0, HJX⟩
       case round =>
        clear HRO HK7 HT7 HB7 HNB HL0 HJX HBW HK6
        obtain ⟨k, g, jj, la, lc, y, pre, rfl, hkg, HRO, HPL, HKB, HTB, HBW, HNB, HLS, HJJ⟩ := hrel
        obtain ⟨yf, hyf⟩ : ∃ q, y.f = q := ⟨_, rfl⟩
        obtain ⟨ye, hye⟩ : ∃ q, y.e / 3 = q := ⟨_, rfl⟩
        obtain ⟨yr, hyr⟩ : ∃ q, y.e % 3 = q := ⟨_, rfl⟩
        obtain ⟨yt, hyt⟩ : ∃ q, y.t = q := ⟨_, rfl⟩
        have hmy : mvc y = [.int .i64 yf, .int .i64 ye, .int .i64 yr, .int .i64 yt] := by unfold mvc; rw [hyf, hye, hyr, hyt]
        have kb := HKB.out
        rw [hmy] at kb
        have g0 := kb.cell (j := 0) rfl
        have HYF := Lib.hid hyf
        clear hye hyr hyt hyf hmy
        by_cases hyfr : yf = (fr : Int)
        ·have b4 : (yf != (fr : Int)) = false := by simp [hyfr]
         have HLF := Lib.hid (show LST = pre ++ [y] by rw [HLS.out, tbk_end (by rw [HYF.out]; exact hyfr)])
         have HREV := Lib.hid (reverse_mv w.heap.size k (.slice (some la) k lc) (pre ++ [y]) wr HRO.out (by rw [List.length_append]; exact HPL.out) (by omega))
         have hsz := HBW.out.size
         clear hyfr
         go_wp2_with fail
         refine HREV.out.mono ?_
         rintro _ w9 ⟨rfl, ho9, hg9⟩
         have HB9 := Lib.hid (HBW.out.grown hg9 hsz (fun j hj => (HRO.out.lt j hj).1))
         have HO9 := Lib.hid ho9
         clear ho9 hg9 HREV g0 kb
         go_wp2
         go_ret
         unfold RetTp
         rw [HRS.out]
         have hll : LST.reverse.length = k := by rw [List.length_reverse, HLF.out, List.length_append]; exact HPL.out
         refine ⟨HB9.out, la, lc, ?_, ?_, by rw [hll]; omega⟩
         ·show Ending.returned (.slice (some la) k lc) = _
          rw [hll]
         ·rw [hll, HLF.out]
          exact HO9.out
        ·have b4 : (yf != (fr : Int)) = true := by simpa using hyfr
         obtain ⟨jy, hjy⟩ : ∃ j, jj = j := ⟨_, rfl⟩
         rcases HP2.out jj y HJJ.out.1 with hpf | ⟨j2, y2, hj2, hy2, hyt2⟩
         ·exact absurd (by rw [← HYF.out]; exact hpf) hyfr
         ·have hbef : befA B2 yf = some y2 := by rw [← HYF.out, ← hyt2]; exact befA_at HP3.out hy2
          have hg1 : ∃ g2, g = g2 + 1 := ⟨g - 1, by have := HJJ.out.2; omega⟩
          obtain ⟨g2, rfl⟩ := hg1
          have HLN := Lib.hid (show LST = (pre ++ [y]) ++ tbk B2 (fr : Int) g2 y2 by
           rw [HLS.out, tbk_go (by rw [HYF.out]; exact hyfr) (by rw [HYF.out]; exact hbef), List.append_assoc]; rfl)
          have HJ2 := Lib.hid (show B2[j2]? = some y2 ∧ j2 ≤ g2 from ⟨hy2, by have := HJJ.out.2; omega⟩)
          have hyb := (HED.out y (HP1.out y (List.mem_of_getElem? HJJ.out.1))).1
          rw [HYF.out] at hyb
          have hrun := HTB.out.run intLaw Try.underlying180 (zeroMv _) yf (intKey yf (WalkArith.wf_i64 (by omega))) y2 hbef
          obtain ⟨zf, hzf⟩ : ∃ q, y2.f = q := ⟨_, rfl⟩
          obtain ⟨ze, hze⟩ : ∃ q, y2.e / 3 = q := ⟨_, rfl⟩
          obtain ⟨zr, hzr⟩ : ∃ q, y2.e % 3 = q := ⟨_, rfl⟩
          obtain ⟨zt, hzt⟩ : ∃ q, y2.t = q := ⟨_, rfl⟩
          rw [hzf, hze, hzr, hzt] at hrun
          have HMZ := Lib.hid (show mvc y2 = [.int .i64 zf, .int .i64 ze, .int .i64 zr, .int .i64 zt] by unfold mvc; rw [hzf, hze, hzr, hzt])
          have f0 := kb.free 0
          have f1 := kb.free 1
          have f2 := kb.free 2
          have f3 := kb.free 3
          have g1 := kb.cell (j := 1) rfl
          have g2' := kb.cell (j := 2) rfl
          have g3 := kb.cell (j := 3) rfl
          have l0 := kb.lt
          have hk9 := (((kb.set (j := 0) (by simp) (.int .i64 zf)).set (j := 1) (by simp) (.int .i64 ze)).set (j := 2) (by simp) (.int .i64 zr)).set (j := 3) (by simp) (.int .i64 zt)
          have hg9 := (((grown_setCell wr bx 0 (.int .i64 zf)).trans (grown_setCell _ bx 1 (.int .i64 ze))).trans (grown_setCell _ bx 2 (.int .i64 zr))).trans (grown_setCell _ bx 3 (.int .i64 zt))
          have HK9 := Lib.hid hk9
          have HG9 := Lib.hid hg9
          have HT9 := Lib.hid (HTB.out.kept hg9 (fun e => by injection e with e; exact HTB.out.neB kb e))
          have HO9 := Lib.hid (HRO.out.kept hg9 (.inr (fun e => HNB.out bx e rfl)))
          have HB9 := Lib.hid (HBW.out.grown hg9 HBW.out.size (fun j hj => by injection hj with hj; omega))
          clear hk9 hg9 hbef hy2 hyt2 hj2 hyb hzf hze hzr hzt hyfr hjy
          go_upto_region 17 with fail
          generalize ((((wr.setCell ⟨bx, 0, none⟩ (.int .i64 zf)).setCell ⟨bx, 1, none⟩ (.int .i64 ze)).setCell ⟨bx, 2, none⟩ (.int .i64 zr)).setCell ⟨bx, 3, none⟩ (.int .i64 zt)) = w9 at HK9 HG9 HT9 HO9 HB9 ⊢
          clear f0 f1 f2 f3 g0 g1 g2' g3 l0 hrun kb
          have g0 := HK9.out.cell (j := 0) rfl
          have g1 := HK9.out.cell (j := 1) rfl
          have g2' := HK9.out.cell (j := 2) rfl
          have g3 := HK9.out.cell (j := 3) rfl
          have hs9 := HB9.out.size
          go_wp2_with (first
           | (at_builtin; refine wpList_pushA w9 [.int .i64 zf, .int .i64 ze, .int .i64 zr, .int .i64 zt] rfl (.tmp 70) (.tmp 72) 52 rfl w.heap.size 62 (.agg #[.int .i64 0, .int .i64 0, .int .i64 0, .int .i64 0]) 4 32 Try.underlying52 mov_info rfl (by decide) rfl (.slice (some la) k lc) k _ rfl HO9.out rfl (mov_one _ _ _ _) (by omega) (by omega) hs9 ?_; intro A8 c8 w8 ho8 hg8 hl8; have HO8 := Lib.hid ho8; have HG8 := Lib.hid hg8; have HL8 := Lib.hid hl8; clear ho8 hg8 hl8)
           | fail)
          obtain ⟨la8, hla8⟩ := own_some HO8.out (by omega)
          subst hla8
          have HRO8 := Lib.hid (show w8.ownsRow w.heap.size 62 4 (.slice (some la8) (k + 1) c8) (k + 1) ((pre ++ [y] ++ [y2]).flatMap mvc) by
           rw [List.flatMap_append (ys := [y2]), List.flatMap_cons, List.flatMap_nil, List.append_nil, HMZ.out]; exact HO8.out)
          have HK8 := Lib.hid (show Blk w8 bx 62 (mvc y2) by
           rw [HMZ.out]
           exact HK9.out.kept HG8.out (fun e => HNB.out bx e.symm rfl))
          have HT8 := Lib.hid (HT9.out.kept HG8.out (HT9.out.ne HO9.out))
          have HB8 := Lib.hid (HB9.out.grown HG8.out hs9 (fun j hj => (HO9.out.lt j hj).1))
          have HNB8 := Lib.hid (show ∀ g, (Value.slice (some la8) (k + 1) c8).ownBlock = some g → g ≠ bx from fun g hg => by
           rcases HL8.out with h1 | ⟨g3, h1, h2⟩
           ·rw [h1] at hg; exact HNB.out g hg
           ·rw [h1] at hg
            injection hg with hg
            have := HK9.out.lt
            omega)
          have HPL8 := Lib.hid (show (pre ++ [y]).length + 1 = k + 1 by rw [List.length_append]; have := HPL.out; simp only [List.length_singleton]; omega)
          go_roundw
          case rel => exact ⟨k + 1, g2, j2, la8, c8, y2, pre ++ [y], rfl, by omega, HRO8, HPL8, HK8, HT8, HB8, HNB8, HLN, HJ2⟩
          case measure => simp [lenV]; omega
      ·have b3 : ((jt : Int) != (tg : Int)) = true := by simp; omega
       have HI7 := Lib.hid (show TpI R.es n (fr : Int) (tg : Int) (bef ++ [x]) from ⟨HP1.out, HP2.out, HP3.out, fun h => by
        rw [List.map_append] at h
        rcases List.mem_append.1 h with h | h
        ·exact HI.out.nt h
        ·have h2 : (tg : Int) = x.t := by simpa using h
         rw [HX4.out.2.2.2] at h2
         omega⟩)
       have hlen : nt + 1 ≤ n + 1 := by
        have h2 := HI7.out.len HED.out
        rw [List.length_append] at h2
        have h3 := HS5.out.nl
        simp only [List.length_singleton] at h2
        omega
       have HG7 := Lib.hid (show tpM R.es (fr : Int) (tg : Int) (n + 1 - i) i ((outL R.es (kn : Int)).drop (q + 1)) (bef ++ [x]) = RES by
        rw [← HGX.out]
        exact (tpM_eq (tpX_go (by rw [HX4.out.2.2.2]; exact HSN.out) (by rw [HX4.out.2.2.2]; omega))).symm)
       have HKK7 := Lib.hid (show ((fr : Int) :: (bef ++ [x]).map Ed.t)[i]? = some (kn : Int) by
        rw [List.map_append, ← List.cons_append, List.getElem?_append_left (List.getElem?_eq_some_iff.1 HKK.out).1]; exact HKK.out)
       have HTO6 := Lib.hid (HS5.out.tod.kept HG6.out (.inr (fun e => HS5.out.tab.ne HS5.out.tod e.symm)))
       have hs6 : w.heap.size ≤ w6.heap.size := Nat.le_trans HS5.out.siz HG6.out.size
       clear hjt
       go_wp2_with (first
        | (at_builtin; refine wpList_pushA w6 [.int .i64 (jt : Int)] rfl (.tmp 55) (.tmp 58) 31 rfl w.heap.size 3 (.int .i64 0) 1 8 Try.underlying31 int_info rfl (by decide) rfl (.slice TA nt tc) nt _ rfl HTO6.out rfl (fun z hz => by simp at hz; subst hz; rfl) (by omega) (by omega) hs6 ?_; intro A7 c7 w7 ho7 hg7 _; have HS7 := Lib.hid (HS5.out.push (x := x) HT6.out HG6.out (by rw [HX4.out.2.2.2]; exact ho7) hg7); clear ho7 hg7)
        | fail)
       go_roundw
       case rel => exact ⟨q + 1, nt + 1, _, _, _, _, A7, c7, bef ++ [x], by go_num, rfl, rfl, rfl, rfl, rfl, rfl, by omega, by omega, hlen, HS7, HG7, HI7, HKK7⟩
       case measure => simp [intOf]; omega
    ·obtain rfl : q = nk := by omega
     have b1 : ¬ (q : Int) < (q : Int) := by omega
     have HGN := Lib.hid (show tpG R.es (fr : Int) (tg : Int) (n + 2 - (i + 1)) (i + 1) bef = RES by
      have h9 := HGM.out
      rw [List.drop_of_length_le (by rw [HNK.out]; exact Nat.le_refl _)] at h9
      rw [show n + 2 - (i + 1) = n + 1 - i by omega]
      exact h9)
     go_wp2
     go_roundw
     case rel => exact ⟨i + 1, nt, _, _, _, _, TA, tc, bef, rfl, by go_num, rfl, rfl, rfl, rfl, rfl, hint, hnt, HS, HGN, HI⟩
     case measure => simp [intOf]; omega
  ·obtain rfl : i = nt := by omega
   have b1 : ¬ (i : Int) < (i : Int) := by omega
   have HRN := Lib.hid (show RES = none by
    have h9 := HG.out
    rw [show n + 2 - i = n + 1 - i + 1 by omega, tpG_end (by have := HS.out.nl; omega)] at h9
    exact h9.symm)
   have HBF := Lib.hid HS.out.bel
   go_wp2
   go_ret
   unfold RetTp
   rw [HRN.out]
   exact ⟨HBF.out, rfl⟩
end Go.Proofs.Ytddhaidimadliaa
/- Walks: diagnosability.Lasso. -/
namespace Go.Proofs.Ytddhaidimadliaa
open Go.RowKit Go


/-- what Lasso returns -/
def RetLas (o : Option (List Ed × List Ed)) (w : World) (e : Ending) (w' : World) : Prop := Below w.heap.size w w' ∧ match o with
 | none => e = .returned (.tuple #[.agg #[.slice none 0 0, .slice none 0 0, .slice none 0 0, .slice none 0 0], .bool false, .int .i64 0])
 | some (p, cy) => ∃ v1 v2 v3 v4, e = .returned (.tuple #[.agg #[v1, v2, v3, v4], .bool true, .int .i64 0]) ∧ w'.ownsRow w.heap.size 3 1 v1 (fst1 (p.map Ed.e)).length (iv (fst1 (p.map Ed.e))) ∧ w'.ownsRow w.heap.size 3 1 v2 (fst1 (cy.map Ed.e)).length (iv (fst1 (cy.map Ed.e))) ∧ w'.ownsRow w.heap.size 3 1 v3 (snd1 (p.map Ed.e)).length (iv (snd1 (p.map Ed.e))) ∧ w'.ownsRow w.heap.size 3 1 v4 (snd1 (cy.map Ed.e)).length (iv (snd1 (cy.map Ed.e)))
theorem RetTp.row {o : Option (List Ed)} {w w' : World} {e : Ending} (h : RetTp o w e w') : ∃ (A : Option Addr) (n c : Nat), e = .returned (.slice A n c) ∧ (o.getD []).length = n ∧ RdR 4 mvc w' w'.heap.size A (o.getD []) ∧ n ≤ 6000 ∧ Below w.heap.size w w' ∧ (o = none → A = none ∧ n = 0 ∧ c = 0) ∧ (o.isSome = true → A.isSome = true) ∧ (∀ ad, A = some ad → w.heap.size ≤ ad.block) := by
 obtain ⟨hb, h⟩ := h
 cases o with
 | none => exact ⟨none, 0, 0, h, rfl, RdR.nil, by omega, hb, fun _ => ⟨rfl, rfl, rfl⟩, fun h => (by cases h), fun ad h => (by cases h)⟩
 | some l =>
  obtain ⟨ad, c, h1, h2, h3⟩ := h
  exact ⟨some ad, l.length, c, h1, rfl, RdR.of_own (by omega) (fun _ _ => rfl) h2, h3, hb, fun h => (by cases h), fun _ => rfl, fun ad' h => by injection h with h; subst h; exact (h2.lt ad.block rfl).1⟩
theorem RdR.far {α : Type} {sz : Nat} {f : α → List Value} {w w' : World} {A : Option Addr} {l : List α} {b : Nat} (h : RdR sz f w w.heap.size A l) (hg : w.grownBy w' (some b)) (hne : ∀ ad, A = some ad → ad.block ≠ b) : RdR sz f w' w'.heap.size A l := fun k e he => by
 obtain ⟨ad, e1, e2, e3⟩ := h k e he
 have h2 := hne ad e1
 exact ⟨ad, e1, Nat.lt_of_lt_of_le e2 hg.size, fun j u hj => (World.cell?_of_block (hg.block _ (by rw [block_of_add]; exact e2) (by rw [block_of_add]; intro e; injection e with e; exact h2 e))).trans (e3 j u hj)⟩
set_option maxRecDepth 100000 in
set_option maxHeartbeats 6400000 in
theorem dm_Lasso_ok (z : DV) (c : Int) (w : World) (h : z.ok w w.heap.size) (hc : stlE z c = 0) (hs : z.x.a.st ≤ 40) (R : Bs TwS) (hR : twin z.m c = some R) (hed : EdR R.ts.length R.es) :
  Calls Try.prog 41 #[.agg (dvc z).toArray, .int .i64 c] w (RetLas (lasS R) w) := by
 obtain ⟨RES, hRES⟩ : ∃ r, lasS R = r := ⟨_, rfl⟩
 rw [hRES]
 have HRES0 := Lib.hid hRES
 clear hRES
 obtain ⟨⟨A, na, ca, M, nm, cm, E, ne, ce, a⟩, V, nv, cv, l⟩ := z
 have hb1 := box_below w (.cells #[.slice A na ca, .int .i64 a.st, .slice M nm cm, .slice E ne ce, .slice V nv cv] 37)
 obtain ⟨w1, hw1⟩ : ∃ w1, w1 = w.alloc (.cells #[.slice A na ca, .int .i64 a.st, .slice M nm cm, .slice E ne ce, .slice V nv cv] 37) := ⟨_, rfl⟩
 have kx : Blk w1 w.heap.size 37 [.slice A na ca, .int .i64 a.st, .slice M nm cm, .slice E ne ce, .slice V nv cv] := by rw [hw1]; exact Blk.new _ _ [_, _, _, _, _]
 rw [← hw1] at hb1
 have hbL := box_below w1 (.cells #[.slice none 0 0, .slice none 0 0, .slice none 0 0, .slice none 0 0] 71)
 have kl0 : Blk (w1.alloc (.cells #[.slice none 0 0, .slice none 0 0, .slice none 0 0, .slice none 0 0] 71)) w1.heap.size 71 [.slice none 0 0, .slice none 0 0, .slice none 0 0, .slice none 0 0] := Blk.new _ _ [_, _, _, _]
 have hs1 : w1.heap.size = w.heap.size + 1 := by rw [hw1]; simp
 rw [hs1] at kl0
 obtain ⟨w1b, hw1b⟩ : ∃ W, W = w1.alloc (.cells #[.slice none 0 0, .slice none 0 0, .slice none 0 0, .slice none 0 0] 71) := ⟨_, rfl⟩
 rw [← hw1b] at hbL kl0
 have kx := kx.below hbL kx.lt
 have hb1 := hb1.trans (hbL.mono hb1.size)
 rw [hw1] at hw1b
 have hw1 := hw1b
 have KL := Lib.hid kl0
 clear hbL kl0 hs1 hw1b
 obtain ⟨w1, rfl⟩ : ∃ W : World, W = w1b := ⟨_, rfl⟩
 have hok1 := (h.below hb1).more hb1.size
 have HC := Lib.hid (dm_open_ok _ c w1 hok1 hc hs R hR hed)
 unfold dvc at HC ⊢
 dsimp only at HC ⊢
 obtain ⟨sv, hsv⟩ : ∃ s, a.st = s := ⟨_, rfl⟩
 rw [hsv] at hw1 HC kx ⊢
 have a0 := kx.cell (j := 0) rfl
 have a1 := kx.cell (j := 1) rfl
 have a2 := kx.cell (j := 2) rfl
 have a3 := kx.cell (j := 3) rfl
 have a4 := kx.cell (j := 4) rfl
 have HW1 := Lib.hid hw1; clear hw1
 have HB1 := Lib.hid hb1; clear hb1
 clear kx hok1
 have HED := Lib.hid hed
 clear hsv hc hs hR hed h
 go_enter Try.func41, Try.ntmps41
 go_wp2_with fail
 rw [← HW1.out]
 refine HC.out.mono ?_
 rintro e w2 ⟨T, rfl, hz, hrs, hg1, hg2, hb2, hn, hm⟩
 have HB2 := Lib.hid (HB1.out.trans (hb2.mono HB1.out.size))
 have kl2 := KL.out.below hb2 KL.out.lt
 have hle := HB1.out.size
 have HZ := Lib.hid hz
 have hln := hz.ln
 have hedn : EdR T.n R.es := by rw [← hln]; exact HED.out
 have HP := Lib.hid (fun (W : World) (hW : Below w2.heap.size w2 W) (fr tg : Nat) (hf : fr < T.n) => dm_path T R hedn W (hz.ex2 (.below hW)) hn hm fr tg hf)
 have HZW := Lib.hid (fun (W : World) (hW : Below w2.heap.size w2 W) => hz.ex2 (.below hW))
 have HL0 := Lib.hid (show lasG R (T.n - 0) 0 = RES by rw [← HRES0.out]; unfold lasS; rw [hln]; rfl)
 have HKL := Lib.hid (fun (W : World) (hW : Below w2.heap.size w2 W) => kl2.below hW kl2.lt)
 have hll : w.heap.size + 1 < w2.heap.size := kl2.lt
 obtain ⟨tb, fb, rb, sb, n, m, A1, c1, A2, c2, F⟩ := T
 dsimp only at hn hln HP HL0
 have HLN := Lib.hid hln
 have a0 : w2.cell? ⟨tb, 0, none⟩ = some (.slice A1 n c1) := HZ.out.blk.cell (j := 0) rfl
 clear a1 a2 a3 a4 HC hb2 hz hrs hln hedn kl2 hg1 hg2
 have HW0 := Lib.hid (Below.refl w2.heap.size w2)
 go_wp2
 clear a0
 go_loopw [5, 6, 8, 9, 10, 26] (fun s5 s6 s8 s9 s10 s26 wr => ∃ (i : Nat) (v8 v9 v10 : Value), s26 = .int .i64 i ∧ s5 = .bool false ∧ s6 = .int .i64 0 ∧ s8 = v8 ∧ s9 = v9 ∧ s10 = v10 ∧ i ≤ n ∧ Hid (lasG R (n - i) i = RES) ∧ Hid (Below w2.heap.size w2 wr)) (fun _ _ _ _ _ s26 _ => n - (intOf s26).toNat)
 case atStart => exact ⟨0, _, _, _, rfl, rfl, rfl, rfl, rfl, rfl, Nat.zero_le _, HL0, HW0⟩
 case round =>
  clear HL0 HW0
  obtain ⟨i, v8, v9, v10, rfl, rfl, rfl, rfl, rfl, rfl, hi, HL, HW⟩ := hrel
  by_cases hlt : i < n
  ·obtain ⟨ad, p, hA, hab, hp, hcp⟩ := (HZW.out wr HW.out).prs.1.get (k := i) (by rw [HLN.out]; exact hlt)
   subst hA
   obtain ⟨p1, pf, p2⟩ := p
   have q0 : wr.cell? (ad.add (i * 3)) = some (.int .i64 p1) := hcp 0 _ rfl
   have q1 : wr.cell? ⟨(ad.add (i * 3)).block, (ad.add (i * 3)).off + 1, none⟩ = some (.bool pf) := ev_cells (j := 0) (hcp 1 _ rfl)
   have q2 : wr.cell? ⟨(ad.add (i * 3)).block, (ad.add (i * 3)).off + 2, none⟩ = some (.int .i64 p2) := ev_cells (j := 1) (hcp 2 _ rfl)
   have HPF := Lib.hid (show twF R i = pf by rw [twF_at hp])
   have HLS := Lib.hid (show lasG R (n - (i + 1) + 1) i = RES by rw [show n - (i + 1) + 1 = n - i by omega]; exact HL.out)
   have b1 : (i : Int) < (n : Int) := by omega
   have hbx := box_below wr (.cells #[.int .i64 p1, .bool pf, .int .i64 p2] 59)
   have kb : Blk (wr.alloc (.cells #[.int .i64 p1, .bool pf, .int .i64 p2] 59)) wr.heap.size 59 [.int .i64 p1, .bool pf, .int .i64 p2] := Blk.new _ _ [_, _, _]
   have HW4 := Lib.hid (HW.out.trans (hbx.mono HW.out.size))
   clear hcp hp hbx hab HL HW
   go_upto_region 7 with fail
   generalize wr.heap.size = bx at kb ⊢
   generalize wr.alloc (.cells #[.int .i64 p1, .bool pf, .int .i64 p2] 59) = w4 at HW4 kb ⊢
   clear q0 q1 q2
   have g1 := kb.cell (j := 1) rfl
   cases pf with
   | false =>
    have HL5 := Lib.hid (show lasG R (n - (i + 1)) (i + 1) = RES by rw [← HLS.out, lasG, if_neg (by rw [HPF.out]; simp)])
    clear kb
    go_wp2
    go_roundw
    case rel => exact ⟨i + 1, _, _, _, by go_num, rfl, rfl, rfl, rfl, rfl, by omega, HL5, HW4⟩
    case measure => simp [intOf]; omega
   | true =>
    have HC := Lib.hid (HP.out w4 HW4.out i i hlt)
    obtain ⟨O, hO⟩ : ∃ o, tpS R.es n (i : Int) (i : Int) = o := ⟨_, rfl⟩
    rw [hO] at HC
    have HO := Lib.hid (show tpS R.es R.ts.length (i : Int) (i : Int) = O by rw [HLN.out]; exact hO)
    clear hO kb
    go_wp2_with fail
    refine HC.out.mono ?_
    rintro _ w5 h5
    obtain ⟨CA, cn, cc, rfl, hcl, hcr, hcn, hb5, hnone, hsome, hfar⟩ := h5.row
    have HW5 := Lib.hid (HW4.out.trans (hb5.mono HW4.out.size))
    clear h5 HC g1 hb5
    cases O with
    | none =>
     obtain ⟨rfl, rfl, rfl⟩ := hnone rfl
     have HL5 := Lib.hid (show lasG R (n - (i + 1)) (i + 1) = RES by rw [← HLS.out, lasG, if_pos HPF.out, HO.out])
     clear hcl hcr hsome hnone hfar
     go_wp2
     go_roundw
     case rel => exact ⟨i + 1, _, _, _, by go_num, rfl, rfl, rfl, rfl, rfl, by omega, HL5, HW5⟩
     case measure => simp [intOf]; omega
    | some cy =>
     obtain ⟨ca, hca⟩ := Option.isSome_iff_exists.1 (hsome rfl)
     subst hca
     obtain ⟨P0, hP0⟩ : ∃ o, tpS R.es n 0 (i : Int) = o := ⟨_, rfl⟩
     have HRES := Lib.hid (show RES = some (P0.getD [], cy) by
      have h9 := HLS.out
      rw [lasG, if_pos HPF.out, HO.out, HLN.out, hP0] at h9
      exact h9.symm)
     have HC := Lib.hid (HP.out w5 HW5.out 0 i (by omega))
     rw [show ((0 : Nat) : Int) = 0 from rfl, hP0] at HC
     have HCR := Lib.hid hcr
     have HCL := Lib.hid hcl
     have HFAR := Lib.hid (show ca.block ≠ w.heap.size + 1 by
      have h1 := hfar ca rfl
      have h2 := HW4.out.size
      omega)
     clear hP0 hcl hcr hsome hnone hfar
     go_upto_region 10 with fail
     go_wp2_with fail
     refine HC.out.mono ?_
     rintro _ w6 h6
     obtain ⟨PA, pn, pc, rfl, hpl, hpr, hpn, hb6, _, _, _⟩ := h6.row
     have HW6 := Lib.hid (HW5.out.trans (hb6.mono HW5.out.size))
     have HCR6 := Lib.hid ((HCR.out.below hb6).more hb6.size)
     have HWD := Lib.hid (dm_words PA pc pn (P0.getD []) w6 hpl hpr (by omega))
     clear h6 HC hb6 HCR hpl hpr
     go_wp2_with fail
     refine HWD.out.mono ?_
     rintro _ w7 ⟨u1, u2, rfl, ho1, ho2, hb7⟩
     obtain ⟨U1, k1, rfl⟩ := own_shape ho1
     obtain ⟨U2, k2, rfl⟩ := own_shape ho2
     have HW7 := Lib.hid (HW6.out.trans (hb7.mono HW6.out.size))
     have HCR7 := Lib.hid ((HCR6.out.below hb7).more hb7.size)
     have hle6 : w.heap.size ≤ w6.heap.size := Nat.le_trans HB2.out.size HW6.out.size
     have HO1 := Lib.hid (own_base (base := w.heap.size + 1 + 1) ho1 (by have := HW6.out.size; omega))
     have HO2 := Lib.hid (own_base (base := w.heap.size + 1 + 1) ho2 (by have := HW6.out.size; omega))
     have kl := HKL.out w7 HW7.out
     have f0 := kl.free 0
     have f2 := kl.free 2
     have e0 := kl.cell (j := 0) rfl
     have e2 := kl.cell (j := 2) rfl
     have l0 := kl.lt
     have hk8 := (kl.set (j := 0) (by simp) (.slice U1 (fst1 ((P0.getD []).map Ed.e)).length k1)).set (j := 2) (by simp) (.slice U2 (snd1 ((P0.getD []).map Ed.e)).length k2)
     have hg8 := (grown_setCell w7 (w.heap.size + 1) 0 (.slice U1 (fst1 ((P0.getD []).map Ed.e)).length k1)).trans (grown_setCell _ (w.heap.size + 1) 2 (.slice U2 (snd1 ((P0.getD []).map Ed.e)).length k2))
     have HK8 := Lib.hid hk8
     have HB8 := Lib.hid ((HB2.out.trans (HW7.out.mono HB2.out.size)).grown hg8 (Nat.le_trans hle6 hb7.size) (fun j hj => by injection hj with hj; omega))
     have HO18 := Lib.hid (HO1.out.kept hg8 (.inr (fun e => by have := (HO1.out.lt _ e).1; omega)))
     have HO28 := Lib.hid (HO2.out.kept hg8 (.inr (fun e => by have := (HO2.out.lt _ e).1; omega)))
     have HCR8 := Lib.hid (HCR7.out.far hg8 (fun ad h => by injection h with h; subst h; exact HFAR.out))
     have hsz8 := hg8.size
     clear hk8 hg8 HCR7 HCR6 HO1 HO2 ho1 ho2 hb7 HWD kl
     go_upto_region 11 with fail
     generalize (w7.setCell ⟨w.heap.size + 1, 0, none⟩ (.slice U1 (fst1 ((P0.getD []).map Ed.e)).length k1)).setCell ⟨w.heap.size + 1, 2, none⟩ (.slice U2 (snd1 ((P0.getD []).map Ed.e)).length k2) = w8 at HK8 HB8 HO18 HO28 HCR8 hsz8 ⊢
     clear f0 f2 e0 e2 l0
     have HWD := Lib.hid (dm_words (some ca) cc cn cy w8 HCL.out HCR8.out (by omega))
     go_wp2_with fail
     refine HWD.out.mono ?_
     rintro _ w9 ⟨u3, u4, rfl, ho3, ho4, hb9⟩
     obtain ⟨U3, k3, rfl⟩ := own_shape ho3
     obtain ⟨U4, k4, rfl⟩ := own_shape ho4
     have hle8 : w.heap.size + 1 + 1 ≤ w8.heap.size := by have := HK8.out.lt; omega
     have HO3 := Lib.hid (own_base (base := w.heap.size + 1 + 1) ho3 hle8)
     have HO4 := Lib.hid (own_base (base := w.heap.size + 1 + 1) ho4 hle8)
     have HO19 := Lib.hid (own_below HO18.out hb9)
     have HO29 := Lib.hid (own_below HO28.out hb9)
     have HB9 := Lib.hid (HB8.out.trans (hb9.mono (by omega)))
     have kl := HK8.out.below hb9 HK8.out.lt
     have f0 := kl.free 0
     have f1 := kl.free 1
     have f2 := kl.free 2
     have f3 := kl.free 3
     have e0 := kl.cell (j := 0) rfl
     have e1 := kl.cell (j := 1) rfl
     have e2 := kl.cell (j := 2) rfl
     have e3 := kl.cell (j := 3) rfl
     have l0 := kl.lt
     have hk10 := (kl.set (j := 1) (by simp) (.slice U3 (fst1 (cy.map Ed.e)).length k3)).set (j := 3) (by simp) (.slice U4 (snd1 (cy.map Ed.e)).length k4)
     have hg10 := (grown_setCell w9 (w.heap.size + 1) 1 (.slice U3 (fst1 (cy.map Ed.e)).length k3)).trans (grown_setCell _ (w.heap.size + 1) 3 (.slice U4 (snd1 (cy.map Ed.e)).length k4))
     have HK10 := Lib.hid hk10
     have hle9 : w.heap.size ≤ w9.heap.size := by have := hb9.size; omega
     have HB10 := Lib.hid (HB9.out.grown hg10 hle9 (fun j hj => by injection hj with hj; omega))
     have HO110 := Lib.hid (HO19.out.kept hg10 (.inr (fun e => by have := (HO19.out.lt _ e).1; omega)))
     have HO210 := Lib.hid (HO29.out.kept hg10 (.inr (fun e => by have := (HO29.out.lt _ e).1; omega)))
     have HO310 := Lib.hid (HO3.out.kept hg10 (.inr (fun e => by have := (HO3.out.lt _ e).1; omega)))
     have HO410 := Lib.hid (HO4.out.kept hg10 (.inr (fun e => by have := (HO4.out.lt _ e).1; omega)))
     clear hk10 hg10 HO19 HO29 HO3 HO4 ho3 ho4 hb9 HWD kl HO18 HO28 HCR8 hsz8
     go_upto_region 12 with fail
     have hsz10 : w.heap.size ≤ ((w9.setCell ⟨w.heap.size + 1, 1, none⟩ (.slice U3 (fst1 (cy.map Ed.e)).length k3)).setCell ⟨w.heap.size + 1, 3, none⟩ (.slice U4 (snd1 (cy.map Ed.e)).length k4)).heap.size := HB10.out.size
     generalize (w9.setCell ⟨w.heap.size + 1, 1, none⟩ (.slice U3 (fst1 (cy.map Ed.e)).length k3)).setCell ⟨w.heap.size + 1, 3, none⟩ (.slice U4 (snd1 (cy.map Ed.e)).length k4) = w10 at HK10 HB10 HO110 HO210 HO310 HO410 hsz10 ⊢
     clear f0 f1 f2 f3 e0 e1 e2 e3 l0
     have kl := HK10.out
     have f0 := kl.free 0
     have f1 := kl.free 1
     have f2 := kl.free 2
     have f3 := kl.free 3
     have e0 := kl.cell (j := 0) rfl
     have e1 := kl.cell (j := 1) rfl
     have e2 := kl.cell (j := 2) rfl
     have e3 := kl.cell (j := 3) rfl
     have l0 := kl.lt
     have hk11 := (((kl.set (j := 0) (by simp) (.slice U1 (fst1 ((P0.getD []).map Ed.e)).length k1)).set (j := 1) (by simp) (.slice U3 (fst1 (cy.map Ed.e)).length k3)).set (j := 2) (by simp) (.slice U2 (snd1 ((P0.getD []).map Ed.e)).length k2)).set (j := 3) (by simp) (.slice U4 (snd1 (cy.map Ed.e)).length k4)
     have hg11 := (((grown_setCell w10 (w.heap.size + 1) 0 (.slice U1 (fst1 ((P0.getD []).map Ed.e)).length k1)).trans (grown_setCell _ (w.heap.size + 1) 1 (.slice U3 (fst1 (cy.map Ed.e)).length k3))).trans (grown_setCell _ (w.heap.size + 1) 2 (.slice U2 (snd1 ((P0.getD []).map Ed.e)).length k2))).trans (grown_setCell _ (w.heap.size + 1) 3 (.slice U4 (snd1 (cy.map Ed.e)).length k4))
     have z0 := hk11.cell (j := 0) rfl
     have z1 := hk11.cell (j := 1) rfl
     have z2 := hk11.cell (j := 2) rfl
     have z3 := hk11.cell (j := 3) rfl
     have HB11 := Lib.hid (HB10.out.grown hg11 hsz10 (fun j hj => by injection hj with hj; omega))
     have HO1 := Lib.hid (own_base (base := w.heap.size) (HO110.out.kept hg11 (.inr (fun e => by have := (HO110.out.lt _ e).1; omega))) (by omega))
     have HO2 := Lib.hid (own_base (base := w.heap.size) (HO210.out.kept hg11 (.inr (fun e => by have := (HO210.out.lt _ e).1; omega))) (by omega))
     have HO3 := Lib.hid (own_base (base := w.heap.size) (HO310.out.kept hg11 (.inr (fun e => by have := (HO310.out.lt _ e).1; omega))) (by omega))
     have HO4 := Lib.hid (own_base (base := w.heap.size) (HO410.out.kept hg11 (.inr (fun e => by have := (HO410.out.lt _ e).1; omega))) (by omega))
     clear hk11 hg11 kl
     go_wp2
     refine bodyPost_ret (v := .tuple #[.agg #[.slice U1 (fst1 ((P0.getD []).map Ed.e)).length k1, .slice U3 (fst1 (cy.map Ed.e)).length k3, .slice U2 (snd1 ((P0.getD []).map Ed.e)).length k2, .slice U4 (snd1 (cy.map Ed.e)).length k4], .bool true, .int .i64 0]) (by simp [results, Try.results41, go_sem, z0, z1, z2, z3]) rfl ?_
     unfold RetLas
     rw [HRES.out]
     exact ⟨HB11.out, _, _, _, _, rfl, HO1.out, HO3.out, HO2.out, HO4.out⟩
  ·obtain rfl : i = n := by omega
   have b1 : ¬ (i : Int) < (i : Int) := by omega
   have HRN := Lib.hid (show RES = none by
    have h9 := HL.out
    rw [Nat.sub_self] at h9
    exact h9.symm)
   have kl := HKL.out wr HW.out
   have f0 := kl.free 0
   have f1 := kl.free 1
   have f2 := kl.free 2
   have f3 := kl.free 3
   have e0 := kl.cell (j := 0) rfl
   have e1 := kl.cell (j := 1) rfl
   have e2 := kl.cell (j := 2) rfl
   have e3 := kl.cell (j := 3) rfl
   have l0 := kl.lt
   have hk9 := (((kl.set (j := 0) (by simp) (.slice none 0 0)).set (j := 1) (by simp) (.slice none 0 0)).set (j := 2) (by simp) (.slice none 0 0)).set (j := 3) (by simp) (.slice none 0 0)
   have z0 := hk9.cell (j := 0) rfl
   have z1 := hk9.cell (j := 1) rfl
   have z2 := hk9.cell (j := 2) rfl
   have z3 := hk9.cell (j := 3) rfl
   have HBW := Lib.hid (HB2.out.trans (HW.out.mono HB2.out.size))
   have HB9 := Lib.hid ((((HBW.out.setCell (p := ⟨w.heap.size + 1, 0, none⟩) (Nat.le_succ _) (.slice none 0 0)).setCell (p := ⟨w.heap.size + 1, 1, none⟩) (Nat.le_succ _) (.slice none 0 0)).setCell (p := ⟨w.heap.size + 1, 2, none⟩) (Nat.le_succ _) (.slice none 0 0)).setCell (p := ⟨w.heap.size + 1, 3, none⟩) (Nat.le_succ _) (.slice none 0 0))
   clear kl hk9
   go_wp2
   refine bodyPost_ret (v := .tuple #[.agg #[.slice none 0 0, .slice none 0 0, .slice none 0 0, .slice none 0 0], .bool false, .int .i64 0]) (by simp [results, Try.results41, go_sem, z0, z1, z2, z3]) rfl ?_
   unfold RetLas
   rw [HRN.out]
   exact ⟨HB9.out, rfl⟩
end Go.Proofs.Ytddhaidimadliaa
