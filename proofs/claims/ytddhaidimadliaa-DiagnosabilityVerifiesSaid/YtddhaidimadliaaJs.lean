/- Walks: diagnosability.twin.path. -/
import Derived.Test.YtddhaidimadliaaJr
import Derived.Test.YtddhaidimadliaaJo
namespace Go.Proofs.Ytddhaidimadliaa
open Go.RowKit Go Go.Maps

/-- what path returns -/
def RetTp (o : Option (List Ed)) (w : World) (e : Ending) (w' : World) : Prop := Below w.heap.size w w' ∧ match o with
  | none => e = .returned (.slice none 0 0)
  | some l => ∃ (ad : Addr) (c : Nat), e = .returned (.slice (some ad) l.length c) ∧ w'.ownsRow w.heap.size 62 4 (.slice (some ad) l.length c) l.length (l.flatMap mvc) ∧ l.length ≤ 6000
theorem own_lit4 (w : World) (base : Nat) (hb : base ≤ w.heap.size) (a b c d : Value) (e : TypeId) : (w.alloc (.cells #[a, b, c, d] e)).ownsRow base e 4 (.slice (some ⟨w.heap.size, 0, none⟩) 1 1) 1 [a, b, c, d] :=
  ⟨by simp, .inr ⟨w.heap.size, 1, #[a, b, c, d], rfl, hb, heap_alloc_new w _, Nat.le_refl _, by unfold maxLen; omega, by simp, by simp⟩⟩
theorem own_some {w : World} {base : Nat} {e : TypeId} {size n k c : Nat} {A : Option Addr} {xs : List Value} (h : w.ownsRow base e size (.slice A k c) n xs) (hn : 0 < n) : ∃ ad, A = some ad := by
  rcases h.2 with ⟨h1, h2⟩ | ⟨q, cap, cur, h1, _⟩
  · omega
  · injection h1 with h1; exact ⟨_, h1⟩
theorem RdI.own_at {w : World} {B n c k : Nat} {A : Option Addr} {l : List Int} {v : Int} (h : w.ownsRow B 3 1 (.slice A n c) n (iv l)) (hk : l[k]? = some v) : ∃ ad, A = some ad ∧ w.cell? (ad.add k) = some (.int .i64 v) := by
  obtain ⟨ad, e1, _, e2⟩ := RdV.of_own h k (.int .i64 v) (by unfold iv; rw [List.getElem?_map, hk]; rfl)
  exact ⟨ad, e1, e2⟩
theorem PtS.push {B o : Nat} {w0 w w6 w7 : World} {tv : Value} {nt : Nat} {fr : Int} {bef : List Ed} {x : Ed} {A : Option Addr} {c : Nat} (h : PtS B o w0 w tv nt fr bef) (ht : TabM Try.prog 3 w6 o (bef.length + 1) (befA (bef ++ [x]))) (hg6 : w.grownBy w6 (some o))
    (ho : w7.ownsRow B 3 1 (.slice A (nt + 1) c) (nt + 1) (iv ((fr : Int) :: bef.map Ed.t) ++ [.int .i64 x.t])) (hg7 : w6.grownBy w7 tv.ownBlock) : PtS B o w0 w7 (.slice A (nt + 1) c) (nt + 1) fr (bef ++ [x]) := by
  have hl := h.lt
  have hs := h.siz
  have hs6 := hg6.size
  have hb6 : Below B w0 w6 := h.bel.grown hg6 hs (fun j hj => by injection hj with hj; omega)
  have ho6 : w6.ownsRow B 3 1 tv nt (iv (fr :: bef.map Ed.t)) := h.tod.kept hg6 (.inr (fun e => h.tab.ne h.tod e.symm))
  refine ⟨hb6.grown hg7 (by omega) (fun j hj => (ho6.lt j hj).1), Nat.le_trans (by omega) hg7.size, ?_, by rw [List.length_append, ← h.nl]; rfl, ?_, h.lt⟩
  · rw [List.map_append, ← List.cons_append, iv_append]; exact ho
  · rw [List.length_append]
    exact ht.kept hg7 (ht.ne ho6)
set_option maxRecDepth 100000 in
set_option maxHeartbeats 6400000 in
theorem dm_path (T : TwP) (R : Bs TwS) (hed : EdR T.n R.es) (w : World) (hz : T.ok w R) (hn : T.n ≤ 4096) (hm : R.es.length ≤ 262144) (fr tg : Nat) (hf : fr < T.n) :
    Calls Try.prog 84 #[.pointer (some ⟨T.tb, 0, none⟩), .int .i64 (fr : Int), .int .i64 (tg : Int)] w (RetTp (tpS R.es T.n (fr : Int) (tg : Int)) w) := by
  have HED := Lib.hid hed
  have HZ := Lib.hid hz
  obtain ⟨RES, hRES⟩ : ∃ r, tpS R.es T.n (fr : Int) (tg : Int) = r := ⟨_, rfl⟩
  rw [hRES]
  have HG0 := Lib.hid (show tpG R.es (fr : Int) (tg : Int) (T.n + 2 - 0) 0 [] = RES from hRES)
  have HI0 := Lib.hid (show TpI R.es T.n (fr : Int) (tg : Int) [] from ⟨fun x hx => (by cases hx), fun k x hx => by simp at hx, List.nodup_nil, fun h => by cases h⟩)
  obtain ⟨tb, fb, rb, sb, n, m, A1, c1, A2, c2, F⟩ := T
  dsimp only at hed hz hn hf HG0 HI0 ⊢
  have hmk := @run_makeMap Try.prog
  clear hed hz hRES
  go_enter Try.func84, Try.ntmps84
  go_wp2
  have HS0 := Lib.hid (show PtS w.heap.size w.heap.size w ((w.alloc (.map #[] 0)).alloc (.cells #[.int .i64 (fr : Int)] 3)) (.slice (some ⟨w.heap.size + 1, 0, none⟩) 1 1) 1 (fr : Int) [] from by
    have hb := (box_below w (.map #[] 0)).alloc (box_below w (.map #[] 0)).size (.cells #[.int .i64 (fr : Int)] 3)
    have ho := own_lit (w.alloc (.map #[] 0)) [.int .i64 (fr : Int)] w.heap.size 3 (by simp) (by simp)
    rw [World.size_alloc] at ho
    exact ⟨hb, hb.size, ho, rfl, (TabM.made w Try.prog 3).kept (World.grownBy_alloc _ _ none) (by simp), Nat.le_refl _⟩)
  go_loopw [6, 8, 9, 11, 12, 13, 14] (fun s6 s8 s9 s11 s12 s13 s14 wr => ∃ (i nt : Nat) (v11 v12 v13 v14 : Value) (TA : Option Addr) (tc : Nat) (bef : List Ed), s8 = .slice TA nt tc ∧ s9 = .int .i64 i ∧ s6 = .slice none 0 0 ∧ s11 = v11 ∧ s12 = v12 ∧ s13 = v13 ∧ s14 = v14 ∧ i ≤ nt ∧ nt ≤ n + 1 ∧ Hid (PtS w.heap.size w.heap.size w wr (.slice TA nt tc) nt (fr : Int) bef) ∧ Hid (tpG R.es (fr : Int) (tg : Int) (n + 2 - i) i bef = RES) ∧ Hid (TpI R.es n (fr : Int) (tg : Int) bef)) (fun _ _ s9 _ _ _ _ _ => n + 2 - (intOf s9).toNat)
  case atStart => exact ⟨0, 1, _, _, _, _, _, _, [], rfl, rfl, rfl, rfl, rfl, rfl, rfl, by omega, by omega, HS0, HG0, HI0⟩
  case round =>
    clear HS0 HG0 HI0
    obtain ⟨i, nt, v11, v12, v13, v14, TA, tc, bef, rfl, rfl, rfl, rfl, rfl, rfl, rfl, hi, hnt, HS, HG, HI⟩ := hrel
    obtain ⟨wo, hwo⟩ : ∃ wo : World, wo = wr := ⟨_, rfl⟩
    rw [← hwo] at HS ⊢
    clear hwo
    by_cases hlt : i < nt
    · obtain ⟨kk, hkk⟩ : ∃ k, ((fr : Int) :: bef.map Ed.t)[i]? = some k := ⟨_, List.getElem?_eq_getElem (by rw [List.length_cons, List.length_map]; have := HS.out.nl; omega)⟩
      have hkr : 0 ≤ kk ∧ kk < (n : Int) := by
        rcases List.mem_cons.1 (List.mem_of_getElem? hkk) with rfl | h
        · omega
        · obtain ⟨y, hy, rfl⟩ := List.mem_map.1 h
          exact (HED.out y (HI.out.mem y hy)).2
      obtain ⟨kn, rfl⟩ : ∃ k : Nat, kk = (k : Int) := ⟨kk.toNat, by omega⟩
      have hkn : kn < n := by omega
      have HGM := Lib.hid (show tpM R.es (fr : Int) (tg : Int) (n + 1 - i) i (outL R.es (kn : Int)) bef = RES by
        rw [← tpG_M hkk, show n + 1 - i + 1 = n + 2 - i by omega]; exact HG.out)
      have hzo := HZ.out.ex2 (Ex2.refl.trans (Ex2.below (r := rb) (s := sb) HS.out.bel))
      obtain ⟨RA, rc, hF, hrow⟩ := HZ.out.row kn hkn
      dsimp only at hF hrow
      obtain ⟨nk, hnk⟩ : ∃ k, (outL R.es (kn : Int)).length = k := ⟨_, rfl⟩
      rw [hnk] at hF
      have hnm : nk ≤ 262144 := by rw [← hnk]; exact Nat.le_trans (List.length_filter_le _ _) hm
      obtain ⟨td, hTA⟩ := own_some HS.out.tod (by omega)
      subst hTA
      have htd : td.block < wo.heap.size := (HS.out.tod.lt td.block rfl).2
      have HROW := Lib.hid hrow.1
      have HNK := Lib.hid hnk
      have HKK := Lib.hid hkk
      have hcell : wo.cell? (td.add i) = some (.int .i64 (kn : Int)) := by
        obtain ⟨td', e1, e2⟩ := RdI.own_at HS.out.tod hkk
        injection e1 with e1
        subst e1
        exact e2
      have HAF := Lib.hid (fun (W : World) (hW : Below wo.heap.size wo W) => show W.cell? ⟨tb, 2, none⟩ = some (.slice (some ⟨fb, 0, none⟩) n n) ∧ W.cell? (td.add i) = some (.int .i64 (kn : Int)) ∧ W.cell? ⟨fb, kn, none⟩ = some (.slice RA nk rc) from
        ⟨(hzo.blk.below hW hzo.blk.lt).cell (j := 2) rfl, (hW.cell (by rw [block_of_add]; exact htd)).trans hcell, (hzo.fr.below hW hzo.fr.lt).cell hF⟩)
      have b1 : (i : Int) < (nt : Int) := by omega
      have b2 : (kn : Int) < (n : Int) := by omega
      have hint0 : i + 1 ≤ nt := hlt
      clear hkk hkr hzo hF hrow hnk HG hcell htd
      go_upto_region 6 with fail
      refine wp_region_U (fun W => W.cell? ⟨tb, 2, none⟩ = some (.slice (some ⟨fb, 0, none⟩) n n) ∧ W.cell? (td.add i) = some (.int .i64 (kn : Int)) ∧ W.cell? ⟨fb, kn, none⟩ = some (.slice RA nk rc)) (fun _ => True) 12 (by kernel_rfl) ?_
      change anyU _ _ _ _ _ _ _ 12 _ _ _
      have hB0 : True := trivial
      have HBD := Lib.hid (below_dr wo)
      generalize wo.drew = wd at HBD ⊢
      have hA0 := HAF.out wd HBD.out
      (refine uA 0 ?_ rfl hA0 hB0 (fun W hA => ?_) ?_; rotate_left; (· (go_simp; try with_reducible rfl)); refine uA 1 ?_ rfl hA0 hB0 (fun W hA => ?_) ?_; rotate_left; (· (go_simp; try with_reducible rfl)); refine uA 2 ?_ rfl hA0 hB0 (fun W hA => ?_) ?_; rotate_left; (· (go_simp; try with_reducible rfl)); (try simp only [Act.put, List.setIfInBounds_toArray, List.set_cons_zero, List.set_cons_succ]))
      (refine uA 3 ?_ rfl hA0 hB0 (fun W hA => ?_) ?_; rotate_left; (· (obtain ⟨h0, h1, h2⟩ := hA; go_simp; try with_reducible rfl)); (try simp only [Act.put, List.setIfInBounds_toArray, List.set_cons_zero, List.set_cons_succ]))
      (refine uA 4 ?_ rfl hA0 hB0 (fun W hA => ?_) ?_; rotate_left; (· (go_simp; try with_reducible rfl)); refine uA 5 ?_ rfl hA0 hB0 (fun W hA => ?_) ?_; rotate_left; (· (go_simp; try with_reducible rfl)); refine uA 6 ?_ rfl hA0 hB0 (fun W hA => ?_) ?_; rotate_left; (· (go_simp; try with_reducible rfl)); (try simp only [Act.put, List.setIfInBounds_toArray, List.set_cons_zero, List.set_cons_succ]))
      (refine uA 7 ?_ rfl hA0 hB0 (fun W hA => ?_) ?_; rotate_left; (· (obtain ⟨h0, h1, h2⟩ := hA; go_simp; try with_reducible rfl)); (try simp only [Act.put, List.setIfInBounds_toArray, List.set_cons_zero, List.set_cons_succ]))
      (refine uA 8 ?_ rfl hA0 hB0 (fun W hA => ?_) ?_; rotate_left; (· (go_simp; try with_reducible rfl)); (try simp only [Act.put, List.setIfInBounds_toArray, List.set_cons_zero, List.set_cons_succ]))
      (refine uA 9 ?_ rfl hA0 hB0 (fun W hA => ?_) ?_; rotate_left; (· (obtain ⟨h0, h1, h2⟩ := hA; go_simp; try with_reducible rfl)); (try simp only [Act.put, List.setIfInBounds_toArray, List.set_cons_zero, List.set_cons_succ]))
      (refine uA 10 ?_ rfl hA0 hB0 (fun W hA => ?_) ?_; rotate_left; (· (go_simp; try with_reducible rfl)); refine uA 11 ?_ rfl hA0 hB0 (fun W hA => ?_) ?_; rotate_left; (· (go_simp; try with_reducible rfl)); (try simp only [Act.put, List.setIfInBounds_toArray, List.set_cons_zero, List.set_cons_succ]))
      refine anyU_done (by kernel_rfl) ?_ _
      have HS1 := Lib.hid (HS.out.quiet HBD.out)
      have HSF := Lib.hid HS1.out.bel
      have HW0 := Lib.hid (Below.refl wd.heap.size wd)
      have hwsz : w.heap.size ≤ wd.heap.size := HS1.out.siz
      clear hA0 HS HAF hB0
      go_wp2_with fail
      go_loopw [6, 8, 11, 12, 13, 14, 35] (fun s6 s8 s11 s12 s13 s14 s35 wr => ∃ (q nt : Nat) (v11 v12 v13 v14 : Value) (TA : Option Addr) (tc : Nat) (bef : List Ed), s35 = .int .i64 q ∧ s8 = .slice TA nt tc ∧ s6 = .slice none 0 0 ∧ s11 = v11 ∧ s12 = v12 ∧ s13 = v13 ∧ s14 = v14 ∧ q ≤ nk ∧ i + 1 ≤ nt ∧ nt ≤ n + 1 ∧ Hid (PtS w.heap.size w.heap.size w wr (.slice TA nt tc) nt (fr : Int) bef) ∧ Hid (tpM R.es (fr : Int) (tg : Int) (n + 1 - i) i ((outL R.es (kn : Int)).drop q) bef = RES) ∧ Hid (TpI R.es n (fr : Int) (tg : Int) bef) ∧ Hid (((fr : Int) :: bef.map Ed.t)[i]? = some (kn : Int))) (fun _ _ _ _ _ _ s35 _ => nk - (intOf s35).toNat)
      case atStart => exact ⟨0, nt, _, _, _, _, _, tc, bef, rfl, rfl, rfl, rfl, rfl, rfl, rfl, by omega, hint0, hnt, HS1, HGM, HI, HKK⟩
      case round =>
        clear HS1 HGM HI HKK hint0 hnt HSF HW0 b1 hi hlt hwsz HBD
        obtain ⟨q, nt, v11, v12, v13, v14, TA, tc, bef, rfl, rfl, rfl, rfl, rfl, rfl, rfl, hq, hint, hnt, HS, HGM, HI, HKK⟩ := hrel
        by_cases hqk : q < nk
        · obtain ⟨ad, x, hA, hab, hx, hcx⟩ := (HROW.out.below HS.out.bel).get (k := q) (by rw [HNK.out]; exact hqk)
          subst hA
          have hxo := outL_mem.1 (List.mem_of_getElem? hx)
          have hxr := (HED.out x hxo.1).2
          obtain ⟨jt, hjt⟩ : ∃ j : Nat, x.t = (j : Int) := ⟨x.t.toNat, by omega⟩
          have hjn : jt < n := by omega
          obtain ⟨ev, hev⟩ : ∃ q, x.e / 3 = q := ⟨_, rfl⟩
          obtain ⟨sd, hsd⟩ : ∃ q, x.e % 3 = q := ⟨_, rfl⟩
          obtain ⟨fv, hfv⟩ : ∃ q, x.f = q := ⟨_, rfl⟩
          have q0 : wr.cell? (ad.add (q * 4)) = some (.int .i64 fv) := by rw [← hfv]; exact hcx 0 _ rfl
          have q1 : wr.cell? ⟨(ad.add (q * 4)).block, (ad.add (q * 4)).off + 1, none⟩ = some (.int .i64 ev) := by rw [← hev]; exact ev_cells (j := 0) (hcx 1 _ rfl)
          have q2 : wr.cell? ⟨(ad.add (q * 4)).block, (ad.add (q * 4)).off + 2, none⟩ = some (.int .i64 sd) := by rw [← hsd]; exact ev_cells (j := 1) (hcx 2 _ rfl)
          have q3 : wr.cell? ⟨(ad.add (q * 4)).block, (ad.add (q * 4)).off + 3, none⟩ = some (.int .i64 (jt : Int)) := by rw [← hjt]; exact ev_cells (j := 2) (hcx 3 _ rfl)
          have HX4 := Lib.hid (show x.f = fv ∧ x.e / 3 = ev ∧ x.e % 3 = sd ∧ x.t = (jt : Int) from ⟨hfv, hev, hsd, hjt⟩)
          have HXM := Lib.hid hxo
          have HGX := Lib.hid (show tpM R.es (fr : Int) (tg : Int) (n + 1 - i) i (x :: (outL R.es (kn : Int)).drop (q + 1)) bef = RES by rw [← drop_cons' hx]; exact HGM.out)
          have b1 : (q : Int) < (nk : Int) := by omega
          have hbx := box_below wr (.cells #[.int .i64 fv, .int .i64 ev, .int .i64 sd, .int .i64 (jt : Int)] 62)
          have kb : Blk (wr.alloc (.cells #[.int .i64 fv, .int .i64 ev, .int .i64 sd, .int .i64 (jt : Int)] 62)) wr.heap.size 62 [.int .i64 fv, .int .i64 ev, .int .i64 sd, .int .i64 (jt : Int)] := Blk.new _ _ [_, _, _, _]
          have HS4 := Lib.hid (HS.out.quiet hbx)
          have hbw : w.heap.size ≤ wr.heap.size := HS.out.siz
          have HKEY := Lib.hid (intKey (jt : Int) (WalkArith.wf_i64 (by omega)))
          clear hx hcx hxo hxr hjt hev hsd hfv hab hbx HS HGM
          go_upto_region 9 with fail
          obtain ⟨bx, hbe⟩ : ∃ b, wr.heap.size = b := ⟨_, rfl⟩
          rw [hbe] at kb hbw ⊢
          generalize wr.alloc (.cells #[.int .i64 fv, .int .i64 ev, .int .i64 sd, .int .i64 (jt : Int)] 62) = w4 at HS4 kb ⊢
          have HKB := Lib.hid kb
          clear hbe q0 q1 q2 q3 kb
          have g3 := HKB.out.cell (j := 3) rfl
          obtain ⟨sn, hsn⟩ : ∃ b, (befA bef (jt : Int)).isSome = b := ⟨_, rfl⟩
          have HSN := Lib.hid hsn
          go_upto_region 10 with (first
            | (at_lookup; refine wpList_tabM_look rfl (.tmp 40) (.tmp 42) 180 rfl intLaw Try.underlying180 (zeroMv _) rfl HS4.out.tab (jt : Int) rfl HKEY.out ?_; rw [hsn]; intro y1 y2 y3 y4)
            | fail)
          clear hsn
          have hbx5 := box_below w4 (.cells #[.int .i64 y1, .int .i64 y2, .int .i64 y3, .int .i64 y4] 62)
          have HS5 := Lib.hid (HS4.out.quiet hbx5)
          have HK5 := Lib.hid (HKB.out.below hbx5 HKB.out.lt)
          generalize w4.alloc (.cells #[.int .i64 y1, .int .i64 y2, .int .i64 y3, .int .i64 y4] 62) = w5 at HS5 HK5 ⊢
          clear hbx5 g3 HS4 HKB
          cases sn with
          | true =>
            have HG5 := Lib.hid (show tpM R.es (fr : Int) (tg : Int) (n + 1 - i) i ((outL R.es (kn : Int)).drop (q + 1)) bef = RES by
              rw [← HGX.out]
              exact (tpM_eq (tpX_seen (by rw [HX4.out.2.2.2]; exact HSN.out))).symm)
            go_wp2
            go_roundw
            case rel => exact ⟨q + 1, nt, _, _, _, _, TA, tc, bef, by go_num, rfl, rfl, rfl, rfl, rfl, rfl, by omega, hint, hnt, HS5, HG5, HI, HKK⟩
            case measure => simp [intOf]; omega
          | false =>
            have hnot : x.t ∉ bef.map Ed.t := fun h => by
              have h2 := befA_none.2 h
              rw [HX4.out.2.2.2, HSN.out] at h2
              cases h2
            have hkf : x.f = (fr : Int) ∨ x.f ∈ bef.map Ed.t := by
              rw [HXM.out.2]
              have h2 := List.mem_of_getElem? HKK.out
              rcases List.mem_cons.1 h2 with h3 | h3
              · exact .inl h3
              · exact .inr h3
            obtain ⟨hp1, hp2, hp3⟩ := HI.out.push HXM.out.1 hkf hnot
            have HP1 := Lib.hid hp1
            have HP2 := Lib.hid hp2
            have HP3 := Lib.hid hp3
            have HNOT := Lib.hid hnot
            have hbl : bef.length ≤ 5000 := by have := HS5.out.nl; omega
            have g0 := HK5.out.cell (j := 0) rfl
            have g1 := HK5.out.cell (j := 1) rfl
            have g2 := HK5.out.cell (j := 2) rfl
            have g3 := HK5.out.cell (j := 3) rfl
            clear hnot hkf hp1 hp2 hp3
            go_upto_region 12 with (first
              | (at_mapUpdate; refine wpList_tabM_put rfl (.tmp 47) (.tmp 49) (.tmp 50) 180 rfl intLaw Try.underlying180 rfl HS5.out.tab (by omega) (jt : Int) rfl HKEY.out x (by rw [HX4.out.1, HX4.out.2.1, HX4.out.2.2.1, HX4.out.2.2.2]; rfl) (befA (bef ++ [x])) (by rw [← HX4.out.2.2.2]; exact befA_new HNOT.out) (fun d hd => befA_other (by rw [HX4.out.2.2.2]; exact hd)) ?_; intro w6 hT6 hg6)
              | fail)
            have HT6 := Lib.hid hT6
            have HG6 := Lib.hid hg6
            have HK6 := Lib.hid (HK5.out.kept hg6 (fun e => by injection e with e; exact HS5.out.tab.neB HK5.out e.symm))
            clear g0 g1 g2 g3 hT6 hg6
            have g3 := HK6.out.cell (j := 3) rfl
            by_cases hjt : jt = tg
            · have b3 : ((jt : Int) != (tg : Int)) = false := by simp [hjt]
              obtain ⟨LST, hLST⟩ : ∃ l, tbk (bef ++ [x]) (fr : Int) bef.length x = l := ⟨_, rfl⟩
              have HRS := Lib.hid (show RES = some LST.reverse by
                rw [← HGX.out, ← hLST]
                exact tpM_hit (tpX_hit (by rw [HX4.out.2.2.2]; exact HSN.out) (by rw [HX4.out.2.2.2, hjt])))
              have HL0 := Lib.hid (show LST = [] ++ tbk (bef ++ [x]) (fr : Int) bef.length x from hLST.symm)
              have g0 := HK6.out.cell (j := 0) rfl
              have g1 := HK6.out.cell (j := 1) rfl
              have g2 := HK6.out.cell (j := 2) rfl
              have hs6 : w.heap.size ≤ w6.heap.size := Nat.le_trans HS5.out.siz HG6.out.size
              have hbel6 : Below w.heap.size w w6 := HS5.out.bel.grown HG6.out HS5.out.siz (fun j hj => by injection hj with hj; omega)
              have HBW := Lib.hid hbel6
              have HJX := Lib.hid (show (bef ++ [x])[bef.length]? = some x ∧ bef.length ≤ bef.length from ⟨by simp, Nat.le_refl _⟩)
              obtain ⟨nb, hnb⟩ : ∃ k, bef.length = k := ⟨_, rfl⟩
              rw [hnb] at HL0 HJX hbl HT6
              obtain ⟨B2, hB2⟩ : ∃ l, bef ++ [x] = l := ⟨_, rfl⟩
              rw [hB2] at HL0 HJX HT6 HP1 HP2 HP3
              have hbx6 := box_below w6 (.cells #[.int .i64 fv, .int .i64 ev, .int .i64 sd, .int .i64 (jt : Int)] 62)
              have hro := own_lit4 w6 w.heap.size hs6 (.int .i64 fv) (.int .i64 ev) (.int .i64 sd) (.int .i64 (jt : Int)) 62
              have hmx : mvc x = [.int .i64 fv, .int .i64 ev, .int .i64 sd, .int .i64 (jt : Int)] := by unfold mvc; rw [HX4.out.1, HX4.out.2.1, HX4.out.2.2.1, HX4.out.2.2.2]
              have HRO := Lib.hid (show (w6.alloc (.cells #[.int .i64 fv, .int .i64 ev, .int .i64 sd, .int .i64 (jt : Int)] 62)).ownsRow w.heap.size 62 4 (.slice (some ⟨w6.heap.size, 0, none⟩) 1 1) 1 (([] ++ [x]).flatMap mvc) by
                rw [List.nil_append, List.flatMap_cons, List.flatMap_nil, List.append_nil, hmx]; exact hro)
              have HK7 := Lib.hid (show Blk (w6.alloc (.cells #[.int .i64 fv, .int .i64 ev, .int .i64 sd, .int .i64 (jt : Int)] 62)) bx 62 (mvc x) by rw [hmx]; exact HK6.out.below hbx6 HK6.out.lt)
              have HT7 := Lib.hid (HT6.out.below hbx6)
              have HB7 := Lib.hid (HBW.out.trans (hbx6.mono hs6))
              have HNB := Lib.hid (show ∀ g, (Value.slice (some ⟨w6.heap.size, 0, none⟩) 1 1).ownBlock = some g → g ≠ bx from fun g hg => by
                have h1 := HK6.out.lt
                have h2 : w6.heap.size = g := by simpa [Value.ownBlock] using hg
                omega)
              clear hLST hnb hB2 hbx6 hro hmx hbel6 hjt HS5 HG6 HGX HX4 HSN HXM HNOT HK5 HT6 HKK HI
              go_upto_region 15 with fail
              generalize w6.heap.size = b6 at HRO HNB ⊢
              generalize w6.alloc (.cells #[.int .i64 fv, .int .i64 ev, .int .i64 sd, .int .i64 (jt : Int)] 62) = w7 at HRO HK7 HT7 HB7 ⊢
              clear g0 g1 g2 g3 hs6
              go_loopw [14] (fun s14 wr => ∃ (k g jj : Nat) (la : Addr) (lc : Nat) (y : Ed) (pre : List Ed), s14 = .slice (some la) k lc ∧ k + g = nb + 1 ∧ Hid (wr.ownsRow w.heap.size 62 4 (.slice (some la) k lc) k ((pre ++ [y]).flatMap mvc)) ∧ Hid (pre.length + 1 = k) ∧ Hid (Blk wr bx 62 (mvc y)) ∧ Hid (TabM Try.prog 3 wr w.heap.size (nb + 1) (befA B2)) ∧ Hid (Below w.heap.size w wr) ∧ Hid (∀ g, (Value.slice (some la) k lc).ownBlock = some g → g ≠ bx) ∧ Hid (LST = pre ++ tbk B2 (fr : Int) g y) ∧ Hid (B2[jj]? = some y ∧ jj ≤ g)) (fun s14 _ => nb + 2 - lenV s14)
              case atStart => exact ⟨1, nb, nb, _, _, x, [], rfl, by omega, HRO, Lib.hid rfl, HK7, HT7, HB7, HNB, HL0, HJX⟩
              case round =>
                clear HRO HK7 HT7 HB7 HNB HL0 HJX HBW HK6
                obtain ⟨k, g, jj, la, lc, y, pre, rfl, hkg, HRO, HPL, HKB, HTB, HBW, HNB, HLS, HJJ⟩ := hrel
                obtain ⟨yf, hyf⟩ : ∃ q, y.f = q := ⟨_, rfl⟩
                obtain ⟨ye, hye⟩ : ∃ q, y.e / 3 = q := ⟨_, rfl⟩
                obtain ⟨yr, hyr⟩ : ∃ q, y.e % 3 = q := ⟨_, rfl⟩
                obtain ⟨yt, hyt⟩ : ∃ q, y.t = q := ⟨_, rfl⟩
                have hmy : mvc y = [.int .i64 yf, .int .i64 ye, .int .i64 yr, .int .i64 yt] := by unfold mvc; rw [hyf, hye, hyr, hyt]
                have kb := HKB.out
                rw [hmy] at kb
                have g0 := kb.cell (j := 0) rfl
                have HYF := Lib.hid hyf
                clear hye hyr hyt hyf hmy
                by_cases hyfr : yf = (fr : Int)
                · have b4 : (yf != (fr : Int)) = false := by simp [hyfr]
                  have HLF := Lib.hid (show LST = pre ++ [y] by rw [HLS.out, tbk_end (by rw [HYF.out]; exact hyfr)])
                  have HREV := Lib.hid (reverse_mv w.heap.size k (.slice (some la) k lc) (pre ++ [y]) wr HRO.out (by rw [List.length_append]; exact HPL.out) (by omega))
                  have hsz := HBW.out.size
                  clear hyfr
                  go_wp2_with fail
                  refine HREV.out.mono ?_
                  rintro _ w9 ⟨rfl, ho9, hg9⟩
                  have HB9 := Lib.hid (HBW.out.grown hg9 hsz (fun j hj => (HRO.out.lt j hj).1))
                  have HO9 := Lib.hid ho9
                  clear ho9 hg9 HREV g0 kb
                  go_wp2
                  go_ret
                  unfold RetTp
                  rw [HRS.out]
                  have hll : LST.reverse.length = k := by rw [List.length_reverse, HLF.out, List.length_append]; exact HPL.out
                  refine ⟨HB9.out, la, lc, ?_, ?_, by rw [hll]; omega⟩
                  · show Ending.returned (.slice (some la) k lc) = _
                    rw [hll]
                  · rw [hll, HLF.out]
                    exact HO9.out
                · have b4 : (yf != (fr : Int)) = true := by simpa using hyfr
                  obtain ⟨jy, hjy⟩ : ∃ j, jj = j := ⟨_, rfl⟩
                  rcases HP2.out jj y HJJ.out.1 with hpf | ⟨j2, y2, hj2, hy2, hyt2⟩
                  · exact absurd (by rw [← HYF.out]; exact hpf) hyfr
                  · have hbef : befA B2 yf = some y2 := by rw [← HYF.out, ← hyt2]; exact befA_at HP3.out hy2
                    have hg1 : ∃ g2, g = g2 + 1 := ⟨g - 1, by have := HJJ.out.2; omega⟩
                    obtain ⟨g2, rfl⟩ := hg1
                    have HLN := Lib.hid (show LST = (pre ++ [y]) ++ tbk B2 (fr : Int) g2 y2 by
                      rw [HLS.out, tbk_go (by rw [HYF.out]; exact hyfr) (by rw [HYF.out]; exact hbef), List.append_assoc]; rfl)
                    have HJ2 := Lib.hid (show B2[j2]? = some y2 ∧ j2 ≤ g2 from ⟨hy2, by have := HJJ.out.2; omega⟩)
                    have hyb := (HED.out y (HP1.out y (List.mem_of_getElem? HJJ.out.1))).1
                    rw [HYF.out] at hyb
                    have hrun := HTB.out.run intLaw Try.underlying180 (zeroMv _) yf (intKey yf (WalkArith.wf_i64 (by omega))) y2 hbef
                    obtain ⟨zf, hzf⟩ : ∃ q, y2.f = q := ⟨_, rfl⟩
                    obtain ⟨ze, hze⟩ : ∃ q, y2.e / 3 = q := ⟨_, rfl⟩
                    obtain ⟨zr, hzr⟩ : ∃ q, y2.e % 3 = q := ⟨_, rfl⟩
                    obtain ⟨zt, hzt⟩ : ∃ q, y2.t = q := ⟨_, rfl⟩
                    rw [hzf, hze, hzr, hzt] at hrun
                    have HMZ := Lib.hid (show mvc y2 = [.int .i64 zf, .int .i64 ze, .int .i64 zr, .int .i64 zt] by unfold mvc; rw [hzf, hze, hzr, hzt])
                    have f0 := kb.free 0
                    have f1 := kb.free 1
                    have f2 := kb.free 2
                    have f3 := kb.free 3
                    have g1 := kb.cell (j := 1) rfl
                    have g2' := kb.cell (j := 2) rfl
                    have g3 := kb.cell (j := 3) rfl
                    have l0 := kb.lt
                    have hk9 := (((kb.set (j := 0) (by simp) (.int .i64 zf)).set (j := 1) (by simp) (.int .i64 ze)).set (j := 2) (by simp) (.int .i64 zr)).set (j := 3) (by simp) (.int .i64 zt)
                    have hg9 := (((grown_setCell wr bx 0 (.int .i64 zf)).trans (grown_setCell _ bx 1 (.int .i64 ze))).trans (grown_setCell _ bx 2 (.int .i64 zr))).trans (grown_setCell _ bx 3 (.int .i64 zt))
                    have HK9 := Lib.hid hk9
                    have HG9 := Lib.hid hg9
                    have HT9 := Lib.hid (HTB.out.kept hg9 (fun e => by injection e with e; exact HTB.out.neB kb e))
                    have HO9 := Lib.hid (HRO.out.kept hg9 (.inr (fun e => HNB.out bx e rfl)))
                    have HB9 := Lib.hid (HBW.out.grown hg9 HBW.out.size (fun j hj => by injection hj with hj; omega))
                    clear hk9 hg9 hbef hy2 hyt2 hj2 hyb hzf hze hzr hzt hyfr hjy
                    go_upto_region 17 with fail
                    generalize ((((wr.setCell ⟨bx, 0, none⟩ (.int .i64 zf)).setCell ⟨bx, 1, none⟩ (.int .i64 ze)).setCell ⟨bx, 2, none⟩ (.int .i64 zr)).setCell ⟨bx, 3, none⟩ (.int .i64 zt)) = w9 at HK9 HG9 HT9 HO9 HB9 ⊢
                    clear f0 f1 f2 f3 g0 g1 g2' g3 l0 hrun kb
                    have g0 := HK9.out.cell (j := 0) rfl
                    have g1 := HK9.out.cell (j := 1) rfl
                    have g2' := HK9.out.cell (j := 2) rfl
                    have g3 := HK9.out.cell (j := 3) rfl
                    have hs9 := HB9.out.size
                    go_wp2_with (first
                      | (at_builtin; refine wpList_pushA w9 [.int .i64 zf, .int .i64 ze, .int .i64 zr, .int .i64 zt] rfl (.tmp 70) (.tmp 72) 52 rfl w.heap.size 62 (.agg #[.int .i64 0, .int .i64 0, .int .i64 0, .int .i64 0]) 4 32 Try.underlying52 mov_info rfl (by decide) rfl (.slice (some la) k lc) k _ rfl HO9.out rfl (mov_one _ _ _ _) (by omega) (by omega) hs9 ?_; intro A8 c8 w8 ho8 hg8 hl8; have HO8 := Lib.hid ho8; have HG8 := Lib.hid hg8; have HL8 := Lib.hid hl8; clear ho8 hg8 hl8)
                      | fail)
                    obtain ⟨la8, hla8⟩ := own_some HO8.out (by omega)
                    subst hla8
                    have HRO8 := Lib.hid (show w8.ownsRow w.heap.size 62 4 (.slice (some la8) (k + 1) c8) (k + 1) ((pre ++ [y] ++ [y2]).flatMap mvc) by
                      rw [List.flatMap_append (ys := [y2]), List.flatMap_cons, List.flatMap_nil, List.append_nil, HMZ.out]; exact HO8.out)
                    have HK8 := Lib.hid (show Blk w8 bx 62 (mvc y2) by
                      rw [HMZ.out]
                      exact HK9.out.kept HG8.out (fun e => HNB.out bx e.symm rfl))
                    have HT8 := Lib.hid (HT9.out.kept HG8.out (HT9.out.ne HO9.out))
                    have HB8 := Lib.hid (HB9.out.grown HG8.out hs9 (fun j hj => (HO9.out.lt j hj).1))
                    have HNB8 := Lib.hid (show ∀ g, (Value.slice (some la8) (k + 1) c8).ownBlock = some g → g ≠ bx from fun g hg => by
                      rcases HL8.out with h1 | ⟨g3, h1, h2⟩
                      · rw [h1] at hg; exact HNB.out g hg
                      · rw [h1] at hg
                        injection hg with hg
                        have := HK9.out.lt
                        omega)
                    have HPL8 := Lib.hid (show (pre ++ [y]).length + 1 = k + 1 by rw [List.length_append]; have := HPL.out; simp only [List.length_singleton]; omega)
                    go_roundw
                    case rel => exact ⟨k + 1, g2, j2, la8, c8, y2, pre ++ [y], rfl, by omega, HRO8, HPL8, HK8, HT8, HB8, HNB8, HLN, HJ2⟩
                    case measure => simp [lenV]; omega
            · have b3 : ((jt : Int) != (tg : Int)) = true := by simp; omega
              have HI7 := Lib.hid (show TpI R.es n (fr : Int) (tg : Int) (bef ++ [x]) from ⟨HP1.out, HP2.out, HP3.out, fun h => by
                rw [List.map_append] at h
                rcases List.mem_append.1 h with h | h
                · exact HI.out.nt h
                · have h2 : (tg : Int) = x.t := by simpa using h
                  rw [HX4.out.2.2.2] at h2
                  omega⟩)
              have hlen : nt + 1 ≤ n + 1 := by
                have h2 := HI7.out.len HED.out
                rw [List.length_append] at h2
                have h3 := HS5.out.nl
                simp only [List.length_singleton] at h2
                omega
              have HG7 := Lib.hid (show tpM R.es (fr : Int) (tg : Int) (n + 1 - i) i ((outL R.es (kn : Int)).drop (q + 1)) (bef ++ [x]) = RES by
                rw [← HGX.out]
                exact (tpM_eq (tpX_go (by rw [HX4.out.2.2.2]; exact HSN.out) (by rw [HX4.out.2.2.2]; omega))).symm)
              have HKK7 := Lib.hid (show ((fr : Int) :: (bef ++ [x]).map Ed.t)[i]? = some (kn : Int) by
                rw [List.map_append, ← List.cons_append, List.getElem?_append_left (List.getElem?_eq_some_iff.1 HKK.out).1]; exact HKK.out)
              have HTO6 := Lib.hid (HS5.out.tod.kept HG6.out (.inr (fun e => HS5.out.tab.ne HS5.out.tod e.symm)))
              have hs6 : w.heap.size ≤ w6.heap.size := Nat.le_trans HS5.out.siz HG6.out.size
              clear hjt
              go_wp2_with (first
                | (at_builtin; refine wpList_pushA w6 [.int .i64 (jt : Int)] rfl (.tmp 55) (.tmp 58) 31 rfl w.heap.size 3 (.int .i64 0) 1 8 Try.underlying31 int_info rfl (by decide) rfl (.slice TA nt tc) nt _ rfl HTO6.out rfl (fun z hz => by simp at hz; subst hz; rfl) (by omega) (by omega) hs6 ?_; intro A7 c7 w7 ho7 hg7 _; have HS7 := Lib.hid (HS5.out.push (x := x) HT6.out HG6.out (by rw [HX4.out.2.2.2]; exact ho7) hg7); clear ho7 hg7)
                | fail)
              go_roundw
              case rel => exact ⟨q + 1, nt + 1, _, _, _, _, A7, c7, bef ++ [x], by go_num, rfl, rfl, rfl, rfl, rfl, rfl, by omega, by omega, hlen, HS7, HG7, HI7, HKK7⟩
              case measure => simp [intOf]; omega
        · obtain rfl : q = nk := by omega
          have b1 : ¬ (q : Int) < (q : Int) := by omega
          have HGN := Lib.hid (show tpG R.es (fr : Int) (tg : Int) (n + 2 - (i + 1)) (i + 1) bef = RES by
            have h9 := HGM.out
            rw [List.drop_of_length_le (by rw [HNK.out]; exact Nat.le_refl _)] at h9
            rw [show n + 2 - (i + 1) = n + 1 - i by omega]
            exact h9)
          go_wp2
          go_roundw
          case rel => exact ⟨i + 1, nt, _, _, _, _, TA, tc, bef, rfl, by go_num, rfl, rfl, rfl, rfl, rfl, hint, hnt, HS, HGN, HI⟩
          case measure => simp [intOf]; omega
    · obtain rfl : i = nt := by omega
      have b1 : ¬ (i : Int) < (i : Int) := by omega
      have HRN := Lib.hid (show RES = none by
        have h9 := HG.out
        rw [show n + 2 - i = n + 1 - i + 1 by omega, tpG_end (by have := HS.out.nl; omega)] at h9
        exact h9.symm)
      have HBF := Lib.hid HS.out.bel
      go_wp2
      go_ret
      unfold RetTp
      rw [HRN.out]
      exact ⟨HBF.out, rfl⟩
end Go.Proofs.Ytddhaidimadliaa
