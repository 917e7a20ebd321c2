/- Walks: diagnosability.Twin at a right model and class. -/
import Derived.Test.YtddhaidimadliaaJh
import Derived.Test.YtddhaidimadliaaJi
namespace Go.Proofs.Ytddhaidimadliaa
open Go.RowKit Go Go.Maps

theorem mv0_own {w : World} {B n c : Nat} {A : Option Addr} {L : List (Int × TwS)} (h : w.ownsRow B 62 4 (.slice A n c) n (mvCs L)) : RdR 4 (fun p : Int × TwS => [.int .i64 0, .int .i64 (p.1 / 3), .int .i64 (p.1 % 3), .int .i64 0]) w w.heap.size A L := RdR.of_own (by omega) (fun _ _ => rfl) h
theorem pr0_own {w : World} {B n c : Nat} {A : Option Addr} {L : List (Int × TwS)} (h : w.ownsRow B 59 3 (.slice A n c) n (prCs L)) : RdR 3 (fun p : Int × TwS => prC p.2) w w.heap.size A L := RdR.of_own (by omega) (fun _ _ => rfl) h
theorem pr0_cells {w : World} {B j : Nat} {ad : Addr} {L : List (Int × TwS)} {v u1 u2 : Int} {uf : Bool} (h : RdR 3 (fun p : Int × TwS => prC p.2) w B (some ad) L) (hj : L[j]? = some (v, u1, uf, u2)) :
  w.cell? (ad.add (j * 3)) = some (.int .i64 u1) ∧ w.cell? ⟨(ad.add (j * 3)).block, (ad.add (j * 3)).off + 1, none⟩ = some (.bool uf) ∧ w.cell? ⟨(ad.add (j * 3)).block, (ad.add (j * 3)).off + 2, none⟩ = some (.int .i64 u2) := by
 obtain ⟨ad', e, _, hc⟩ := h j _ hj
 injection e with e
 subst e
 exact ⟨hc 0 _ rfl, ev_cells (j := 0) (hc 1 _ rfl), ev_cells (j := 1) (hc 2 _ rfl)⟩
theorem step_run {P : Program} {ops : Array Oper} {o : Oper} {a : Act} {K : Act → World → Prop} {Q : Exit → Act → World → Prop} {E : Prop} {w w' : World} {v : Value} (hgd : o.guard = none) (hr : (execOp a.eval o).run P w = .ok (.value v) w') (h : K (a.put o.dst v) w') :
  if Region.wanted o (yielded ops a.tmps) = true then Oper.wp P o a w K Q else E := by
 rw [if_pos (by simp [Region.wanted, hgd])]
 unfold Oper.wp
 rw [hr]
 exact h
theorem step_skip {P : Program} {ops : Array Oper} {o : Oper} {a : Act} {K : Act → World → Prop} {Q : Exit → Act → World → Prop} {E : Prop} {w w' : World} (hgd : o.guard = none) (hr : (execOp a.eval o).run P w = .ok .skip w') (h : K (a.put o.dst undef) w') :
  if Region.wanted o (yielded ops a.tmps) = true then Oper.wp P o a w K Q else E := by
 rw [if_pos (by simp [Region.wanted, hgd])]
 unfold Oper.wp
 rw [hr]
 exact h
theorem exec_mapEntry {P : Program} {o : Oper} {a : Act} {m x : Operand} {t : TypeId} {v mv xv : Value} {w w' : World} (hop : o.op = Op.mapEntry t m x) (hm : a.eval m = mv) (hx : a.eval x = xv) (hr : (Instr.mapEntry t mv xv).run P w = .ok v w') : (execOp a.eval o).run P w = .ok (.value v) w' := by
 simp [execOp, hop, hm, hx, hr, Result.andThen]
theorem exec_entryStore {P : Program} {o : Oper} {a : Act} {m s x : Operand} {t : TypeId} {mv sv xv : Value} {w w' : World} (hop : o.op = Op.entryStore t m s x) (hm : a.eval m = mv) (hs : a.eval s = sv) (hx : a.eval x = xv) (hr : (Instr.entryStore t mv sv xv).run P w = .ok () w') : (execOp a.eval o).run P w = .ok .skip w' := by
 simp [execOp, hop, hm, hs, hx, hr, Result.andThen]
section
variable {B o : Nat} {w0 w w' : World} {tv mv pv lv : Value} {nt nm ke n : Nat} {tk ts : List TwS} {es : List Ed} {L : List (Int × TwS)}
theorem TwN.box (h : TwN B o w0 w tv mv pv lv nt nm ke n tk ts es L) {b : Nat} {vs : List Value} (hk : Blk w b 62 vs) (h1 : ∀ g, mv.ownBlock = some g → g < b) (h2 : ∀ g, lv.ownBlock = some g → g < b) (hB : B ≤ b) (ho : o ≠ b) (hg : w.grownBy w' (some b)) : TwN B o w0 w' tv mv pv lv nt nm ke n tk ts es L := by
 have hbel : Below B w0 w' := h.prs.bel.grown hg h.prs.siz (fun j hj => by injection hj with hj; omega)
 have hsz : B ≤ w'.heap.size := Nat.le_trans h.prs.siz hg.size
 exact ⟨⟨hbel, hsz, h.prs.o1.kept hg (own_ne_blk h.prs.o1 hk (by decide)), h.prs.o2.kept hg (own_ne_blk h.prs.o2 hk (by decide)), h.prs.apt⟩,
  ⟨hbel, hsz, h.mvs.o1.kept hg (.inr (fun e => by have := h1 b e; omega)), h.mvs.o2.kept hg (.inr (fun e => by have := h2 b e; omega)), h.mvs.apt⟩, h.tn, h.en, h.tab.kept hg (by intro e; injection e with e; exact ho e)⟩
end
set_option maxRecDepth 100000 in
set_option maxHeartbeats 6400000 in
theorem dm_Twin (z : DV) (c : Int) (w : World) (h : z.ok w w.heap.size) (hc : clsE z c = 0) (hs : z.x.a.st ≤ 40) (R : Bs TwS) (hR : twin z.m c = some R) :
  Calls Try.prog 20 #[.agg (dvc z).toArray, .int .i64 c] w (RetTw R w) := by
 have hw : WF z.x.a := dmE_wf (clsE_dm hc)
 have hev := dmE_al (clsE_dm hc)
 have hna : z.x.na ≤ 32 := by have h1 := hw.al_le; rw [h.x.la] at h1; exact h1
 have hmw : WF z.m.a := hw
 have hma : z.m.a = z.x.a := rfl
 have HMV := Lib.hid (fun (p : TwS) (hp : TwR z.m p) (W : World) (hW : z.ok W W.heap.size) => dm_moves z p c W hW hw hev (Nat.le_trans hna (by omega)) hp.1.1 hp.1.2 hp.2.1 hp.2.2)
 have hst0 := hw.st0
 obtain ⟨⟨A, na, ca, M, nm, cm, E, ne, ce, a⟩, V, nv, cv, l⟩ := z
 have hb1 := box_below w (.cells #[.slice A na ca, .int .i64 a.st, .slice M nm cm, .slice E ne ce, .slice V nv cv] 37)
 obtain ⟨w1, hw1⟩ : ∃ w1, w1 = w.alloc (.cells #[.slice A na ca, .int .i64 a.st, .slice M nm cm, .slice E ne ce, .slice V nv cv] 37) := ⟨_, rfl⟩
 have kx : Blk w1 w.heap.size 37 [.slice A na ca, .int .i64 a.st, .slice M nm cm, .slice E ne ce, .slice V nv cv] := by rw [hw1]; exact Blk.new _ _ [_, _, _, _, _]
 rw [← hw1] at hb1
 have HK := Lib.hid (fun (W : World) (hb : Below w1.heap.size w1 W) => kx.below hb kx.lt)
 have HOK := Lib.hid (fun (W : World) (hb : Below w1.heap.size w1 W) => (h.below (hb1.trans (hb.mono hb1.size))).more (hb1.trans (hb.mono hb1.size)).size)
 have HC := Lib.hid (dm_classed _ c 0 w1 (HOK.out w1 (Below.refl _ _)) hc)
 unfold dvc at HC HMV ⊢
 dsimp only at HC HMV hw hs hst0 hna hma ⊢
 obtain ⟨mm, hmm⟩ : ∃ m, DV.m ⟨⟨A, na, ca, M, nm, cm, E, ne, ce, a⟩, V, nv, cv, l⟩ = m := ⟨_, rfl⟩
 rw [hmm] at HMV hR hmw hma
 obtain ⟨sv, hsv⟩ : ∃ s, a.st = s := ⟨_, rfl⟩
 have HMS := Lib.hid (show mm.a.st = sv by rw [hma, hsv])
 have HALL := Lib.hid (show a.al = mm.a.al by rw [hma])
 have hla := h.x.la
 dsimp only at hla
 have HLA := Lib.hid (show mm.a.al.length = na by rw [hma]; exact hla)
 rw [HALL.out] at HMV
 rw [hsv] at hw1 HK HC HMV hs hst0 ⊢
 have k0 := HK.out w1 (Below.refl _ _)
 have a0 := k0.cell (j := 0) rfl
 have a1 := k0.cell (j := 1) rfl
 have a2 := k0.cell (j := 2) rfl
 have a3 := k0.cell (j := 3) rfl
 have a4 := k0.cell (j := 4) rfl
 clear k0
 have lx : w.heap.size < w1.heap.size := kx.lt
 have HLX := Lib.hid lx
 have HMS0 := Lib.hid (show mm.a.st ≤ 40 by rw [HMS.out]; exact hs)
 have HW1 := Lib.hid hw1; clear hw1
 have HB1 := Lib.hid hb1; clear hb1
 have HR := Lib.hid hR; clear hR
 have HMW := Lib.hid hmw; clear hmw
 have HMM := Lib.hid hmm; clear hmm
 clear hsv hma hla hev hw hc h kx
 have hmk := @run_makeMap Try.prog
 go_enter Try.func20, Try.ntmps20
 go_wp2_with fail
 rw [← HW1.out]
 refine HC.out.mono ?_
 rintro e w2 ⟨rfl, hb2⟩
 have HB12 := Lib.hid hb2
 have HB2 := Lib.hid (HB1.out.trans (hb2.mono HB1.out.size))
 clear a0 a1 a2 a3 a4 HC hb2
 have k0 := HK.out w2 HB12.out
 have a1 := k0.cell (j := 1) rfl
 clear k0
 go_upto_if 25 with fail
 by_cases h0 : sv = 0
 ·have b0 : (sv == 0) = true := by simp [h0]
  have HR0 := Lib.hid (show R = ⟨[], []⟩ by
   have h9 := HR.out
   unfold twin at h9
   rw [if_pos (by rw [HMS.out]; exact h0)] at h9
   injection h9 with h9
   exact h9.symm)
  clear h0
  go_wp2
  refine bodyPost_ret (v := .tuple #[.slice none 0 0, .slice none 0 0, .int .i64 0]) (by simp [results, Try.results20, go_sem]) rfl ?_
  rw [HR0.out]
  exact ⟨_, _, _, _, _, _, rfl, rfl, rfl, by omega, by omega, World.ownsRow_nil _ _ _ _, World.ownsRow_nil _ _ _ _, HB2.out⟩
 ·have b0 : (sv == 0) = false := by simpa using h0
  have hRS : bsR 4096 (twS mm c) (twV mm) (4097 - 0) 0 ⟨[(0, false, 0)], []⟩ = some R := by
   have h9 := HR.out
   unfold twin at h9
   rw [if_neg (by rw [HMS.out]; exact h0)] at h9
   exact h9
  have hTR : ∀ t ∈ [((0 : Int), false, (0 : Int))], TwR mm t := by
   intro t ht
   obtain rfl := List.mem_singleton.1 ht
   unfold TwR
   rw [HMS.out]
   dsimp only
   omega
  have HRS := Lib.hid hRS; clear hRS
  have HTR := Lib.hid hTR; clear hTR
  have HT5 := Lib.hid (show TabI Try.prog 59 3 kT ((w2.alloc (.cells #[.int .i64 0, .bool false, .int .i64 0] 59)).alloc (.map #[] 0)) (w2.heap.size + 1) 0 (fun _ => none) from by
   have := TabI.made (w2.alloc (.cells #[.int .i64 0, .bool false, .int .i64 0] 59)) Try.prog 59 3 kT
   rwa [World.size_alloc] at this)
  have HKZ := Lib.hid (twKey w (0, false, 0) (by decide) (by decide))
  clear h0 a1
  go_wp2_with (refine wpList_tab_insert rfl (.tmp 28) (.tmp 29) (.const (.int .i64 0)) 117 rfl twLaw Try.underlying117 Try.underlying3 rfl HT5.out (by omega) (0, false, 0) rfl HKZ.out 0 rfl (by decide) (idxO [(0, false, 0)]) (fun d hd => by rw [kT_inj hd]; simp [idxO, idx]) (fun d hd => by have hd' : ¬ ((0 : Int), false, (0 : Int)) = d := fun e => hd (by rw [e]); simp [idxO, idx, hd']) ?_; intro w6 hT6 hg6)
  have HM := Lib.hid (TwN.start hT6 hg6)
  clear hT6 hg6 HT5 HKZ
  obtain ⟨o, ho⟩ : ∃ o, w2.heap.size + 1 = o := ⟨_, rfl⟩
  have hBo : w2.heap.size ≤ o := by omega
  rw [ho] at HM ⊢
  clear ho
  go_loopw [4, 5, 6, 9, 10, 11, 12, 13, 14, 15] (fun s4 s5 s6 s9 s10 s11 s12 s13 s14 s15 wr => ∃ (i nt ke : Nat) (TA MA : Option Addr) (tc mc : Nat) (v10 v11 v12 v13 v14 v15 : Value) (s : Bs TwS), s4 = .slice TA nt tc ∧ s5 = .slice MA ke mc ∧ s6 = .int .i64 0 ∧ s9 = .int .i64 i ∧ s10 = v10 ∧ s11 = v11 ∧ s12 = v12 ∧ s13 = v13 ∧ s14 = v14 ∧ s15 = v15 ∧ i ≤ nt ∧ nt ≤ 4096 ∧ ke ≤ i * 64 ∧ Hid (TwN w2.heap.size o w2 wr (.slice TA nt tc) (.slice MA ke mc) (.slice none 0 0) (.slice none 0 0) nt nt ke 0 s.ts s.ts s.es []) ∧ Hid (bsR 4096 (twS mm c) (twV mm) (4097 - i) i s = some R) ∧ Hid (∀ t ∈ s.ts, TwR mm t)) (fun _ _ _ s9 _ _ _ _ _ _ _ => 4097 - (intOf s9).toNat)
  case atStart => exact ⟨0, 1, 0, _, none, 1, 0, _, _, _, _, _, _, ⟨[(0, false, 0)], []⟩, rfl, rfl, rfl, rfl, rfl, rfl, rfl, rfl, rfl, rfl, by omega, by omega, by omega, HM, HRS, HTR⟩
  case round =>
   clear HM HRS HTR
   obtain ⟨i, nt, ke, TA, MA, tc, mc, v10, v11, v12, v13, v14, v15, s, rfl, rfl, rfl, rfl, rfl, rfl, rfl, rfl, rfl, rfl, hi, hnt, hke, HM, HRS, HTR⟩ := hrel
   obtain ⟨wo, rfl⟩ : ∃ wo : World, wo = wr := ⟨_, rfl⟩
   by_cases hlt : i < nt
   ·obtain ⟨p, hp⟩ : ∃ p, s.ts[i]? = some p := ⟨_, List.getElem?_eq_getElem (by rw [HM.out.tn]; exact hlt)⟩
    have HPR := Lib.hid (HTR.out p (List.mem_of_getElem? hp))
    have HRM := Lib.hid (show bsM (twS mm c) (twV mm) 4096 i (mvP mm c p mm.a.al) s = some R by rw [mvP_all, ← bsR_M hp (by omega)]; exact HRS.out)
    have b1 : (i : Int) < (nt : Int) := by omega
    have HML := Lib.hid (show (mvP mm c p mm.a.al).length ≤ 64 from Nat.le_trans (mvP_len _ _ _ _) (by rw [HLA.out]; omega))
    go_upto_region 11 with fail
    go_cut [10, 11] from 37 to 92 (fun s10 s11 wx => ∃ (A1 A2 : Option Addr) (n c1 c2 : Nat), s10 = .slice A1 n c1 ∧ s11 = .slice A2 n c2 ∧ Hid (n = (mvP mm c p mm.a.al).length) ∧ Hid (TwN w2.heap.size o w2 wx (.slice TA nt tc) (.slice MA ke mc) (.slice A2 n c2) (.slice A1 n c1) nt nt ke n s.ts s.ts s.es (mvP mm c p mm.a.al)))
    case first =>
     obtain ⟨td, p', hTA, htd, hp', hcell⟩ := (RdR.of_own (f := prC) (by omega) (fun _ _ => rfl) HM.out.prs.o1).get (k := i) (by rw [HM.out.tn]; omega)
     obtain rfl : p' = p := by rw [hp] at hp'; injection hp' with e; exact e.symm
     subst hTA
     obtain ⟨p1, pf, p2⟩ := p'
     have HCE := Lib.hid (fun (W : World) (hW : Below wo.heap.size wo W) => show W.cell? (td.add (i * 3)) = some (.int .i64 p1) ∧ W.cell? ⟨(td.add (i * 3)).block, (td.add (i * 3)).off + 1, none⟩ = some (.bool pf) ∧ W.cell? ⟨(td.add (i * 3)).block, (td.add (i * 3)).off + 2, none⟩ = some (.int .i64 p2) from
      ⟨(hW.cell (by rw [block_of_add]; exact htd)).trans (hcell 0 _ rfl), ev_cells (j := 0) ((hW.cell (by rw [block_of_add]; exact htd)).trans (hcell 1 _ rfl)), ev_cells (j := 1) ((hW.cell (by rw [block_of_add]; exact htd)).trans (hcell 2 _ rfl))⟩)
     have HKO := Lib.hid (fun (W : World) (hW : Below wo.heap.size wo W) => HK.out W (HB12.out.trans ((HM.out.bel.trans (hW.mono HM.out.prs.siz)).mono HB12.out.size)))
     have HOO := Lib.hid (fun (W : World) (hW : Below wo.heap.size wo W) => HOK.out W (HB12.out.trans ((HM.out.bel.trans (hW.mono HM.out.prs.siz)).mono HB12.out.size)))
     refine wp_region_U (fun W => (W.cell? ⟨w.heap.size, 0, none⟩ = some (.slice A na ca) ∧ W.cell? ⟨w.heap.size, 1, none⟩ = some (.int .i64 sv) ∧ W.cell? ⟨w.heap.size, 2, none⟩ = some (.slice M nm cm) ∧ W.cell? ⟨w.heap.size, 3, none⟩ = some (.slice E ne ce) ∧ W.cell? ⟨w.heap.size, 4, none⟩ = some (.slice V nv cv)) ∧ (W.cell? (td.add (i * 3)) = some (.int .i64 p1) ∧ W.cell? ⟨(td.add (i * 3)).block, (td.add (i * 3)).off + 1, none⟩ = some (.bool pf) ∧ W.cell? ⟨(td.add (i * 3)).block, (td.add (i * 3)).off + 2, none⟩ = some (.int .i64 p2))) (fun _ => True) 6 (by kernel_rfl) ?_
     change anyU _ _ _ _ _ _ _ 12 _ _ _
     have hB0 : True := trivial
     have HAW := Lib.hid (fun (W : World) (hW : Below wo.heap.size wo W) => show (W.cell? ⟨w.heap.size, 0, none⟩ = some (.slice A na ca) ∧ W.cell? ⟨w.heap.size, 1, none⟩ = some (.int .i64 sv) ∧ W.cell? ⟨w.heap.size, 2, none⟩ = some (.slice M nm cm) ∧ W.cell? ⟨w.heap.size, 3, none⟩ = some (.slice E ne ce) ∧ W.cell? ⟨w.heap.size, 4, none⟩ = some (.slice V nv cv)) ∧ (W.cell? (td.add (i * 3)) = some (.int .i64 p1) ∧ W.cell? ⟨(td.add (i * 3)).block, (td.add (i * 3)).off + 1, none⟩ = some (.bool pf) ∧ W.cell? ⟨(td.add (i * 3)).block, (td.add (i * 3)).off + 2, none⟩ = some (.int .i64 p2)) from
      ⟨⟨(HKO.out W hW).cell (j := 0) rfl, (HKO.out W hW).cell (j := 1) rfl, (HKO.out W hW).cell (j := 2) rfl, (HKO.out W hW).cell (j := 3) rfl, (HKO.out W hW).cell (j := 4) rfl⟩, HCE.out W hW⟩)
     have HBD := Lib.hid (below_dr wo)
     generalize wo.drew = wd at HBD ⊢
     have hA0 := HAW.out wd HBD.out
     clear hcell htd hp'
     (refine uA 0 ?_ rfl hA0 hB0 (fun W hA => ?_) ?_; rotate_left; (· (obtain ⟨⟨a0, a1, a2, a3, a4⟩, _⟩ := hA; go_simp; try with_reducible rfl)); (try simp only [Act.put, List.setIfInBounds_toArray, List.set_cons_zero, List.set_cons_succ]))
     (refine uA 1 ?_ rfl hA0 hB0 (fun W hA => ?_) ?_; rotate_left; (· (go_simp; try with_reducible rfl)); refine uA 2 ?_ rfl hA0 hB0 (fun W hA => ?_) ?_; rotate_left; (· (go_simp; try with_reducible rfl)); refine uA 3 ?_ rfl hA0 hB0 (fun W hA => ?_) ?_; rotate_left; (· (go_simp; try with_reducible rfl)); (try simp only [Act.put, List.setIfInBounds_toArray, List.set_cons_zero, List.set_cons_succ]))
     (refine uA 4 ?_ rfl hA0 hB0 (fun W hA => ?_) ?_; rotate_left; (· (obtain ⟨_, a0, a1, a2⟩ := hA; go_simp; try with_reducible rfl)); (try simp only [Act.put, List.setIfInBounds_toArray, List.set_cons_zero, List.set_cons_succ]))
     (refine uA 5 ?_ rfl hA0 hB0 (fun W hA => ?_) ?_; rotate_left; (· (go_simp; try with_reducible rfl)); (try simp only [Act.put, List.setIfInBounds_toArray, List.set_cons_zero, List.set_cons_succ]))
     refine uOne (i := 6) rfl (by kernel_rfl) (fun K hK => ?_)
     go_simp
     go_at_call 64
     refine (HMV.out (p1, pf, p2) HPR.out wd (HOO.out wd HBD.out)).mono ?_
     rintro _ w7 ⟨A1, A2, n, c1, c2, rfl, hn, hT⟩
     have hB7 := hT.bel
     have hM7 := Lib.hid ((HM.out.quiet (HBD.out.trans (hB7.mono HBD.out.size))).rows (own_base hT.o2 (by have := HM.out.prs.siz; have := HBD.out.size; omega)) (own_base hT.o1 (by have := HM.out.prs.siz; have := HBD.out.size; omega))
      (fun g h1 h2 => by have h3 := (HM.out.prs.o1.lt g h1).2; have h4 := (hT.o2.lt g h2).1; have := HBD.out.size; omega)
      (fun g h1 h2 => by have h3 := (HM.out.mvs.o1.lt g h1).2; have h4 := (hT.o1.lt g h2).1; have := HBD.out.size; omega))
     have hA7 := HAW.out w7 (HBD.out.trans (hB7.mono HBD.out.size))
     have HN := Lib.hid hn; clear hn
     clear hA0 hB7 hT
     have hA0 := hA7
     clear hA7
     go_simp
     (refine hK _ _ ⟨hA0, fun _ => hB0⟩ ?_; clear hK K; (try simp only [Act.put, List.setIfInBounds_toArray, List.set_cons_zero, List.set_cons_succ]))
     (refine uA 7 ?_ rfl hA0 hB0 (fun W hA => ?_) ?_; rotate_left; (· (go_simp; try with_reducible rfl)); refine uA 8 ?_ rfl hA0 hB0 (fun W hA => ?_) ?_; rotate_left; (· (go_simp; try with_reducible rfl)); refine uA 9 ?_ rfl hA0 hB0 (fun W hA => ?_) ?_; rotate_left; (· (go_simp; try with_reducible rfl)); refine uA 10 ?_ rfl hA0 hB0 (fun W hA => ?_) ?_; rotate_left; (· (go_simp; try with_reducible rfl)); refine uA 11 ?_ rfl hA0 hB0 (fun W hA => ?_) ?_; rotate_left; (· (go_simp; try with_reducible rfl)); (try simp only [Act.put, List.setIfInBounds_toArray, List.set_cons_zero, List.set_cons_succ]))
     refine anyU_done (by kernel_rfl) ?_ _
     go_wp2_with fail
     go_meet
     case rel => exact ⟨A1, A2, n, c1, c2, rfl, rfl, HN, hM7⟩
    case rest =>
     obtain ⟨A1, A2, n, c1, c2, rfl, rfl, HN, HMX⟩ := hcut
     obtain ⟨L, hL⟩ : ∃ L, mvP mm c p mm.a.al = L := ⟨_, rfl⟩
     have HLM := Lib.hid (show ∀ q ∈ L, TwR mm q.2 from fun q hq => (mvP_rng HMW.out HPR.out (by rw [hL]; exact hq)).1)
     rw [hL] at HN HMX HRM HML
     have hn64 : n ≤ 64 := by rw [HN.out]; exact HML.out
     clear hL HM HRS HPR
     go_wp2_with fail
     go_loopw [4, 5, 6, 12, 13, 14, 15, 49] (fun s4 s5 s6 s12 s13 s14 s15 s49 wr => ∃ (j nt ke : Nat) (TA MA : Option Addr) (tc mc : Nat) (v12 v13 v14 v15 : Value) (s : Bs TwS), s4 = .slice TA nt tc ∧ s5 = .slice MA ke mc ∧ s6 = .int .i64 0 ∧ s12 = v12 ∧ s13 = v13 ∧ s14 = v14 ∧ s15 = v15 ∧ s49 = .int .i64 j ∧ j ≤ n ∧ i + 1 ≤ nt ∧ nt ≤ 4096 ∧ ke ≤ i * 64 + j ∧ Hid (TwN w2.heap.size o w2 wr (.slice TA nt tc) (.slice MA ke mc) (.slice A2 n c2) (.slice A1 n c1) nt nt ke n s.ts s.ts s.es L) ∧ Hid (bsM (twS mm c) (twV mm) 4096 i (L.drop j) s = some R) ∧ Hid (∀ t ∈ s.ts, TwR mm t)) (fun _ _ _ _ _ _ _ s49 _ => n - (intOf s49).toNat)
     case atStart => exact ⟨0, nt, ke, _, _, _, _, _, _, _, _, s, rfl, rfl, rfl, rfl, rfl, rfl, rfl, rfl, by omega, by omega, hnt, by omega, HMX, HRM, HTR⟩
     case round =>
      clear HMX HRM HTR hke hnt hi b1 hp
      obtain ⟨j, nt, ke, TA, MA, tc, mc, v12, v13, v14, v15, s, rfl, rfl, rfl, rfl, rfl, rfl, rfl, rfl, hj, hint, hnt, hke, HM, HRM, HTR⟩ := hrel
      by_cases hlt2 : j < n
      ·obtain ⟨x, hx⟩ : ∃ x, L[j]? = some x := ⟨_, List.getElem?_eq_getElem (by rw [← HN.out]; exact hlt2)⟩
       obtain ⟨v, u1, uf, u2⟩ := x
       obtain ⟨ad1, x', hA1, hab1, hx', hc1⟩ := (mv0_own HM.out.mvs.o2).get (k := j) (by rw [← HN.out]; exact hlt2)
       obtain rfl : x' = (v, u1, uf, u2) := by rw [hx] at hx'; injection hx' with e; exact e.symm
       subst hA1
       obtain ⟨ad2, x'', hA2, hab2, hx'', hc2⟩ := (pr0_own HM.out.prs.o2).get (k := j) (by rw [← HN.out]; exact hlt2)
       subst hA2
       clear hx'' hc2 hx' x''
       have HXJ := Lib.hid hx
       have HUR := Lib.hid (HLM.out _ (List.mem_of_getElem? hx))
       obtain ⟨q3, hq3⟩ : ∃ q, v / 3 = q := ⟨_, rfl⟩
       obtain ⟨r3, hr3⟩ : ∃ q, v % 3 = q := ⟨_, rfl⟩
       have q0 : wr.cell? (ad1.add (j * 4)) = some (.int .i64 0) := hc1 0 _ rfl
       have q1 : wr.cell? ⟨(ad1.add (j * 4)).block, (ad1.add (j * 4)).off + 1, none⟩ = some (.int .i64 q3) := by rw [← hq3]; exact ev_cells (j := 0) (hc1 1 _ rfl)
       have q2 : wr.cell? ⟨(ad1.add (j * 4)).block, (ad1.add (j * 4)).off + 2, none⟩ = some (.int .i64 r3) := by rw [← hr3]; exact ev_cells (j := 1) (hc1 2 _ rfl)
       have q4 : wr.cell? ⟨(ad1.add (j * 4)).block, (ad1.add (j * 4)).off + 3, none⟩ = some (.int .i64 0) := ev_cells (j := 2) (hc1 3 _ rfl)
       have HQ3 := Lib.hid hq3
       have HR3 := Lib.hid hr3
       have b1 : (j : Int) < (n : Int) := by omega
       have HRJ := Lib.hid (show bsM (twS mm c) (twV mm) 4096 i ((v, u1, uf, u2) :: L.drop (j + 1)) s = some R by rw [← drop_cons' hx]; exact HRM.out)
       have hbx := box_below wr (.cells #[.int .i64 0, .int .i64 q3, .int .i64 r3, .int .i64 0] 62)
       have kt4 : Blk (wr.alloc (.cells #[.int .i64 0, .int .i64 q3, .int .i64 r3, .int .i64 0] 62)) wr.heap.size 62 [.int .i64 0, .int .i64 q3, .int .i64 r3, .int .i64 0] := Blk.new _ _ [_, _, _, _]
       have HM4 := Lib.hid (HM.out.quiet hbx)
       have hnb : (∀ g, (Value.slice MA ke mc).ownBlock = some g → g < wr.heap.size) ∧ (∀ g, (Value.slice (some ad1) n c1).ownBlock = some g → g < wr.heap.size) ∧ w2.heap.size ≤ wr.heap.size ∧ o ≠ wr.heap.size := ⟨fun g hg => (HM.out.mvs.o1.lt g hg).2, fun g hg => (HM.out.mvs.o2.lt g hg).2, HM.out.prs.siz, Nat.ne_of_lt (TabI.lt HM.out.tab)⟩
       clear hx hq3 hr3 hc1 hbx HM HRM
       go_upto_region 15 with fail
       obtain ⟨b4, hb4⟩ : ∃ b, wr.heap.size = b := ⟨_, rfl⟩
       rw [hb4] at kt4 hnb ⊢
       generalize wr.alloc (.cells #[.int .i64 0, .int .i64 q3, .int .i64 r3, .int .i64 0] 62) = w4 at HM4 kt4 ⊢
       have HKT := Lib.hid kt4
       have HNB := Lib.hid hnb
       clear hb4 q0 q1 q2 q4 kt4 hnb hab1 hab2
       obtain ⟨t0, t1, t2⟩ := pr0_cells (pr0_own HM4.out.prs.o2) HXJ.out
       have hur := HUR.out
       have hms := HMS0.out
       have HKEY := Lib.hid (twKey w (u1, uf, u2) (WalkArith.wf_i64 (by have h1 := hur.1.1; have h2 := hur.1.2; dsimp only at h1 h2 ⊢; omega)) (WalkArith.wf_i64 (by have h1 := hur.2.1; have h2 := hur.2.2; dsimp only at h1 h2 ⊢; omega)))
       clear hur hms
       by_cases hi0 : idx s.ts (u1, uf, u2) < 0
       ·obtain ⟨hlen, hE⟩ := bsM_new HRJ.out hi0 (by rw [HM4.out.tn]; exact hnt)
        rw [HM4.out.tn] at hlen hE
        have HE := Lib.hid hE
        have HT2 := Lib.hid (show ∀ t ∈ s.ts ++ [(u1, uf, u2)], TwR mm t from fun t ht => by
         rcases List.mem_append.1 ht with h | h
         ·exact HTR.out t h
         ·rw [List.mem_singleton.1 h]; exact HUR.out)
        have HYO := Lib.hid (show idxO s.ts (u1, uf, u2) = none by unfold idxO; rw [if_pos hi0])
        have hnot : (u1, uf, u2) ∉ s.ts := fun hm => by obtain ⟨y, hy, _⟩ := idx_yes hm; rw [hy] at hi0; omega
        have HYN := Lib.hid (show idxO (s.ts ++ [(u1, uf, u2)]) (u1, uf, u2) = some (nt : Int) by rw [idxO_snoc_new hnot, HM4.out.tn])
        have b3 : ¬ (4096 : Int) ≤ (nt : Int) := by omega
        clear hi0 hE hnot
        go_upto_region 18 with (first
         | (at_lookup; refine wpList_tab_miss rfl (.tmp 55) (.tmp 59) 117 rfl twLaw Try.underlying117 Try.underlying3 rfl rfl HM4.out.tab (u1, uf, u2) rfl HKEY.out HYO.out ?_)
         | fail)
        clear t0 t1 t2
        refine wp_region_U (fun W => W.cell? (ad2.add (j * 3)) = some (.int .i64 u1) ∧ W.cell? ⟨(ad2.add (j * 3)).block, (ad2.add (j * 3)).off + 1, none⟩ = some (.bool uf) ∧ W.cell? ⟨(ad2.add (j * 3)).block, (ad2.add (j * 3)).off + 2, none⟩ = some (.int .i64 u2)) (fun _ => True) 12 (by kernel_rfl) ?_
        change anyU _ _ _ _ _ _ _ 17 _ _ _
        have hB0 : True := trivial
        have HM5 := Lib.hid (HM4.out.quiet (below_dr w4))
        have HK5 := Lib.hid (HKT.out.below (below_dr w4) HKT.out.lt)
        generalize w4.drew = w5 at HM5 HK5 ⊢
        have hA0 := pr0_cells (pr0_own HM5.out.prs.o2) HXJ.out
        (refine uA 0 ?_ rfl hA0 hB0 (fun W hA => ?_) ?_; rotate_left; (· (go_simp; try with_reducible rfl)); refine uA 1 ?_ rfl hA0 hB0 (fun W hA => ?_) ?_; rotate_left; (· (go_simp; try with_reducible rfl)); refine uA 2 ?_ rfl hA0 hB0 (fun W hA => ?_) ?_; rotate_left; (· (go_simp; try with_reducible rfl)); refine uA 3 ?_ rfl hA0 hB0 (fun W hA => ?_) ?_; rotate_left; (· (go_simp; try with_reducible rfl)); (try simp only [Act.put, List.setIfInBounds_toArray, List.set_cons_zero, List.set_cons_succ]))
        (refine uA 4 ?_ rfl hA0 hB0 (fun W hA => ?_) ?_; rotate_left; (· (obtain ⟨t0, t1, t2⟩ := hA; go_simp; try with_reducible rfl)); (try simp only [Act.put, List.setIfInBounds_toArray, List.set_cons_zero, List.set_cons_succ]))
        (refine uA 5 ?_ rfl hA0 hB0 (fun W hA => ?_) ?_; rotate_left; (· (go_simp; try with_reducible rfl)); refine uA 6 ?_ rfl hA0 hB0 (fun W hA => ?_) ?_; rotate_left; (· (go_simp; try with_reducible rfl)); refine uA 7 ?_ rfl hA0 hB0 (fun W hA => ?_) ?_; rotate_left; (· (go_simp; try with_reducible rfl)); refine uA 8 ?_ rfl hA0 hB0 (fun W hA => ?_) ?_; rotate_left; (· (go_simp; try with_reducible rfl)); refine uA 9 ?_ rfl hA0 hB0 (fun W hA => ?_) ?_; rotate_left; (· (go_simp; try with_reducible rfl)); (try simp only [Act.put, List.setIfInBounds_toArray, List.set_cons_zero, List.set_cons_succ]))
        (refine uA 10 ?_ rfl hA0 hB0 (fun W hA => ?_) ?_; rotate_left; (· (obtain ⟨t0, t1, t2⟩ := hA; go_simp; try with_reducible rfl)); (try simp only [Act.put, List.setIfInBounds_toArray, List.set_cons_zero, List.set_cons_succ]))
        refine uOne (i := 11) rfl (by kernel_rfl) (fun K hK => ?_)
        go_simp
        have hbx := box_below w5 (.cells #[.int .i64 u1, .bool uf, .int .i64 u2] 59)
        have hkx : Blk (w5.alloc (.cells #[.int .i64 u1, .bool uf, .int .i64 u2] 59)) w5.heap.size 59 [.int .i64 u1, .bool uf, .int .i64 u2] := Blk.new _ _ [_, _, _]
        have HM6 := Lib.hid (HM5.out.quiet hbx)
        have HK6 := Lib.hid (HK5.out.below hbx HK5.out.lt)
        clear hA0
        have hA0 := pr0_cells (pr0_own HM6.out.prs.o2) HXJ.out
        (refine hK _ _ ⟨hA0, fun _ => hB0⟩ ?_; clear hK K; (try simp only [Act.put, List.setIfInBounds_toArray, List.set_cons_zero, List.set_cons_succ]))
        generalize w5.alloc (.cells #[.int .i64 u1, .bool uf, .int .i64 u2] 59) = w6 at hkx HM6 HK6 hA0 ⊢
        refine uOne (i := 12) rfl (by kernel_rfl) (fun K hK => ?_)
        refine step_pushW rfl (.tmp 73) (.tmp 78) 51 rfl w2.heap.size 59 (.agg #[.int .i64 0, .bool false, .int .i64 0]) 3 24 Try.underlying51 prr_info rfl (by decide) rfl _ [.int .i64 u1, .bool uf, .int .i64 u2] rfl HM6.out.prs.o1 HM6.out.prs.siz hkx rfl (prr_one _ _ _) (by omega) (by omega) ?_
        intro A7 c7 w7 ho7 hg7 hl7
        have HM7 := Lib.hid (HM6.out.push (x := (u1, uf, u2)) ho7 hg7 hl7)
        have HK7 := Lib.hid (HK6.out.kept hg7 (blk_ne_own HM6.out.prs.o1 HK6.out (by decide)))
        clear hkx hbx ho7 hg7 hl7 hA0
        have hA0 := pr0_cells (pr0_own HM7.out.prs.o2) HXJ.out
        (refine hK _ _ ⟨hA0, fun _ => hB0⟩ ?_; clear hK K; (try simp only [Act.put, List.setIfInBounds_toArray, List.set_cons_zero, List.set_cons_succ]))
        refine uOne (i := 13) rfl (by kernel_rfl) (fun K hK => ?_)
        obtain ⟨v0, st, w8, hr8, hg8, hst8⟩ := tab_entry HM7.out.tab twLawK Try.underlying117 Try.underlying3 zeroInt (by omega) (u1, uf, u2) HKEY.out (nt : Int) (WalkArith.wf_i64 (by omega)) (idxO (s.ts ++ [(u1, uf, u2)])) (fun d hd => by rw [kT_inj hd]; exact HYN.out) (fun d hd => idxO_snoc_other (fun e => hd (by rw [e])))
        refine step_run rfl (exec_mapEntry rfl rfl rfl hr8) ?_
        have hc8 : ∀ q : Addr, q.block ≠ o → q.block < w7.heap.size → w8.cell? q = w7.cell? q := fun q h1 h2 => World.cell?_of_block (hg8.block q.block h2 (by intro e; injection e with e; exact h1 e))
        have hdo : (ad2.add (j * 3)).block ≠ o ∧ (ad2.add (j * 3)).block < w7.heap.size := by
         have h1 := (HM7.out.prs.o2.lt ad2.block rfl).2
         have h2 := tab_ne_own' HM7.out.tab HM7.out.prs.o2
         rw [block_of_add]
         exact ⟨fun e => h2 (by rw [← e]; rfl), h1⟩
        have hA8 : w8.cell? (ad2.add (j * 3)) = some (.int .i64 u1) ∧ w8.cell? ⟨(ad2.add (j * 3)).block, (ad2.add (j * 3)).off + 1, none⟩ = some (.bool uf) ∧ w8.cell? ⟨(ad2.add (j * 3)).block, (ad2.add (j * 3)).off + 2, none⟩ = some (.int .i64 u2) := ⟨(hc8 _ hdo.1 hdo.2).trans hA0.1, (hc8 ⟨(ad2.add (j * 3)).block, (ad2.add (j * 3)).off + 1, none⟩ hdo.1 hdo.2).trans hA0.2.1, (hc8 ⟨(ad2.add (j * 3)).block, (ad2.add (j * 3)).off + 2, none⟩ hdo.1 hdo.2).trans hA0.2.2⟩
        obtain ⟨w9, hr9, hT9, hg9⟩ := hst8 w8 rfl (Nat.lt_of_lt_of_le (TabI.lt HM7.out.tab) hg8.size)
        have HM9' := Lib.hid (HM7.out.put hBo hT9 (hg8.trans hg9))
        have HK9 := Lib.hid (HK7.out.kept (hg8.trans hg9) (by intro e; injection e with e; exact HNB.out.2.2.2 e.symm))
        have HR9 := Lib.hid hr9
        clear hg8 hg9 hT9 hst8 hr8 hc8 hdo hA0 hr9
        have hA0 := hA8
        clear hA8
        (refine hK _ _ ⟨hA0, fun _ => hB0⟩ ?_; clear hK K; (try simp only [Act.put, List.setIfInBounds_toArray, List.set_cons_zero, List.set_cons_succ]))
        (refine uA 14 ?_ rfl hA0 hB0 (fun W hA => ?_) ?_; rotate_left; (· (go_simp; try with_reducible rfl)); (try simp only [Act.put, List.setIfInBounds_toArray, List.set_cons_zero, List.set_cons_succ]))
        refine uOne (i := 15) rfl (by kernel_rfl) (fun K hK => ?_)
        refine step_skip rfl (exec_entryStore rfl rfl rfl rfl HR9.out) ?_
        clear hA0
        have hA0 := pr0_cells (pr0_own HM9'.out.prs.o2) HXJ.out
        (refine hK _ _ ⟨hA0, fun _ => hB0⟩ ?_; clear hK K; simp only [Act.put])
        (refine uA 16 ?_ rfl hA0 hB0 (fun W hA => ?_) ?_; rotate_left; (· (go_simp; try with_reducible rfl)); (try simp only [Act.put, List.setIfInBounds_toArray, List.set_cons_zero, List.set_cons_succ]))
        refine anyU_done (by kernel_rfl) ?_ _
        clear hA0
        have kt := HK9.out
        have e0 := kt.cell (j := 0) rfl
        have e3 := kt.cell (j := 3) rfl
        have f0 := kt.free 0
        have f3 := kt.free 3
        have l4 := kt.lt
        have HKS := Lib.hid ((kt.set (j := 0) (by simp) (.int .i64 (i : Int))).set (j := 3) (by simp) (.int .i64 ((nt : Int))))
        have z0 : ((w9.setCell ⟨b4, 0, none⟩ (.int .i64 (i : Int))).setCell ⟨b4, 3, none⟩ (.int .i64 ((nt : Int)))).cell? ⟨b4, 0, none⟩ = some (.int .i64 (i : Int)) := HKS.out.cell (j := 0) rfl
        have z1 : ((w9.setCell ⟨b4, 0, none⟩ (.int .i64 (i : Int))).setCell ⟨b4, 3, none⟩ (.int .i64 ((nt : Int)))).cell? ⟨b4, 1, none⟩ = some (.int .i64 q3) := HKS.out.cell (j := 1) rfl
        have z2 : ((w9.setCell ⟨b4, 0, none⟩ (.int .i64 (i : Int))).setCell ⟨b4, 3, none⟩ (.int .i64 ((nt : Int)))).cell? ⟨b4, 2, none⟩ = some (.int .i64 r3) := HKS.out.cell (j := 2) rfl
        have z3 : ((w9.setCell ⟨b4, 0, none⟩ (.int .i64 (i : Int))).setCell ⟨b4, 3, none⟩ (.int .i64 ((nt : Int)))).cell? ⟨b4, 3, none⟩ = some (.int .i64 ((nt : Int))) := HKS.out.cell (j := 3) rfl
        have HMS := Lib.hid (HM9'.out.box kt HNB.out.1 HNB.out.2.1 HNB.out.2.2.1 HNB.out.2.2.2 ((grown_setCell w9 b4 0 (.int .i64 (i : Int))).trans (grown_setCell (w9.setCell ⟨b4, 0, none⟩ (.int .i64 (i : Int))) b4 3 (.int .i64 ((nt : Int))))))
        have hss := HMS.out.prs.siz
        clear kt
        go_upto_region 22 with fail
        generalize ((w9.setCell ⟨b4, 0, none⟩ (.int .i64 (i : Int))).setCell ⟨b4, 3, none⟩ (.int .i64 ((nt : Int)))) = wS at z0 z1 z2 z3 HMS hss HKS ⊢
        go_wp2_with (first
         | (at_builtin; refine wpList_pushA wS [.int .i64 (i : Int), .int .i64 q3, .int .i64 r3, .int .i64 ((nt : Int))] rfl (.tmp 88) (.tmp 90) 52 rfl w2.heap.size 62 (.agg #[.int .i64 0, .int .i64 0, .int .i64 0, .int .i64 0]) 4 32 Try.underlying52 mov_info rfl (by decide) rfl (.slice MA ke mc) ke _ rfl HMS.out.mvs.o1 rfl (mov_one _ _ _ _) (by omega) (by omega) hss ?_; intro A9 c9 w9 ho9 hg9 hl9; have HM9 := Lib.hid (HMS.out.move (x := ⟨(i : Int), v, ((nt : Int))⟩) (by rw [show mvc ⟨(i : Int), v, ((nt : Int))⟩ = [.int .i64 (i : Int), .int .i64 q3, .int .i64 r3, .int .i64 ((nt : Int))] by unfold mvc; dsimp only; rw [HQ3.out, HR3.out]]; exact ho9) hg9 hl9); clear ho9 hg9 hl9)
         | fail)
        go_roundw
        case rel => exact ⟨j + 1, (nt + 1), ke + 1, A7, A9, c7, c9, _, _, _, _, ⟨s.ts ++ [(u1, uf, u2)], s.es ++ [⟨(i : Int), v, (nt : Int)⟩]⟩, rfl, rfl, rfl, rfl, rfl, rfl, rfl, by go_num, by omega, by omega, by omega, by omega, HM9, HE, HT2⟩
        case measure => simp [intOf]; omega
       ·have hE := bsM_old HRJ.out hi0
        obtain ⟨yv, hyv⟩ : ∃ y, idx s.ts (u1, uf, u2) = y := ⟨_, rfl⟩
        have hyl : yv < 4096 := by
         have h8 : (u1, uf, u2) ∈ s.ts := Classical.byContradiction fun h => hi0 (idx_neg.2 h)
         obtain ⟨y, hy1, hy2⟩ := idx_yes h8
         have h9 := (List.getElem?_eq_some_iff.1 hy2).1
         rw [HM4.out.tn] at h9
         rw [← hyv, hy1]
         omega
        have HYO := Lib.hid (show idxO s.ts (u1, uf, u2) = some yv by unfold idxO; rw [if_neg hi0, hyv])
        rw [hyv] at hE
        have HE := Lib.hid hE
        have HT2 := HTR
        have b3 : ¬ (4096 : Int) ≤ yv := by omega
        clear hi0 hE hyv
        go_upto_region 19 with (first
         | (at_lookup; refine wpList_tab_hit rfl (.tmp 55) (.tmp 59) 117 rfl twLaw Try.underlying117 Try.underlying3 rfl rfl HM4.out.tab (u1, uf, u2) rfl HKEY.out yv HYO.out ?_)
         | fail)
        clear t0 t1 t2
        have kt := HKT.out
        have e0 := kt.cell (j := 0) rfl
        have e3 := kt.cell (j := 3) rfl
        have f0 := kt.free 0
        have f3 := kt.free 3
        have l4 := kt.lt
        have HKS := Lib.hid ((kt.set (j := 0) (by simp) (.int .i64 (i : Int))).set (j := 3) (by simp) (.int .i64 (yv)))
        have z0 : ((w4.setCell ⟨b4, 0, none⟩ (.int .i64 (i : Int))).setCell ⟨b4, 3, none⟩ (.int .i64 (yv))).cell? ⟨b4, 0, none⟩ = some (.int .i64 (i : Int)) := HKS.out.cell (j := 0) rfl
        have z1 : ((w4.setCell ⟨b4, 0, none⟩ (.int .i64 (i : Int))).setCell ⟨b4, 3, none⟩ (.int .i64 (yv))).cell? ⟨b4, 1, none⟩ = some (.int .i64 q3) := HKS.out.cell (j := 1) rfl
        have z2 : ((w4.setCell ⟨b4, 0, none⟩ (.int .i64 (i : Int))).setCell ⟨b4, 3, none⟩ (.int .i64 (yv))).cell? ⟨b4, 2, none⟩ = some (.int .i64 r3) := HKS.out.cell (j := 2) rfl
        have z3 : ((w4.setCell ⟨b4, 0, none⟩ (.int .i64 (i : Int))).setCell ⟨b4, 3, none⟩ (.int .i64 (yv))).cell? ⟨b4, 3, none⟩ = some (.int .i64 (yv)) := HKS.out.cell (j := 3) rfl
        have HMS := Lib.hid (HM4.out.box kt HNB.out.1 HNB.out.2.1 HNB.out.2.2.1 HNB.out.2.2.2 ((grown_setCell w4 b4 0 (.int .i64 (i : Int))).trans (grown_setCell (w4.setCell ⟨b4, 0, none⟩ (.int .i64 (i : Int))) b4 3 (.int .i64 (yv)))))
        have hss := HMS.out.prs.siz
        clear kt
        go_upto_region 22 with fail
        generalize ((w4.setCell ⟨b4, 0, none⟩ (.int .i64 (i : Int))).setCell ⟨b4, 3, none⟩ (.int .i64 (yv))) = wS at z0 z1 z2 z3 HMS hss HKS ⊢
        go_wp2_with (first
         | (at_builtin; refine wpList_pushA wS [.int .i64 (i : Int), .int .i64 q3, .int .i64 r3, .int .i64 (yv)] rfl (.tmp 88) (.tmp 90) 52 rfl w2.heap.size 62 (.agg #[.int .i64 0, .int .i64 0, .int .i64 0, .int .i64 0]) 4 32 Try.underlying52 mov_info rfl (by decide) rfl (.slice MA ke mc) ke _ rfl HMS.out.mvs.o1 rfl (mov_one _ _ _ _) (by omega) (by omega) hss ?_; intro A9 c9 w9 ho9 hg9 hl9; have HM9 := Lib.hid (HMS.out.move (x := ⟨(i : Int), v, (yv)⟩) (by rw [show mvc ⟨(i : Int), v, (yv)⟩ = [.int .i64 (i : Int), .int .i64 q3, .int .i64 r3, .int .i64 (yv)] by unfold mvc; dsimp only; rw [HQ3.out, HR3.out]]; exact ho9) hg9 hl9); clear ho9 hg9 hl9)
         | fail)
        go_roundw
        case rel => exact ⟨j + 1, nt, ke + 1, TA, A9, tc, c9, _, _, _, _, ⟨s.ts, s.es ++ [⟨(i : Int), v, yv⟩]⟩, rfl, rfl, rfl, rfl, rfl, rfl, rfl, by go_num, by omega, by omega, by omega, by omega, HM9, HE, HT2⟩
        case measure => simp [intOf]; omega
      ·obtain rfl : j = n := by omega
       have b1 : ¬ (j : Int) < (j : Int) := by omega
       have HRE := Lib.hid (show bsR 4096 (twS mm c) (twV mm) (4097 - (i + 1)) (i + 1) s = some R by
        have h9 := HRM.out
        rw [List.drop_of_length_le (by rw [← HN.out]; exact Nat.le_refl _), bsM_nil] at h9
        rw [show 4097 - (i + 1) = 4096 - i by omega]; exact h9)
       have HMN := Lib.hid (HM.out.rows (World.ownsRow_nil _ _ _ _) (World.ownsRow_nil _ _ _ _) (fun g _ hg => by simp [Value.ownBlock] at hg) (fun g _ hg => by simp [Value.ownBlock] at hg) : TwN w2.heap.size o w2 wr (.slice TA nt tc) (.slice MA ke mc) (.slice none 0 0) (.slice none 0 0) nt nt ke 0 s.ts s.ts s.es [])
       go_wp2
       go_roundw
       case rel => exact ⟨i + 1, nt, ke, TA, MA, tc, mc, _, _, _, _, _, _, s, rfl, rfl, rfl, by go_num, rfl, rfl, rfl, rfl, rfl, rfl, hint, hnt, by omega, HMN, HRE, HTR⟩
       case measure => simp [intOf]; omega
   ·obtain rfl : i = nt := by omega
    have b1 : ¬ (i : Int) < (i : Int) := by omega
    have HRE := Lib.hid (show s = R by
     have h9 := HRS.out
     rw [bsR_end (by rw [HM.out.tn]; omega)] at h9
     injection h9)
    have HBF := Lib.hid (HB2.out.trans (HM.out.bel.mono HB2.out.size))
    have HSZ := Lib.hid (HB2.out.size)
    go_wp2
    refine bodyPost_ret (v := .tuple #[.slice TA i tc, .slice MA ke mc, .int .i64 0]) (by simp [results, Try.results20, go_sem]) rfl ?_
    rw [← HRE.out]
    exact ⟨_, _, _, _, _, _, rfl, HM.out.tn, HM.out.en, hnt, by omega, own_base HM.out.prs.o1 HSZ.out, own_base HM.out.mvs.o1 HSZ.out, HBF.out⟩
end Go.Proofs.Ytddhaidimadliaa
