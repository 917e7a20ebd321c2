/- Walks: the law's loop. -/
import Derived.Test.YtioijhpbedmeaaaGreatDoorYe
import Derived.Deep.Cut
import Derived.Deep.CutRange
namespace Go.Proofs.YtioijhpbedmeaaaGreatDoor
open Go.RowKit Go

theorem cl1 {α : Type} {l m : List α} {i : Nat} {x : α} (h : l <+: m) (hx : l[i]? = some x) : m[i]? = some x := by
 obtain ⟨r, rfl⟩ := h
 rw [List.getElem?_append_left (List.getElem?_eq_some_iff.1 hx).1]; exact hx

set_option maxRecDepth 100000 in
set_option maxHeartbeats 6400000 in
theorem law_loop (z : SV) (q : Aut) (T : List (List Int)) (w : World) (h : z.ok w w.heap.size) (hP : Prob z.p.a z.s.a q T) (hA : z.s.a.al = z.p.a.al) (hne : 0 < z.p.na) :
  Calls Tryz.prog 17 #[.agg (svc z).toArray] w (RetLp q T w) := by
 have hnl : z.p.a.al.length ≤ 32 := hP.wp.al_le
 obtain ⟨⟨A, na, ca, M, nm, cm, E, ne, ce, P⟩, ⟨A', na', ca', M', nm', cm', E', ne', ce', S⟩, U, nu, cu, u, F, nf, cf, f, tick⟩ := z
 dsimp only at *
 unfold svc
 dsimp only
 obtain ⟨sp, hsp⟩ : ∃ s, P.st = s := ⟨_, rfl⟩
 obtain ⟨ss, hss⟩ : ∃ s, S.st = s := ⟨_, rfl⟩
 have hla : P.al.length = na := h.p.la
 rw [hla] at hnl
 obtain ⟨adv, v9, hA9, _, _, _⟩ := h.p.ra.at_ (k := 0) (by rw [hla]; exact hne)
 subst hA9
 clear hne
 have hb0 := box_below w (.cells #[.slice (some adv) na ca, .int .i64 P.st, .slice M nm cm, .slice E ne ce, .slice A' na' ca', .int .i64 S.st, .slice M' nm' cm', .slice E' ne' ce', .slice U nu cu, .slice F nf cf, .int .i64 tick] 35)
 have hb1 := hb0.alloc hb0.size (.cells #[.slice none 0 0, .int .i64 0, .slice none 0 0, .slice none 0 0] 33)
 obtain ⟨w0, hw9⟩ : ∃ w0, w0 = (w.alloc (.cells #[.slice (some adv) na ca, .int .i64 P.st, .slice M nm cm, .slice E ne ce, .slice A' na' ca', .int .i64 S.st, .slice M' nm' cm', .slice E' ne' ce', .slice U nu cu, .slice F nf cf, .int .i64 tick] 35)).alloc (.cells #[.slice none 0 0, .int .i64 0, .slice none 0 0, .slice none 0 0] 33) := ⟨_, rfl⟩
 have kx : Blk w0 w.heap.size 35 [.slice (some adv) na ca, .int .i64 P.st, .slice M nm cm, .slice E ne ce, .slice A' na' ca', .int .i64 S.st, .slice M' nm' cm', .slice E' ne' ce', .slice U nu cu, .slice F nf cf, .int .i64 tick] := by rw [hw9]; exact (Blk.new _ _ [_, _, _, _, _, _, _, _, _, _, _]).al _
 have kz : Blk w0 (w.heap.size + 1) 33 [.slice none 0 0, .int .i64 0, .slice none 0 0, .slice none 0 0] := by rw [hw9]; exact Blk.at_ _ _ [_, _, _, _] (by simp)
 have sz0 : w0.heap.size = w.heap.size + 2 := by rw [hw9]; simp
 rw [← hw9] at hb1
 have HCS := Lib.hid (fun (W : World) (hb : Below w0.heap.size w0 W) => (show C11 W w.heap.size [.slice (some adv) na ca, .int .i64 P.st, .slice M nm cm, .slice E ne ce, .slice A' na' ca', .int .i64 S.st, .slice M' nm' cm', .slice E' ne' ce', .slice U nu cu, .slice F nf cf, .int .i64 tick] from fun j u hj => (kx.below hb kx.lt).cell hj))
 have HKZ := Lib.hid (fun (W : World) (hb : Below w0.heap.size w0 W) => kz.below hb kz.lt)
 have HZK := Lib.hid (fun (W : World) (hb : Below w0.heap.size w0 W) => (h.below (hb1.trans (hb.mono hb1.size))).more (hb1.trans (hb.mono hb1.size)).size)
 rw [hsp] at HCS hw9
 rw [hss] at HCS hw9
 have HLS := Lib.hid (LoS.start w0 (.slice (some adv) na ca))
 have HEV := Lib.hid (evs_two hP.wp hP.wr hA)
 have HPR := Lib.hid hP
 have HAL := Lib.hid hA
 have HLA := Lib.hid hla
 have HW9 := Lib.hid hw9; clear hw9
 have HBW := Lib.hid hb1; clear hb1
 have SZ0 := Lib.hid sz0; clear sz0
 rw [hsp, hss]
 have HSP := Lib.hid hsp
 have HSS := Lib.hid hss
 clear hb0 kx kz hsp hss hP hA hla
 go_enter Tryz.func17, Tryz.ntmps17
 go_upto_region 4 with fail
 rw [← HW9.out]
 have hbx := box_below w0 (.cells #[.slice (some adv) na ca, .int .i64 0, .slice none 0 0, .slice none 0 0] 33)
 have a1 := HCS.out _ hbx 1 _ rfl
 have a5 := HCS.out _ hbx 5 _ rfl
 generalize w0.alloc (.cells #[.slice (some adv) na ca, .int .i64 0, .slice none 0 0, .slice none 0 0] 33) = w1 at HLS a1 a5 hbx ⊢
 clear hbx
 rw [show w.heap.size + 1 + 1 = w0.heap.size from SZ0.out.symm]
 by_cases hpos : 0 < sp ∧ 0 < ss
 ·obtain ⟨h1, h2⟩ := hpos
  have hns : noSt [P, S] = false := by rw [noSt_two, HSP.out, HSS.out, decide_eq_false (by omega), decide_eq_false (by omega)]; rfl
  have hq0 := HPR.out.q0.2 ⟨by rw [HSP.out]; omega, by rw [HSS.out]; omega⟩
  obtain ⟨sF, hs1, hs2, hs3, hs4⟩ := HPR.out.bi hq0
  have HFEW := Lib.hid (HPR.out.few hns)
  have HNS := Lib.hid hns
  have HSF := Lib.hid (And.intro hs1 (And.intro hs3 hs4))
  have HBI := Lib.hid (BInv.begin (C := 4096) (st := stp [P, S]) (V := evs [P, S]) (x0 := ini [P, S]) (by omega))
  have HRS := Lib.hid (show bsR 4096 (stp [P, S]) (evs [P, S]) (4097 - 0) 0 ⟨[ini [P, S]], []⟩ = synS [P, S] from rfl)
  clear hns hq0 hs1 hs2 hs3 hs4
  have hs1 : w0.heap.size + 1 ≤ w1.heap.size := HLS.out.bld.lt
  go_wp2_with (first
   | (at_builtin; refine wpList_pushA w1 [.int .i64 0, .int .i64 0] rfl (.tmp 27) (.tmp 29) 37 rfl (w0.heap.size + 1) 45 (.agg #[.int .i64 0, .int .i64 0]) 2 16 Tryz.underlying37 p2_info rfl (by decide) rfl (.slice none 0 0) 0 _ rfl HLS.out.own rfl (fun u hu => by simp at hu; rcases hu with rfl | rfl <;> rfl) (by omega) (by omega) hs1 ?_; intro A2 c2 w2 ho2 hg2 hl2; have HL2 := Lib.hid (HLS.out.pair (t := [0, 0]) rfl ho2 hg2); clear ho2 hg2 hl2; have hs2 : w0.heap.size + 1 ≤ w2.heap.size := HL2.out.bld.lt)
   | (at_builtin; refine wpList_pushA w2 [.slice none 0 0] rfl (.tmp 31) (.tmp 32) 52 rfl (w0.heap.size + 1) 30 (.slice none 0 0) 1 24 Tryz.underlying52 words_info rfl (by decide) rfl (.slice none 0 0) 0 _ rfl HL2.out.wow rfl (fun u hu => by simp at hu; subst hu; rfl) (by omega) (by omega) hs2 ?_; intro A3 c3 w3 ho3 hg3 hl3; have HL3 := Lib.hid (HL2.out.word (x := ⟨none, 0, []⟩) (World.ownsRow_nil _ _ _ _) (.inl rfl) ho3 hg3); clear ho3 hg3 hl3))
  clear HLS HL2 hs1 a1 a5
  have HFW := Lib.hid (show FstI 1 [] ∧ [(⟨none, 0, []⟩ : SlV)].map SlV.l = wdsOf 1 [] from ⟨FstI.start, rfl⟩)
  go_loopw [6, 7, 8, 10, 11, 12] (fun s6 s7 s8 s10 s11 s12 wr => ∃ (i nt km ke : Nat) (pv wv mv ev v10 v11 v12 : Value) (ws : List SlV) (s : Bs (List Int)) (mk : List Int), s6 = pv ∧ s7 = wv ∧ s8 = .int .i64 i ∧ s10 = v10 ∧ s11 = v11 ∧ s12 = v12 ∧ i ≤ nt ∧ nt ≤ 4096 ∧ km ≤ i ∧ ke ≤ i * 32 ∧ Hid (LoS w0 wr (.slice (some adv) na ca) mv ev pv wv km ke nt nt s.ts ws s.es mk) ∧
   Hid (mk = mksN (mkT [P, S]) s.ts i) ∧ Hid (BInv 4096 (stp [P, S]) (evs [P, S]) (ini [P, S]) i s) ∧ Hid (bsR 4096 (stp [P, S]) (evs [P, S]) (4097 - i) i s = synS [P, S]) ∧ Hid (FstI nt s.es ∧ ws.map SlV.l = wdsOf nt s.es)) (fun _ _ s8 _ _ _ _ => 4097 - (intOf s8).toNat)
  case atStart => exact ⟨0, 1, 0, 0, _, _, _, _, _, _, _, _, ⟨[ini [P, S]], []⟩, _, rfl, rfl, rfl, rfl, rfl, rfl, by omega, by omega, by omega, by omega, HL3, Lib.hid rfl, HBI, HRS, HFW⟩
  case round =>
   clear HL3 HBI HRS HFW h1 h2 hs2
   obtain ⟨i, nt, km, ke, pv, wv, mv, ev, v10, v11, v12, ws, s, mk, rfl, rfl, rfl, rfl, rfl, rfl, hin, hnt, hkm, hke, HS, HMK, HBI, HRS, HFW⟩ := hrel
   obtain ⟨PA, pc, rfl⟩ := own_shape HS.out.own
   obtain ⟨WA, wc9, rfl⟩ := own_shape HS.out.wow
   obtain ⟨MA, mc, rfl⟩ := own_shape HS.out.bld.mrk
   obtain ⟨EA, ec, rfl⟩ := own_shape HS.out.bld.edg
   by_cases hlt : i < nt
   ·obtain ⟨ad, t, hPA, hab, ht, hcell⟩ := HS.out.rp.1.get (k := i) (by rw [HS.out.tn]; exact hlt)
    subst hPA
    have htT := rch_tup HPR.out.two HNS.out (HBI.out.rch t (List.mem_of_getElem? ht))
    obtain ⟨x, y, rfl, hx, hy⟩ := tup_two htT
    have q0 : wr.cell? (ad.add (i * 2)) = some (.int .i64 x) := hcell 0 _ rfl
    have q1 := st_cells (j := 0) (show wr.cell? (ad.add (i * 2 + 1)) = some (.int .i64 y) from hcell 1 _ rfl)
    simp only [Nat.zero_add] at q1
    have HAM := Lib.hid (fun (W : World) (hb : Below wr.heap.size wr W) => (show W.cell? ⟨w.heap.size, 2, none⟩ = some (.slice M nm cm) ∧ W.cell? ⟨w.heap.size, 6, none⟩ = some (.slice M' nm' cm') ∧ W.cell? (ad.add (i * 2)) = some (.int .i64 x) ∧ W.cell? ⟨(ad.add (i * 2)).block, (ad.add (i * 2)).off + 1, none⟩ = some (.int .i64 y) from
     ⟨HCS.out W (HS.out.bld.bel.trans (hb.mono HS.out.bld.bel.size)) 2 _ rfl, HCS.out W (HS.out.bld.bel.trans (hb.mono HS.out.bld.bel.size)) 6 _ rfl, (hb.cell (p := ad.add (i * 2)) (by rw [block_of_add]; exact hab)).trans q0, (hb.cell (p := ⟨(ad.add (i * 2)).block, (ad.add (i * 2)).off + 1, none⟩) (by show (ad.add (i * 2)).block < _; rw [block_of_add]; exact hab)).trans q1⟩))
    obtain ⟨m1, hm1⟩ : ∃ b, hasB P.ma x = b := ⟨_, rfl⟩
    obtain ⟨m2, hm2⟩ : ∃ b, hasB S.ma y = b := ⟨_, rfl⟩
    have HMT := Lib.hid (show mkT [P, S] [x, y] = (m1 && m2) by rw [mkT_two, hm1, hm2])
    have HCA := Lib.hid (fun (W : World) (hb : Below wr.heap.size wr W) => slices_Contains M cm nm P.ma x m1 W (HZK.out W (HS.out.bld.bel.trans (hb.mono HS.out.bld.bel.size))).p.lm hm1 (HZK.out W (HS.out.bld.bel.trans (hb.mono HS.out.bld.bel.size))).p.rm (HZK.out W (HS.out.bld.bel.trans (hb.mono HS.out.bld.bel.size))).p.mc (HZK.out W (HS.out.bld.bel.trans (hb.mono HS.out.bld.bel.size))).p.cM)
    have HCB := Lib.hid (fun (W : World) (hb : Below wr.heap.size wr W) => slices_Contains M' cm' nm' S.ma y m2 W (HZK.out W (HS.out.bld.bel.trans (hb.mono HS.out.bld.bel.size))).s.lm hm2 (HZK.out W (HS.out.bld.bel.trans (hb.mono HS.out.bld.bel.size))).s.rm (HZK.out W (HS.out.bld.bel.trans (hb.mono HS.out.bld.bel.size))).s.mc (HZK.out W (HS.out.bld.bel.trans (hb.mono HS.out.bld.bel.size))).s.cM)
    have HT := Lib.hid ht
    have HLS := Lib.hid (List.getElem?_eq_some_iff.1 ht).1
    have HXY := Lib.hid (And.intro hx hy)
    have b1 : (i : Int) < (nt : Int) := by omega
    have b0 : ¬ (i : Int) < 0 := by omega
    clear htT hx hy q0 q1 hcell hab ht hm1 hm2
    go_upto_region 9 with fail
    go_cut [59] from 34 to 131 (fun s59 wx => s59 = .bool (m1 && m2) ∧ Hid (Below wr.heap.size wr wx))
    case first =>
     refine wp_region_U (fun W => W.cell? ⟨w.heap.size, 2, none⟩ = some (.slice M nm cm) ∧ W.cell? ⟨w.heap.size, 6, none⟩ = some (.slice M' nm' cm') ∧ W.cell? (ad.add (i * 2)) = some (.int .i64 x) ∧ W.cell? ⟨(ad.add (i * 2)).block, (ad.add (i * 2)).off + 1, none⟩ = some (.int .i64 y)) (fun _ => True) 19 (by kernel_rfl) ?_
     change anyU _ _ _ _ _ _ _ 20 _ _ _
     have hB0 : True := trivial
     have HBD := Lib.hid (below_dr wr)
     generalize wr.drew = wd at HBD ⊢
     have hA0 := HAM.out wd HBD.out
     (refine uA 0 ?_ rfl hA0 hB0 (fun W hA => ?_) ?_; rotate_left; (· (go_simp; try with_reducible rfl)); refine uA 1 ?_ rfl hA0 hB0 (fun W hA => ?_) ?_; rotate_left; (· (go_simp; try with_reducible rfl)); (try simp only [Act.put, List.setIfInBounds_toArray, List.set_cons_zero, List.set_cons_succ]))
     (refine uA 2 ?_ rfl hA0 hB0 (fun W hA => ?_) ?_; rotate_left; (· (obtain ⟨a0, _, _, _⟩ := hA; go_simp; try with_reducible rfl)); (try simp only [Act.put, List.setIfInBounds_toArray, List.set_cons_zero, List.set_cons_succ]))
     (refine uA 3 ?_ rfl hA0 hB0 (fun W hA => ?_) ?_; rotate_left; (· (go_simp; try with_reducible rfl)); refine uA 4 ?_ rfl hA0 hB0 (fun W hA => ?_) ?_; rotate_left; (· (go_simp; try with_reducible rfl)); refine uA 5 ?_ rfl hA0 hB0 (fun W hA => ?_) ?_; rotate_left; (· (go_simp; try with_reducible rfl)); refine uA 6 ?_ rfl hA0 hB0 (fun W hA => ?_) ?_; rotate_left; (· (go_simp; try with_reducible rfl)); (try simp only [Act.put, List.setIfInBounds_toArray, List.set_cons_zero, List.set_cons_succ]))
     (refine uA 7 ?_ rfl hA0 hB0 (fun W hA => ?_) ?_; rotate_left; (· (obtain ⟨_, _, a0, _⟩ := hA; go_simp; try with_reducible rfl)); (try simp only [Act.put, List.setIfInBounds_toArray, List.set_cons_zero, List.set_cons_succ]))
     refine uOne (i := 8) rfl (by kernel_rfl) (fun K hK => ?_)
     go_simp
     go_at_call 34
     refine (HCA.out wd HBD.out).mono ?_
     rintro e wz ⟨rfl, rfl⟩
     (refine hK _ _ ⟨hA0, fun _ => hB0⟩ ?_; clear hK K; (try simp only [Act.put, List.setIfInBounds_toArray, List.set_cons_zero, List.set_cons_succ]))
     (refine uA 9 ?_ rfl hA0 hB0 (fun W hA => ?_) ?_; rotate_left; (· (go_simp; try with_reducible rfl)); (try simp only [Act.put, List.setIfInBounds_toArray, List.set_cons_zero, List.set_cons_succ]))
     cases m1 with
     | true =>
      (refine uA 10 ?_ rfl hA0 hB0 (fun W hA => ?_) ?_; rotate_left; (· (go_simp; try with_reducible rfl)); refine uA 11 ?_ rfl hA0 hB0 (fun W hA => ?_) ?_; rotate_left; (· (go_simp; try with_reducible rfl)); (try simp only [Act.put, List.setIfInBounds_toArray, List.set_cons_zero, List.set_cons_succ]))
      (refine uA 12 ?_ rfl hA0 hB0 (fun W hA => ?_) ?_; rotate_left; (· (obtain ⟨_, a0, _, _⟩ := hA; go_simp; try with_reducible rfl)); (try simp only [Act.put, List.setIfInBounds_toArray, List.set_cons_zero, List.set_cons_succ]))
      (refine uA 13 ?_ rfl hA0 hB0 (fun W hA => ?_) ?_; rotate_left; (· (go_simp; try with_reducible rfl)); refine uA 14 ?_ rfl hA0 hB0 (fun W hA => ?_) ?_; rotate_left; (· (go_simp; try with_reducible rfl)); refine uA 15 ?_ rfl hA0 hB0 (fun W hA => ?_) ?_; rotate_left; (· (go_simp; try with_reducible rfl)); refine uA 16 ?_ rfl hA0 hB0 (fun W hA => ?_) ?_; rotate_left; (· (go_simp; try with_reducible rfl)); (try simp only [Act.put, List.setIfInBounds_toArray, List.set_cons_zero, List.set_cons_succ]))
      (refine uA 17 ?_ rfl hA0 hB0 (fun W hA => ?_) ?_; rotate_left; (· (obtain ⟨_, _, _, a0⟩ := hA; go_simp; try with_reducible rfl)); (try simp only [Act.put, List.setIfInBounds_toArray, List.set_cons_zero, List.set_cons_succ]))
      refine uOne (i := 18) rfl (by kernel_rfl) (fun K hK => ?_)
      go_simp
      go_at_call 34
      refine (HCB.out wd HBD.out).mono ?_
      rintro e wz ⟨rfl, rfl⟩
      (refine hK _ _ ⟨hA0, fun _ => hB0⟩ ?_; clear hK K; (try simp only [Act.put, List.setIfInBounds_toArray, List.set_cons_zero, List.set_cons_succ]))
      refine uOne (i := 19) rfl (by kernel_rfl) (fun K hK => ?_)
      go_simp
      (refine hK _ _ ⟨hA0, fun h => absurd (h.symm.trans (by kernel_rfl : _ = true)) Bool.false_ne_true⟩ ?_; clear hK K; (try simp only [Act.put, List.setIfInBounds_toArray, List.set_cons_zero, List.set_cons_succ]))
      refine anyU_done (by kernel_rfl) ?_ _
      clear hA0
      go_wp2_with fail
      go_meet
      case rel => exact ⟨by simp, HBD⟩
     | false =>
      (refine uS 10 rfl hA0 hB0 ?_; refine uS 11 rfl hA0 hB0 ?_; refine uS 12 rfl hA0 hB0 ?_; (try simp only [Act.put, List.setIfInBounds_toArray, List.set_cons_zero, List.set_cons_succ]))
      (refine uS 13 rfl hA0 hB0 ?_; refine uS 14 rfl hA0 hB0 ?_; refine uS 15 rfl hA0 hB0 ?_; (try simp only [Act.put, List.setIfInBounds_toArray, List.set_cons_zero, List.set_cons_succ]))
      (refine uS 16 rfl hA0 hB0 ?_; refine uS 17 rfl hA0 hB0 ?_; refine uS 18 rfl hA0 hB0 ?_; (try simp only [Act.put, List.setIfInBounds_toArray, List.set_cons_zero, List.set_cons_succ]))
      refine uOne (i := 19) rfl (by kernel_rfl) (fun K hK => ?_)
      go_simp
      (refine hK _ _ ⟨hA0, fun h => absurd (h.symm.trans (by kernel_rfl : _ = true)) Bool.false_ne_true⟩ ?_; clear hK K; (try simp only [Act.put, List.setIfInBounds_toArray, List.set_cons_zero, List.set_cons_succ]))
      refine anyU_done (by kernel_rfl) ?_ _
      clear hA0
      go_wp2_with fail
      go_meet
      case rel => exact ⟨by simp, HBD⟩
    case rest =>
     obtain ⟨rfl, HBC⟩ := hcut
     have HSC := Lib.hid (HS.out.quiet HBC.out)
     clear HAM HCA HCB HS
     obtain ⟨mm, hmm⟩ : ∃ b, (m1 && m2) = b := ⟨_, rfl⟩
     rw [hmm] at HMT ⊢
     clear hmm
     go_upto_if 59 with fail
     go_cut [10] from 34 to 131 (fun s10 wx => ∃ (k2 mc2 : Nat) (MA2 : Option Addr) (mk2 : List Int) (v10 : Value), s10 = v10 ∧ k2 ≤ i + 1 ∧ Hid (LoS w0 wx (.slice (some adv) na ca) (.slice MA2 k2 mc2) (.slice EA ke ec) (.slice (some ad) nt pc) (.slice WA nt wc9) k2 ke nt nt s.ts ws s.es mk2) ∧ Hid (mk2 = mksN (mkT [P, S]) s.ts (i + 1)))
     case first =>
      cases mm with
      | true =>
       have HMK2 := Lib.hid (show mk ++ [(i : Int)] = mksN (mkT [P, S]) s.ts (i + 1) by rw [mksN_yes HT.out HMT.out, HMK.out])
       have g2 : wc.cell? ⟨w0.heap.size, 2, none⟩ = some (.slice MA km mc) := HSC.out.bld.blk.cell (j := 2) rfl
       have hbs : w0.heap.size + 1 ≤ wc.heap.size := HSC.out.bld.lt
       go_wp2_with (at_builtin; refine wpList_pushA wc [.int .i64 (i : Int)] rfl (.tmp 61) (.tmp 63) 30 rfl (w0.heap.size + 1) 3 (.int .i64 0) 1 8 Tryz.underlying30 int_info rfl (by decide) rfl (.slice MA km mc) km _ rfl HSC.out.bld.mrk rfl (fun u hu => by simp at hu; subst hu; rfl) (by omega) (by omega) hbs ?_; intro MA2 mc2 w8 ho8 hg8 hl8; have B8 := HSC.out.bld.blk.kept hg8 (own_lt_ne HSC.out.bld.mrk (Nat.lt_succ_self _)); have e8 : w8.cell? ⟨w0.heap.size, 2, none⟩ = some (.slice MA km mc) := B8.cell (j := 2) rfl; have f8 : w8.frozen? ⟨w0.heap.size, 2, none⟩ = false := B8.free 2; have l8 : w0.heap.size < w8.heap.size := B8.lt)
       have HS8 := Lib.hid (HSC.out.mark ho8 hg8 hl8)
       go_meet
       case rel => exact ⟨km + 1, mc2, MA2, _, _, rfl, by omega, HS8, HMK2⟩
      | false =>
       have HMK2 := Lib.hid (show mk = mksN (mkT [P, S]) s.ts (i + 1) by rw [mksN_no HT.out HMT.out, HMK.out])
       go_wp2_with fail
       go_meet
       case rel => exact ⟨km, mc, MA, _, _, rfl, by omega, HSC, HMK2⟩
     case rest =>
      obtain ⟨k2, mc2, MA2, mk2, v10, rfl, hk2, HS2, HMK2⟩ := hcut
      have HRS2 := Lib.hid (show bsC 4096 (stp [P, S]) (evs [P, S]) (4096 - i) i (bsF 4096 (stp [P, S]) i [x, y] ((evs [P, S]).drop 0) s) = synS [P, S] by
       have := HRS.out
       rw [show 4097 - i = 4096 - i + 1 by omega] at this
       rw [← this, bsR_bsC HT.out])
      have HFI := Lib.hid (show FInv 4096 (stp [P, S]) (evs [P, S]) (ini [P, S]) i [x, y] ((evs [P, S]).take 0) s from HBI.out.enter HT.out)
      have HPX := Lib.hid (List.prefix_refl s.ts)
      have o0 : wc.cell? ⟨w0.heap.size, 0, none⟩ = some (.slice (some adv) na ca) := HS2.out.bld.blk.cell (j := 0) rfl
      clear HSC HMK HRS HBI b1
      obtain ⟨wo, rfl⟩ : ∃ wo : World, wo = wr := ⟨_, rfl⟩
      obtain ⟨wp, rfl⟩ : ∃ wp : World, wp = wc := ⟨_, rfl⟩
      go_wp2
      clear o0
      go_loopw [6, 7, 10, 11, 12, 69] (fun s6 s7 s10 s11 s12 s69 wr => ∃ (j nt kf : Nat) (pv wv ev v10 v11 v12 : Value) (ws : List SlV) (z : Bs (List Int)), s6 = pv ∧ s7 = wv ∧ s10 = v10 ∧ s11 = v11 ∧ s12 = v12 ∧ s69 = .int .i64 j ∧ j ≤ na ∧ i < nt ∧ nt ≤ 4096 ∧ kf ≤ i * 32 + j ∧ Hid (LoS w0 wr (.slice (some adv) na ca) (.slice MA2 k2 mc2) ev pv wv k2 kf nt nt z.ts ws z.es mk2) ∧ Hid (s.ts <+: z.ts) ∧
       Hid (FInv 4096 (stp [P, S]) (evs [P, S]) (ini [P, S]) i [x, y] ((evs [P, S]).take j) z) ∧ Hid (bsC 4096 (stp [P, S]) (evs [P, S]) (4096 - i) i (bsF 4096 (stp [P, S]) i [x, y] ((evs [P, S]).drop j) z) = synS [P, S]) ∧ Hid (FstI nt z.es ∧ ws.map SlV.l = wdsOf nt z.es)) (fun _ _ _ _ _ s69 _ => na - (intOf s69).toNat)
      case atStart => exact ⟨0, nt, ke, _, _, _, _, _, _, ws, s, rfl, rfl, rfl, rfl, rfl, rfl, Nat.zero_le _, hlt, hnt, by omega, HS2, HPX, HFI, HRS2, HFW⟩
      case round =>
       clear HS2 HPX HFI HRS2 HFW hlt hnt hin
       obtain ⟨j, nt, kf, pv, wv, ev, v10, v11, v12, ws, z, rfl, rfl, rfl, rfl, rfl, rfl, hj, hlt, hnt, hkf, HS, HPX, HFI, HRZ, HFW⟩ := hrel
       obtain ⟨PA, pc, rfl⟩ := own_shape HS.out.own
       obtain ⟨WA, wc9, rfl⟩ := own_shape HS.out.wow
       obtain ⟨EA, ec, rfl⟩ := own_shape HS.out.bld.edg
       by_cases hjl : j < na
       ·obtain ⟨adv9, v, hAV, hbv, hv, hcv⟩ := (HZK.out wr HS.out.bld.bel).p.ra.at_ (k := j) (by rw [HLA.out]; exact hjl)
        injection hAV with hAV
        subst hAV
        have hvm : v ∈ P.al := List.mem_of_getElem? hv
        have hvE : (evs [P, S])[j]? = some v := by rw [HEV.out]; exact hv
        obtain ⟨np, hnp⟩ : ∃ k, nxt P x v = k := ⟨_, rfl⟩
        obtain ⟨ns, hns⟩ : ∃ k, nxt S y v = k := ⟨_, rfl⟩
        have HST := Lib.hid (show stp [P, S] [x, y] v = if np < 0 ∨ ns < 0 then none else some [np, ns] by rw [stp_two HAL.out hvm, hnp, hns])
        have HVE := Lib.hid hvE
        have HVM := Lib.hid (show v ∈ evs [P, S] by rw [HEV.out]; exact hvm)
        obtain ⟨ad2, t2, hPA, hab, ht, hcell⟩ := HS.out.rp.1.get (k := i) (by rw [HS.out.tn]; exact hlt)
        subst hPA
        obtain rfl : t2 = [x, y] := by have h1 := cl1 HPX.out HT.out; rw [ht] at h1; injection h1
        have q0 : wr.cell? (ad2.add (i * 2)) = some (.int .i64 x) := hcell 0 _ rfl
        have q1 := st_cells (j := 0) (show wr.cell? (ad2.add (i * 2 + 1)) = some (.int .i64 y) from hcell 1 _ rfl)
        simp only [Nat.zero_add] at q1
        have HAW := Lib.hid (fun (W : World) (hb : Below wr.heap.size wr W) => (show ((W.cell? ⟨w.heap.size, 0, none⟩ = some (.slice (some adv) na ca) ∧ W.cell? ⟨w.heap.size, 1, none⟩ = some (.int .i64 sp) ∧ W.cell? ⟨w.heap.size, 2, none⟩ = some (.slice M nm cm) ∧ W.cell? ⟨w.heap.size, 3, none⟩ = some (.slice E ne ce)) ∧ (W.cell? ⟨w.heap.size, 4, none⟩ = some (.slice A' na' ca') ∧ W.cell? ⟨w.heap.size, 5, none⟩ = some (.int .i64 ss) ∧ W.cell? ⟨w.heap.size, 6, none⟩ = some (.slice M' nm' cm') ∧ W.cell? ⟨w.heap.size, 7, none⟩ = some (.slice E' ne' ce')) ∧ W.cell? (ad2.add (i * 2)) = some (.int .i64 x) ∧ W.cell? ⟨(ad2.add (i * 2)).block, (ad2.add (i * 2)).off + 1, none⟩ = some (.int .i64 y)) from
         ⟨⟨HCS.out W (HS.out.bld.bel.trans (hb.mono HS.out.bld.bel.size)) 0 _ rfl, HCS.out W (HS.out.bld.bel.trans (hb.mono HS.out.bld.bel.size)) 1 _ rfl, HCS.out W (HS.out.bld.bel.trans (hb.mono HS.out.bld.bel.size)) 2 _ rfl, HCS.out W (HS.out.bld.bel.trans (hb.mono HS.out.bld.bel.size)) 3 _ rfl⟩, ⟨HCS.out W (HS.out.bld.bel.trans (hb.mono HS.out.bld.bel.size)) 4 _ rfl, HCS.out W (HS.out.bld.bel.trans (hb.mono HS.out.bld.bel.size)) 5 _ rfl, HCS.out W (HS.out.bld.bel.trans (hb.mono HS.out.bld.bel.size)) 6 _ rfl, HCS.out W (HS.out.bld.bel.trans (hb.mono HS.out.bld.bel.size)) 7 _ rfl⟩, (hb.cell (p := ad2.add (i * 2)) (by rw [block_of_add]; exact hab)).trans q0, (hb.cell (p := ⟨(ad2.add (i * 2)).block, (ad2.add (i * 2)).off + 1, none⟩) (by show (ad2.add (i * 2)).block < _; rw [block_of_add]; exact hab)).trans q1⟩))
        have HC1 := Lib.hid (fun (W : World) (hb : Below wr.heap.size wr W) => law_step (some adv) na ca M nm cm E ne ce P x v W (HZK.out W (HS.out.bld.bel.trans (hb.mono HS.out.bld.bel.size))).p)
        have HC2 := Lib.hid (fun (W : World) (hb : Below wr.heap.size wr W) => law_step A' na' ca' M' nm' cm' E' ne' ce' S y v W (HZK.out W (HS.out.bld.bel.trans (hb.mono HS.out.bld.bel.size))).s)
        rw [HSP.out, hnp] at HC1
        rw [HSS.out, hns] at HC2
        have HNB := Lib.hid (fun (k : Nat) (hk : (Value.slice (some ad2) nt pc).ownBlock = some k) => (HS.out.own.lt k hk).2)
        have HIL := Lib.hid hjl
        have HIN := Lib.hid hlt
        have b1 : (i : Int) < (nt : Int) := by omega
        have b0 : ¬ (i : Int) < 0 := by omega
        have bj : (j : Int) < (na : Int) := by omega
        have bj0 : ¬ (j : Int) < 0 := by omega
        clear hv hvm hvE hnp hns ht hcell hab q0 q1 hbv
        go_upto_region 14 with fail
        clear hcv
        go_cut [11] from 70 to 131 (fun s11 wx => ∃ b : Nat, s11 = .pointer (some ⟨b, 0, none⟩) ∧ Hid (Blk wx b 45 [.int .i64 np, .int .i64 ns]) ∧ Hid (Below wr.heap.size wr wx) ∧ wr.heap.size ≤ b)
        case first =>
         refine wp_region_U (fun W => ((W.cell? ⟨w.heap.size, 0, none⟩ = some (.slice (some adv) na ca) ∧ W.cell? ⟨w.heap.size, 1, none⟩ = some (.int .i64 sp) ∧ W.cell? ⟨w.heap.size, 2, none⟩ = some (.slice M nm cm) ∧ W.cell? ⟨w.heap.size, 3, none⟩ = some (.slice E ne ce)) ∧ (W.cell? ⟨w.heap.size, 4, none⟩ = some (.slice A' na' ca') ∧ W.cell? ⟨w.heap.size, 5, none⟩ = some (.int .i64 ss) ∧ W.cell? ⟨w.heap.size, 6, none⟩ = some (.slice M' nm' cm') ∧ W.cell? ⟨w.heap.size, 7, none⟩ = some (.slice E' ne' ce')) ∧ W.cell? (ad2.add (i * 2)) = some (.int .i64 x) ∧ W.cell? ⟨(ad2.add (i * 2)).block, (ad2.add (i * 2)).off + 1, none⟩ = some (.int .i64 y))) (fun _ => True) 20 (by kernel_rfl) ?_
         change anyU _ _ _ _ _ _ _ 21 _ _ _
         have hB0 : True := trivial
         have HBD := Lib.hid (below_dr wr)
         generalize wr.drew = wd at HBD ⊢
         have hA0 := HAW.out wd HBD.out
         (refine uA 0 ?_ rfl hA0 hB0 (fun W hA => ?_) ?_; rotate_left; (· (go_simp; try with_reducible rfl)); (try simp only [Act.put, List.setIfInBounds_toArray, List.set_cons_zero, List.set_cons_succ]))
         (refine uA 1 ?_ rfl hA0 hB0 (fun W hA => ?_) ?_; rotate_left; (· (obtain ⟨⟨a0, a1, a2, a3⟩, _, _, _⟩ := hA; go_simp; try with_reducible rfl)); (try simp only [Act.put, List.setIfInBounds_toArray, List.set_cons_zero, List.set_cons_succ]))
         (refine uA 2 ?_ rfl hA0 hB0 (fun W hA => ?_) ?_; rotate_left; (· (go_simp; try with_reducible rfl)); refine uA 3 ?_ rfl hA0 hB0 (fun W hA => ?_) ?_; rotate_left; (· (go_simp; try with_reducible rfl)); refine uA 4 ?_ rfl hA0 hB0 (fun W hA => ?_) ?_; rotate_left; (· (go_simp; try with_reducible rfl)); refine uA 5 ?_ rfl hA0 hB0 (fun W hA => ?_) ?_; rotate_left; (· (go_simp; try with_reducible rfl)); (try simp only [Act.put, List.setIfInBounds_toArray, List.set_cons_zero, List.set_cons_succ]))
         (refine uA 6 ?_ rfl hA0 hB0 (fun W hA => ?_) ?_; rotate_left; (· (obtain ⟨_, _, a0, _⟩ := hA; go_simp; try with_reducible rfl)); (try simp only [Act.put, List.setIfInBounds_toArray, List.set_cons_zero, List.set_cons_succ]))
         (refine uA 7 ?_ rfl hA0 hB0 (fun W hA => ?_) ?_; rotate_left; (· (go_simp; try with_reducible rfl)); refine uA 9 ?_ rfl hA0 hB0 (fun W hA => ?_) ?_; rotate_left; (· (go_simp; try with_reducible rfl)); (try simp only [Act.put, List.setIfInBounds_toArray, List.set_cons_zero, List.set_cons_succ]))
         (refine uA 10 ?_ rfl hA0 hB0 (fun W hA => ?_) ?_; rotate_left; (· (obtain ⟨_, ⟨a0, a1, a2, a3⟩, _, _⟩ := hA; go_simp; try with_reducible rfl)); (try simp only [Act.put, List.setIfInBounds_toArray, List.set_cons_zero, List.set_cons_succ]))
         (refine uA 11 ?_ rfl hA0 hB0 (fun W hA => ?_) ?_; rotate_left; (· (go_simp; try with_reducible rfl)); refine uA 12 ?_ rfl hA0 hB0 (fun W hA => ?_) ?_; rotate_left; (· (go_simp; try with_reducible rfl)); refine uA 13 ?_ rfl hA0 hB0 (fun W hA => ?_) ?_; rotate_left; (· (go_simp; try with_reducible rfl)); refine uA 14 ?_ rfl hA0 hB0 (fun W hA => ?_) ?_; rotate_left; (· (go_simp; try with_reducible rfl)); (try simp only [Act.put, List.setIfInBounds_toArray, List.set_cons_zero, List.set_cons_succ]))
         (refine uA 15 ?_ rfl hA0 hB0 (fun W hA => ?_) ?_; rotate_left; (· (obtain ⟨_, _, _, a0⟩ := hA; go_simp; try with_reducible rfl)); (try simp only [Act.put, List.setIfInBounds_toArray, List.set_cons_zero, List.set_cons_succ]))
         (refine uA 16 ?_ rfl hA0 hB0 (fun W hA => ?_) ?_; rotate_left; (· (go_simp; try with_reducible rfl)); (try simp only [Act.put, List.setIfInBounds_toArray, List.set_cons_zero, List.set_cons_succ]))
         refine uTwo (i := 8) (j := 19) rfl rfl (by kernel_rfl) (fun K hK => ?_) (fun K hK => ?_)
         ·skip
          go_simp
          go_at_call 14
          refine (HC1.out wd HBD.out).mono ?_
          rintro e we ⟨rfl, hbe⟩
          have HBE := Lib.hid (HBD.out.trans (hbe.mono HBD.out.size))
          have hA1 := HAW.out we HBE.out
          clear hbe hA0
          (refine hK _ _ ⟨hA1, fun _ => hB0⟩ ?_; clear hK K; (try simp only [Act.put, List.setIfInBounds_toArray, List.set_cons_zero, List.set_cons_succ]))
          refine uTwo (i := 17) (j := 19) rfl rfl (by kernel_rfl) (fun K hK => ?_) (fun K hK => ?_)
          ·skip
           go_simp
           go_at_call 14
           refine (HC2.out we HBE.out).mono ?_
           rintro e wf ⟨rfl, hbe⟩
           have HBF := Lib.hid (HBE.out.trans (hbe.mono HBE.out.size))
           have hA2 := HAW.out wf HBF.out
           clear hbe hA1
           (refine hK _ _ ⟨hA2, fun _ => hB0⟩ ?_; clear hK K; (try simp only [Act.put, List.setIfInBounds_toArray, List.set_cons_zero, List.set_cons_succ]))
           replace hA0 := hA2
           clear hA2
           (refine uA 18 ?_ rfl hA0 hB0 (fun W hA => ?_) ?_; rotate_left; (· (go_simp; try with_reducible rfl)); (try simp only [Act.put, List.setIfInBounds_toArray, List.set_cons_zero, List.set_cons_succ]))
           refine uOne (i := 19) rfl (by kernel_rfl) (fun K hK => ?_)
           go_simp
           have hx := box_below wf (.cells #[.int .i64 0, .int .i64 0] 45)
           have HBG := Lib.hid (HBF.out.trans (hx.mono HBF.out.size))
           have HKG := Lib.hid (show Blk (wf.alloc (.cells #[.int .i64 0, .int .i64 0] 45)) wf.heap.size 45 [.int .i64 0, .int .i64 0] from Blk.new _ _ [_, _])
           have hA3 := HAW.out _ HBG.out
           clear hx hA0
           (refine hK _ _ ⟨hA3, fun _ => hB0⟩ ?_; clear hK K; (try simp only [Act.put, List.setIfInBounds_toArray, List.set_cons_zero, List.set_cons_succ]))
           generalize wf.alloc (.cells #[.int .i64 0, .int .i64 0] 45) = wg at HBG HKG hA3 ⊢
           refine uOne (i := 20) rfl (by kernel_rfl) (fun K hK => ?_)
           have f0 := HKG.out.free 0
           have f1 := HKG.out.free 1
           have e0 := HKG.out.cell (j := 0) rfl
           have e1 := HKG.out.cell (j := 1) rfl
           have l9 := HKG.out.lt
           have HV2 := Lib.hid ((HKG.out.set (j := 0) (by simp) (.int .i64 np)).set (j := 1) (by simp) (.int .i64 ns))
           have HF2 := Lib.hid ((HBG.out.setCell (p := ⟨wf.heap.size, 0, none⟩) HBF.out.size (.int .i64 np)).setCell (p := ⟨wf.heap.size, 1, none⟩) HBF.out.size (.int .i64 ns))
           have hAf := HAW.out _ HF2.out
           go_simp
           (refine hK _ _ ⟨hAf, fun _ => hB0⟩ ?_; clear hK K; (try simp only [Act.put, List.setIfInBounds_toArray, List.set_cons_zero, List.set_cons_succ]))
           refine anyU_done (by kernel_rfl) ?_ _
           clear hAf f0 f1 e0 e1 l9 hA3
           go_wp2_with fail
           go_meet
           case rel => exact ⟨wf.heap.size, rfl, HV2, HF2, HBF.out.size⟩
          ·skip
           go_simp
           have hx := box_below we (.cells #[.int .i64 0, .int .i64 0] 45)
           have HBG := Lib.hid (HBE.out.trans (hx.mono HBE.out.size))
           have HKG := Lib.hid (show Blk (we.alloc (.cells #[.int .i64 0, .int .i64 0] 45)) we.heap.size 45 [.int .i64 0, .int .i64 0] from Blk.new _ _ [_, _])
           have hA2 := HAW.out _ HBG.out
           clear hx hA1
           (refine hK _ _ ⟨hA2, fun _ => hB0⟩ ?_; clear hK K; (try simp only [Act.put, List.setIfInBounds_toArray, List.set_cons_zero, List.set_cons_succ]))
           generalize we.alloc (.cells #[.int .i64 0, .int .i64 0] 45) = wg at HBG HKG hA2 ⊢
           refine uOne (i := 17) rfl (by kernel_rfl) (fun K hK => ?_)
           go_simp
           go_at_call 14
           refine (HC2.out wg HBG.out).mono ?_
           rintro e wf ⟨rfl, hbe⟩
           have HBF := Lib.hid (HBG.out.trans (hbe.mono HBG.out.size))
           have HKF := Lib.hid (HKG.out.below hbe HKG.out.lt)
           have hA3 := HAW.out wf HBF.out
           clear hbe hA2
           (refine hK _ _ ⟨hA3, fun _ => hB0⟩ ?_; clear hK K; (try simp only [Act.put, List.setIfInBounds_toArray, List.set_cons_zero, List.set_cons_succ]))
           replace hA0 := hA3
           clear hA3
           (refine uA 18 ?_ rfl hA0 hB0 (fun W hA => ?_) ?_; rotate_left; (· (go_simp; try with_reducible rfl)); (try simp only [Act.put, List.setIfInBounds_toArray, List.set_cons_zero, List.set_cons_succ]))
           refine uOne (i := 20) rfl (by kernel_rfl) (fun K hK => ?_)
           have f0 := HKF.out.free 0
           have f1 := HKF.out.free 1
           have e0 := HKF.out.cell (j := 0) rfl
           have e1 := HKF.out.cell (j := 1) rfl
           have l9 := HKF.out.lt
           have HV2 := Lib.hid ((HKF.out.set (j := 0) (by simp) (.int .i64 np)).set (j := 1) (by simp) (.int .i64 ns))
           have HF2 := Lib.hid ((HBF.out.setCell (p := ⟨we.heap.size, 0, none⟩) HBE.out.size (.int .i64 np)).setCell (p := ⟨we.heap.size, 1, none⟩) HBE.out.size (.int .i64 ns))
           have hAf := HAW.out _ HF2.out
           go_simp
           (refine hK _ _ ⟨hAf, fun _ => hB0⟩ ?_; clear hK K; (try simp only [Act.put, List.setIfInBounds_toArray, List.set_cons_zero, List.set_cons_succ]))
           refine anyU_done (by kernel_rfl) ?_ _
           clear hAf f0 f1 e0 e1 l9 hA0
           go_wp2_with fail
           go_meet
           case rel => exact ⟨we.heap.size, rfl, HV2, HF2, HBE.out.size⟩
         ·skip
          go_simp
          have hx := box_below wd (.cells #[.int .i64 0, .int .i64 0] 45)
          have HBG := Lib.hid (HBD.out.trans (hx.mono HBD.out.size))
          have HKG := Lib.hid (show Blk (wd.alloc (.cells #[.int .i64 0, .int .i64 0] 45)) wd.heap.size 45 [.int .i64 0, .int .i64 0] from Blk.new _ _ [_, _])
          have hA1 := HAW.out _ HBG.out
          clear hx hA0
          (refine hK _ _ ⟨hA1, fun _ => hB0⟩ ?_; clear hK K; (try simp only [Act.put, List.setIfInBounds_toArray, List.set_cons_zero, List.set_cons_succ]))
          generalize wd.alloc (.cells #[.int .i64 0, .int .i64 0] 45) = wg at HBG HKG hA1 ⊢
          refine uOne (i := 8) rfl (by kernel_rfl) (fun K hK => ?_)
          go_simp
          go_at_call 14
          refine (HC1.out wg HBG.out).mono ?_
          rintro e we ⟨rfl, hbe⟩
          have HBE := Lib.hid (HBG.out.trans (hbe.mono HBG.out.size))
          have HKE := Lib.hid (HKG.out.below hbe HKG.out.lt)
          have hA2 := HAW.out we HBE.out
          clear hbe hA1
          (refine hK _ _ ⟨hA2, fun _ => hB0⟩ ?_; clear hK K; (try simp only [Act.put, List.setIfInBounds_toArray, List.set_cons_zero, List.set_cons_succ]))
          refine uOne (i := 17) rfl (by kernel_rfl) (fun K hK => ?_)
          go_simp
          go_at_call 14
          refine (HC2.out we HBE.out).mono ?_
          rintro e wf ⟨rfl, hbe⟩
          have HBF := Lib.hid (HBE.out.trans (hbe.mono HBE.out.size))
          have HKF := Lib.hid (HKE.out.below hbe HKE.out.lt)
          have hA3 := HAW.out wf HBF.out
          clear hbe hA2
          (refine hK _ _ ⟨hA3, fun _ => hB0⟩ ?_; clear hK K; (try simp only [Act.put, List.setIfInBounds_toArray, List.set_cons_zero, List.set_cons_succ]))
          replace hA0 := hA3
          clear hA3
          (refine uA 18 ?_ rfl hA0 hB0 (fun W hA => ?_) ?_; rotate_left; (· (go_simp; try with_reducible rfl)); (try simp only [Act.put, List.setIfInBounds_toArray, List.set_cons_zero, List.set_cons_succ]))
          refine uOne (i := 20) rfl (by kernel_rfl) (fun K hK => ?_)
          have f0 := HKF.out.free 0
          have f1 := HKF.out.free 1
          have e0 := HKF.out.cell (j := 0) rfl
          have e1 := HKF.out.cell (j := 1) rfl
          have l9 := HKF.out.lt
          have HV2 := Lib.hid ((HKF.out.set (j := 0) (by simp) (.int .i64 np)).set (j := 1) (by simp) (.int .i64 ns))
          have HF2 := Lib.hid ((HBF.out.setCell (p := ⟨wd.heap.size, 0, none⟩) HBD.out.size (.int .i64 np)).setCell (p := ⟨wd.heap.size, 1, none⟩) HBD.out.size (.int .i64 ns))
          have hAf := HAW.out _ HF2.out
          go_simp
          (refine hK _ _ ⟨hAf, fun _ => hB0⟩ ?_; clear hK K; (try simp only [Act.put, List.setIfInBounds_toArray, List.set_cons_zero, List.set_cons_succ]))
          refine anyU_done (by kernel_rfl) ?_ _
          clear hAf f0 f1 e0 e1 l9 hA0
          go_wp2_with fail
          go_meet
          case rel => exact ⟨wd.heap.size, rfl, HV2, HF2, HBD.out.size⟩
        case rest =>
         obtain ⟨b, rfl, HKB, HBX, hbw⟩ := hcut
         have HSX := Lib.hid (HS.out.quiet HBX.out)
         have HBW2 := Lib.hid hbw
         clear HAW HC1 HC2 HS hbw
         have e0 := HKB.out.cell (j := 0) rfl
         have e1 := HKB.out.cell (j := 1) rfl
         by_cases hn1 : np < 0
         ·skip
          have hst : stp [P, S] [x, y] v = none := by rw [HST.out, if_pos (by omega)]
          have HF2 : Hid (FInv 4096 (stp [P, S]) (evs [P, S]) (ini [P, S]) i [x, y] ((evs [P, S]).take (j + 1)) z) := by
           rcases HFI.out.step HVM.out with ⟨s1, q1, q2, q3⟩ | ⟨q1, _⟩
           ·rw [bsE_none hst] at q1
            injection q1 with q1; subst q1
            rw [take_snoc' HVE.out]; exact Lib.hid q2
           ·rw [bsE_none hst] at q1; cases q1
          have HRZ2 := Lib.hid (HRZ.out.symm.trans (by rw [bsF_go HVE.out (bsE_none hst)]) : synS [P, S] = bsC 4096 (stp [P, S]) (evs [P, S]) (4096 - i) i (bsF 4096 (stp [P, S]) i [x, y] ((evs [P, S]).drop (j + 1)) z))
          clear hst
          go_wp2
          go_roundw
          case rel => exact ⟨j + 1, nt, kf, _, _, _, _, _, _, ws, z, rfl, rfl, rfl, rfl, rfl, by go_num, by omega, hlt, hnt, by omega, HSX, HPX, HF2, Lib.hid HRZ2.out.symm, HFW⟩
          case measure => simp [intOf]; omega
         by_cases hn2 : ns < 0
         ·skip
          have hst : stp [P, S] [x, y] v = none := by rw [HST.out, if_pos (by omega)]
          have HF2 : Hid (FInv 4096 (stp [P, S]) (evs [P, S]) (ini [P, S]) i [x, y] ((evs [P, S]).take (j + 1)) z) := by
           rcases HFI.out.step HVM.out with ⟨s1, q1, q2, q3⟩ | ⟨q1, _⟩
           ·rw [bsE_none hst] at q1
            injection q1 with q1; subst q1
            rw [take_snoc' HVE.out]; exact Lib.hid q2
           ·rw [bsE_none hst] at q1; cases q1
          have HRZ2 := Lib.hid (HRZ.out.symm.trans (by rw [bsF_go HVE.out (bsE_none hst)]) : synS [P, S] = bsC 4096 (stp [P, S]) (evs [P, S]) (4096 - i) i (bsF 4096 (stp [P, S]) i [x, y] ((evs [P, S]).drop (j + 1)) z))
          clear hst
          go_wp2
          go_roundw
          case rel => exact ⟨j + 1, nt, kf, _, _, _, _, _, _, ws, z, rfl, rfl, rfl, rfl, rfl, by go_num, by omega, hlt, hnt, by omega, HSX, HPX, HF2, Lib.hid HRZ2.out.symm, HFW⟩
          case measure => simp [intOf]; omega
         have hst : stp [P, S] [x, y] v = some [np, ns] := by rw [HST.out, if_neg (by omega)]
         have HSTP := Lib.hid hst
         have HIC := Lib.hid (fun (W : World) (hb : Below wc.heap.size wc W) => slices_IndexP (some ad2) pc nt z.ts np ns W (HSX.out.quiet hb).tn (HSX.out.quiet hb).rp.1 (HSX.out.quiet hb).two (HSX.out.quiet hb).rp.2.1 (HSX.out.quiet hb).rp.2.2)
         obtain ⟨kk, hkk⟩ : ∃ kk, idx z.ts [np, ns] = kk := ⟨_, rfl⟩
         rw [hkk] at HIC
         have HKK := Lib.hid hkk; clear hkk
         clear hst
         go_wp2_with fail
         refine (HIC.out _ (Below.refl _ _)).mono ?_
         rintro e wi ⟨rfl, hbi⟩
         have HSI := Lib.hid (HSX.out.quiet hbi)
         have HKI0 := Lib.hid (HKB.out.below hbi HKB.out.lt)
         have HBI0 := Lib.hid (HBX.out.trans (hbi.mono HBX.out.size))
         clear HIC HSX HKB hbi e0 e1 HBX
         obtain ⟨s1, hs1, hs2, hs3⟩ : ∃ s1, bsE 4096 (stp [P, S]) i [x, y] z v = some s1 ∧ FInv 4096 (stp [P, S]) (evs [P, S]) (ini [P, S]) i [x, y] ((evs [P, S]).take j ++ [v]) s1 ∧ z.ts <+: s1.ts := by
          rcases HFI.out.step HVM.out with h1 | ⟨_, h2⟩
          ·exact h1
          ·exact absurd h2 HFEW.out
         rw [← take_snoc' HVE.out] at hs2
         have HBE1 := Lib.hid hs1
         have HFI1 := Lib.hid hs2
         have HPX1 := Lib.hid (HPX.out.trans hs3)
         clear hs1 hs2 hs3
         go_upto_if 104 with fail
         go_cut [6, 7, 12] from 70 to 131 (fun s6 s7 s12 wx => ∃ (n2 : Nat) (A3 : Option Addr) (c3 : Nat) (A14 : Option Addr) (c14 : Nat) (ws2 : List SlV) (k : Nat), s6 = .slice A3 n2 c3 ∧ s7 = .slice A14 n2 c14 ∧ s12 = .int .i64 k ∧ i < n2 ∧ n2 ≤ 4096 ∧ Hid (LoS w0 wx (.slice (some adv) na ca) (.slice MA2 k2 mc2) (.slice EA kf ec) (.slice A3 n2 c3) (.slice A14 n2 c14) k2 kf n2 n2 s1.ts ws2 z.es mk2) ∧ Hid (s1.es = z.es ++ [⟨i, v, (k : Int)⟩]) ∧ Hid (FstI n2 s1.es ∧ ws2.map SlV.l = wdsOf n2 s1.es))
         case first =>
          by_cases hneg : kk < 0
          ·have hnot : idx z.ts [np, ns] < 0 := by rw [HKK.out]; exact hneg
           have hne : z.ts.length ≠ 4096 := fun e => by have := HBE1.out; rw [bsE_full HSTP.out hnot e] at this; cases this
           have hse : s1 = ⟨z.ts ++ [[np, ns]], z.es ++ [⟨i, v, (nt : Int)⟩]⟩ := by
            have := HBE1.out
            rw [bsE_new HSTP.out hnot hne, HSI.out.tn] at this
            injection this with this; exact this.symm
           have HNT := Lib.hid (show nt + 1 ≤ 4096 by have := HSI.out.tn; have := hnt; omega)
           obtain ⟨xw, hxw⟩ : ∃ xw, ws[i]? = some xw := ⟨_, List.getElem?_eq_getElem (by rw [HSI.out.wn]; exact HIN.out)⟩
           obtain ⟨XA, xc, xl⟩ := xw
           have hxl : xl = (pathW z.es i i).reverse := by
            have h1 : (ws.map SlV.l)[i]? = some xl := by rw [List.getElem?_map, hxw]; rfl
            rw [HFW.out.2, wdsOf_get HIN.out] at h1
            injection h1 with h1; exact h1.symm
           obtain ⟨nx, hnx⟩ : ∃ m, xl.length = m := ⟨_, rfl⟩
           have hnx4 : nx ≤ 4096 := by
            rw [← hnx, hxl, List.length_reverse]
            have := pathW_len z.es i i; have := HIN.out; omega
           obtain ⟨wda, hwda, hwb, hwc⟩ := HSI.out.rw_.1.1 i (.slice XA nx xc) (by rw [List.getElem?_map, hxw]; show some (Value.slice XA xl.length xc) = _; rw [hnx])
           subst hwda
           have HXC := Lib.hid (fun (W : World) (pv : Value) (n3 : Nat) (ts3 : List (List Int)) (h : LoS w0 W (.slice (some adv) na ca) (.slice MA2 k2 mc2) (.slice EA kf ec) pv (.slice (some wda) nt wc9) k2 kf n3 nt ts3 ws z.es mk2) => (show W.cell? (wda.add i) = some (.slice XA nx xc) by
            obtain ⟨a9, e9, _, h9⟩ := h.rw_.1.1 i (.slice XA nx xc) (by rw [List.getElem?_map, hxw]; show some (Value.slice XA xl.length xc) = _; rw [hnx])
            injection e9 with e9; rw [e9]; exact h9))
           have HXR := Lib.hid (fun (W : World) (pv : Value) (n3 : Nat) (ts3 : List (List Int)) (h : LoS w0 W (.slice (some adv) na ca) (.slice MA2 k2 mc2) (.slice EA kf ec) pv (.slice (some wda) nt wc9) k2 kf n3 nt ts3 ws z.es mk2) => (show RdI W W.heap.size XA xl from RdI.of_own (h.wds _ (List.mem_of_getElem? hxw)).1))
           have HWDN := Lib.hid (show FstI (nt + 1) s1.es ∧ ∀ xs : List SlV, xs.map SlV.l = ws.map SlV.l ++ [xl ++ [v]] → xs.map SlV.l = wdsOf (nt + 1) s1.es from by
            rw [hse]
            refine ⟨HFW.out.1.new HIN.out, fun xs h => ?_⟩
            show xs.map SlV.l = wdsOf (nt + 1) (z.es ++ [⟨i, v, (nt : Int)⟩])
            rw [h, wdsOf_new HFW.out.1 HIN.out, HFW.out.2, hxl])
           have HSE1 := Lib.hid (show s1.ts = z.ts ++ [[np, ns]] by rw [hse])
           have HSE2 := Lib.hid (show s1.es = z.es ++ [⟨i, v, (nt : Int)⟩] by rw [hse])
           have HNX := Lib.hid hnx
           have HNL := Lib.hid (fun (k : Nat) (hk : (Value.slice (some ad2) nt pc).ownBlock = some k) => (show k ≠ b by have := HNB.out k hk; have := HBW2.out; omega))
           clear hnot hne hse hxw hxl hwb hwc hnx HNB HFI HRZ HFW HBE1 HFI1
           go_upto_region 19 with fail
           refine wp_region_U (fun W => W.cell? ⟨b, 0, none⟩ = some (.int .i64 np) ∧ W.cell? ⟨b, 1, none⟩ = some (.int .i64 ns)) (fun W => W.cell? (wda.add i) = some (.slice XA nx xc)) 9 (by kernel_rfl) ?_
           change anyU _ _ _ _ _ _ _ 17 _ _ _
           have hdr := below_dr wi
           have HLD := Lib.hid (HSI.out.quiet hdr)
           have HKD := Lib.hid (HKI0.out.below hdr HKI0.out.lt)
           clear hdr
           generalize wi.drew = wd at HLD HKD ⊢
           have hA0 := (show wd.cell? ⟨b, 0, none⟩ = some (.int .i64 np) ∧ wd.cell? ⟨b, 1, none⟩ = some (.int .i64 ns) from ⟨HKD.out.cell (j := 0) rfl, HKD.out.cell (j := 1) rfl⟩)
           have hB0 := HXC.out wd _ _ _ HLD.out
           (refine uA 0 ?_ rfl hA0 hB0 (fun W hA => ?_) ?_; rotate_left; (· (go_simp; try with_reducible rfl)); (try simp only [Act.put, List.setIfInBounds_toArray, List.set_cons_zero, List.set_cons_succ]))
           (refine uA 1 ?_ rfl hA0 hB0 (fun W hA => ?_) ?_; rotate_left; (· (obtain ⟨a0, a1⟩ := hA; go_simp; try with_reducible rfl)); (try simp only [Act.put, List.setIfInBounds_toArray, List.set_cons_zero, List.set_cons_succ]))
           (refine uA 4 ?_ rfl hA0 hB0 (fun W hA => ?_) ?_; rotate_left; (· (go_simp; try with_reducible rfl)); refine uA 5 ?_ rfl hA0 hB0 (fun W hA => ?_) ?_; rotate_left; (· (go_simp; try with_reducible rfl)); refine uA 6 ?_ rfl hA0 hB0 (fun W hA => ?_) ?_; rotate_left; (· (go_simp; try with_reducible rfl)); refine uA 7 ?_ rfl hA0 hB0 (fun W hA => ?_) ?_; rotate_left; (· (go_simp; try with_reducible rfl)); (try simp only [Act.put, List.setIfInBounds_toArray, List.set_cons_zero, List.set_cons_succ]))
           (refine uB 8 ?_ rfl hA0 hB0 (fun W hA hB => ?_) ?_; rotate_left; (· (go_simp; try with_reducible rfl)); (try simp only [Act.put, List.setIfInBounds_toArray, List.set_cons_zero, List.set_cons_succ]))
           (refine uA 10 ?_ rfl hA0 hB0 (fun W hA => ?_) ?_; rotate_left; (· (go_simp; try with_reducible rfl)); (try simp only [Act.put, List.setIfInBounds_toArray, List.set_cons_zero, List.set_cons_succ]))
           refine uTwo (i := 2) (j := 11) rfl rfl (by kernel_rfl) (fun K hK => ?_) (fun K hK => ?_)
           ·skip
            go_simp
            have hx := box_below wd (.cells #[.int .i64 np, .int .i64 ns] 45)
            have KN4 := Lib.hid (show Blk (wd.alloc (.cells #[.int .i64 np, .int .i64 ns] 45)) wd.heap.size 45 [.int .i64 np, .int .i64 ns] from Blk.new _ _ [_, _])
            have HL2 := Lib.hid (HLD.out.quiet hx)
            have HK3 := Lib.hid (HKD.out.below hx HKD.out.lt)
            generalize wd.alloc (.cells #[.int .i64 np, .int .i64 ns] 45) = w1 at KN4 HL2 HK3 ⊢
            have hA5 := (show w1.cell? ⟨b, 0, none⟩ = some (.int .i64 np) ∧ w1.cell? ⟨b, 1, none⟩ = some (.int .i64 ns) from ⟨HK3.out.cell (j := 0) rfl, HK3.out.cell (j := 1) rfl⟩)
            have hB6 := HXC.out w1 _ _ _ HL2.out
            clear hx
            (refine hK _ _ ⟨hA5, fun _ => hB6⟩ ?_; clear hK K; (try simp only [Act.put, List.setIfInBounds_toArray, List.set_cons_zero, List.set_cons_succ]))
            refine uTwo (i := 3) (j := 11) rfl rfl (by kernel_rfl) (fun K hK => ?_) (fun K hK => ?_)
            ·skip
             have hsz3 := HL2.out.bld.lt
             refine step_pushL w1 [.int .i64 np, .int .i64 ns] (by rfl) (.tmp 107) (.tmp 109) 37 (by rfl) (w0.heap.size + 1) 45 (.agg #[.int .i64 0, .int .i64 0]) 2 16 Tryz.underlying37 p2_info (by rfl) (by decide) (by rfl) (.slice (some ad2) nt pc) nt _ (by rfl) HL2.out.own wd.heap.size 45 (by rfl) KN4.out (fun u hu => by simp at hu; rcases hu with rfl | rfl <;> rfl) (by omega) (by omega) hsz3 ?_
             intro P12 pc13 w7 ho3 hg3
             have HL8 := Lib.hid (HL2.out.pair (t := [np, ns]) rfl ho3 hg3)
             have HK9 := Lib.hid (HK3.out.kept hg3 (fun e => HNL.out _ e.symm rfl))
             have hA10 := (show w7.cell? ⟨b, 0, none⟩ = some (.int .i64 np) ∧ w7.cell? ⟨b, 1, none⟩ = some (.int .i64 ns) from ⟨HK9.out.cell (j := 0) rfl, HK9.out.cell (j := 1) rfl⟩)
             have hB11 := HXC.out w7 _ _ _ HL8.out
             clear ho3 hg3 hsz3
             (refine hK _ _ ⟨hA10, fun _ => hB11⟩ ?_; clear hK K; (try simp only [Act.put, List.setIfInBounds_toArray, List.set_cons_zero, List.set_cons_succ]))
             refine uTwo (i := 9) (j := 11) rfl rfl (by kernel_rfl) (fun K hK => ?_) (fun K hK => ?_)
             ·skip
              have HCL := Lib.hid (slices_Clone_n XA xc nx xl w7 HNX.out (HXR.out w7 _ _ _ HL8.out) (by omega))
              go_simp
              go_at_call 31
              refine HCL.out.mono ?_
              rintro e w14 ⟨v22, rfl, ho9, hb9⟩
              rw [HNX.out] at ho9
              obtain ⟨Q18, qc19, rfl⟩ := own_shape ho9
              have HL15 := Lib.hid (HL8.out.quiet hb9)
              have HK16 := Lib.hid (HK9.out.below hb9 HK9.out.lt)
              have HB20 := Lib.hid hb9
              have HO21 := Lib.hid ho9
              have hA17 := (show w14.cell? ⟨b, 0, none⟩ = some (.int .i64 np) ∧ w14.cell? ⟨b, 1, none⟩ = some (.int .i64 ns) from ⟨HK16.out.cell (j := 0) rfl, HK16.out.cell (j := 1) rfl⟩)
              clear hb9 ho9 HCL
              (refine hK _ _ ⟨hA17, fun h => absurd (h.symm.trans (by kernel_rfl : _ = true)) Bool.false_ne_true⟩ ?_; clear hK K; (try simp only [Act.put, List.setIfInBounds_toArray, List.set_cons_zero, List.set_cons_succ]))
              refine uOne (i := 11) rfl (by kernel_rfl) (fun K hK => ?_)
              go_simp
              have hx := box_below w14 (.cells #[.int .i64 v] 3)
              have KN26 := Lib.hid (show Blk (w14.alloc (.cells #[.int .i64 v] 3)) w14.heap.size 3 [.int .i64 v] from Blk.new _ _ [_])
              have HL24 := Lib.hid (HL15.out.quiet hx)
              have HK25 := Lib.hid (HK16.out.below hx HK16.out.lt)
              have HB29 := Lib.hid (HB20.out.trans (hx.mono HB20.out.size))
              have HO30 := Lib.hid (own_below HO21.out hx)
              generalize w14.alloc (.cells #[.int .i64 v] 3) = w23 at KN26 HL24 HK25 HB29 HO30 ⊢
              have hA27 := (show w23.cell? ⟨b, 0, none⟩ = some (.int .i64 np) ∧ w23.cell? ⟨b, 1, none⟩ = some (.int .i64 ns) from ⟨HK25.out.cell (j := 0) rfl, HK25.out.cell (j := 1) rfl⟩)
              clear hx
              (refine hK _ _ ⟨hA27, fun h => absurd (h.symm.trans (by kernel_rfl : _ = true)) Bool.false_ne_true⟩ ?_; clear hK K; (try simp only [Act.put, List.setIfInBounds_toArray, List.set_cons_zero, List.set_cons_succ]))
              refine uOne (i := 12) rfl (by kernel_rfl) (fun K hK => ?_)
              have hsz9 := HB29.out.size
              refine step_pushL w23 [.int .i64 v] (by rfl) (.tmp 116) (.tmp 118) 30 (by rfl) w7.heap.size 3 (.int .i64 0) 1 8 Tryz.underlying30 int_info (by rfl) (by decide) (by rfl) (.slice Q18 nx qc19) nx _ (by rfl) HO30.out w14.heap.size 3 (by rfl) KN26.out (fun u hu => by simp at hu; subst hu; rfl) (by omega) (by omega) hsz9 ?_
              intro A12 c12 w12 ho12 hg12
              have HB12 := Lib.hid (HB29.out.grown hg12 HB29.out.size (fun j hj => (HO30.out.lt j hj).1))
              have HL12 := Lib.hid (HL8.out.quiet HB12.out)
              have HK12 := Lib.hid (HK9.out.below HB12.out HK9.out.lt)
              have HO12 := Lib.hid (show w12.ownsRow w7.heap.size 3 1 (.slice A12 (nx + 1) c12) (nx + 1) (iv (xl ++ [v])) from by rw [iv_append]; exact ho12)
              have HNE := Lib.hid (fresh_ne HO12.out (Nat.le_refl _) HL8.out.bld.mrk)
              have hA12 := (show w12.cell? ⟨b, 0, none⟩ = some (.int .i64 np) ∧ w12.cell? ⟨b, 1, none⟩ = some (.int .i64 ns) from ⟨HK12.out.cell (j := 0) rfl, HK12.out.cell (j := 1) rfl⟩)
              clear ho12 hg12 hsz9
              (refine hK _ _ ⟨hA12, fun h => absurd (h.symm.trans (by kernel_rfl : _ = true)) Bool.false_ne_true⟩ ?_; clear hK K; (try simp only [Act.put, List.setIfInBounds_toArray, List.set_cons_zero, List.set_cons_succ]))
              refine uOne (i := 13) rfl (by kernel_rfl) (fun K hK => ?_)
              go_simp
              have hx := box_below w12 (.cells #[.slice A12 (nx + 1) c12] 30)
              have HK13 := Lib.hid (show Blk (w12.alloc (.cells #[.slice A12 (nx + 1) c12] 30)) w12.heap.size 30 [.slice A12 (nx + 1) c12] from Blk.new _ _ [_])
              have HL13 := Lib.hid (HL12.out.quiet hx)
              have HKb13 := Lib.hid (HK12.out.below hx HK12.out.lt)
              have HO13 := Lib.hid (own_base (base := w0.heap.size + 1) (own_below HO12.out hx) (by have := HL8.out.bld.lt; omega))
              generalize w12.alloc (.cells #[.slice A12 (nx + 1) c12] 30) = w13 at HK13 HL13 HKb13 HO13 ⊢
              have hA13 := (show w13.cell? ⟨b, 0, none⟩ = some (.int .i64 np) ∧ w13.cell? ⟨b, 1, none⟩ = some (.int .i64 ns) from ⟨HKb13.out.cell (j := 0) rfl, HKb13.out.cell (j := 1) rfl⟩)
              clear hx
              (refine hK _ _ ⟨hA13, fun h => absurd (h.symm.trans (by kernel_rfl : _ = true)) Bool.false_ne_true⟩ ?_; clear hK K; (try simp only [Act.put, List.setIfInBounds_toArray, List.set_cons_zero, List.set_cons_succ]))
              have HSV := Lib.hid (show SlV.v ⟨A12, c12, xl ++ [v]⟩ = .slice A12 (nx + 1) c12 by unfold SlV.v; rw [List.length_append, HNX.out]; rfl)
              have HLE := Lib.hid (show (xl ++ [v]).length = nx + 1 by rw [List.length_append, HNX.out]; rfl)
              refine uOne (i := 14) rfl (by kernel_rfl) (fun K hK => ?_)
              have hsz13 := HL13.out.bld.lt
              refine step_pushL w13 [.slice A12 (nx + 1) c12] (by rfl) (.tmp 111) (.tmp 120) 52 (by rfl) (w0.heap.size + 1) 30 (.slice none 0 0) 1 24 Tryz.underlying52 words_info (by rfl) (by decide) (by rfl) (.slice (some wda) nt wc9) nt _ (by rfl) HL13.out.wow w12.heap.size 30 (by rfl) HK13.out (fun u hu => by simp at hu; subst hu; rfl) (by omega) (by omega) hsz13 ?_
              intro A14 c14 w14 ho14 hg14
              have HL14 := Lib.hid (HL13.out.word (x := ⟨A12, c12, xl ++ [v]⟩) (by rw [HSV.out, HLE.out]; exact HO13.out) (by rw [HSV.out]; exact HNE.out) (by rw [HSV.out]; exact ho14) hg14)
              have HKb14 := Lib.hid (HKb13.out.kept hg14 (blk_ne_own HL13.out.wow HKb13.out (by decide)))
              have hA14 := (show w14.cell? ⟨b, 0, none⟩ = some (.int .i64 np) ∧ w14.cell? ⟨b, 1, none⟩ = some (.int .i64 ns) from ⟨HKb14.out.cell (j := 0) rfl, HKb14.out.cell (j := 1) rfl⟩)
              rw [← HSE1.out] at HL14
              clear ho14 hg14 hsz13
              (refine hK _ _ ⟨hA14, fun h => absurd (h.symm.trans (by kernel_rfl : _ = true)) Bool.false_ne_true⟩ ?_; clear hK K; (try simp only [Act.put, List.setIfInBounds_toArray, List.set_cons_zero, List.set_cons_succ]))
              refine uOne (i := 15) rfl (by kernel_rfl) (fun K hK => ?_)
              go_simp
              (refine hK _ _ ⟨hA14, fun h => absurd (h.symm.trans (by kernel_rfl : _ = true)) Bool.false_ne_true⟩ ?_; clear hK K; (try simp only [Act.put, List.setIfInBounds_toArray, List.set_cons_zero, List.set_cons_succ]))
              refine uOne (i := 16) rfl (by kernel_rfl) (fun K hK => ?_)
              go_simp
              (refine hK _ _ ⟨hA14, fun h => absurd (h.symm.trans (by kernel_rfl : _ = true)) Bool.false_ne_true⟩ ?_; clear hK K; (try simp only [Act.put, List.setIfInBounds_toArray, List.set_cons_zero, List.set_cons_succ]))
              refine anyU_done (by kernel_rfl) ?_ _
              go_wp2_with fail
              go_meet
              case rel => exact ⟨nt + 1, P12, pc13, A14, c14, _, nt, rfl, rfl, rfl, by have := HIN.out; omega, HNT.out, HL14, HSE2, Lib.hid ⟨HWDN.out.1, HWDN.out.2 _ (by simp)⟩⟩
             ·skip
              go_simp
              have hx := box_below w7 (.cells #[.int .i64 v] 3)
              have KN34 := Lib.hid (show Blk (w7.alloc (.cells #[.int .i64 v] 3)) w7.heap.size 3 [.int .i64 v] from Blk.new _ _ [_])
              have HL32 := Lib.hid (HL8.out.quiet hx)
              have HK33 := Lib.hid (HK9.out.below hx HK9.out.lt)
              generalize w7.alloc (.cells #[.int .i64 v] 3) = w31 at KN34 HL32 HK33 ⊢
              have hA35 := (show w31.cell? ⟨b, 0, none⟩ = some (.int .i64 np) ∧ w31.cell? ⟨b, 1, none⟩ = some (.int .i64 ns) from ⟨HK33.out.cell (j := 0) rfl, HK33.out.cell (j := 1) rfl⟩)
              have hB36 := HXC.out w31 _ _ _ HL32.out
              clear hx
              (refine hK _ _ ⟨hA35, fun _ => hB36⟩ ?_; clear hK K; (try simp only [Act.put, List.setIfInBounds_toArray, List.set_cons_zero, List.set_cons_succ]))
              refine uOne (i := 9) rfl (by kernel_rfl) (fun K hK => ?_)
              have HCL := Lib.hid (slices_Clone_n XA xc nx xl w31 HNX.out (HXR.out w31 _ _ _ HL32.out) (by omega))
              go_simp
              go_at_call 31
              refine HCL.out.mono ?_
              rintro e w37 ⟨v45, rfl, ho9, hb9⟩
              rw [HNX.out] at ho9
              obtain ⟨Q41, qc42, rfl⟩ := own_shape ho9
              have HL38 := Lib.hid (HL32.out.quiet hb9)
              have HK39 := Lib.hid (HK33.out.below hb9 HK33.out.lt)
              have HB43 := Lib.hid hb9
              have HO44 := Lib.hid ho9
              have KN46 := Lib.hid (KN34.out.below hb9 KN34.out.lt)
              have hA40 := (show w37.cell? ⟨b, 0, none⟩ = some (.int .i64 np) ∧ w37.cell? ⟨b, 1, none⟩ = some (.int .i64 ns) from ⟨HK39.out.cell (j := 0) rfl, HK39.out.cell (j := 1) rfl⟩)
              clear hb9 ho9 HCL
              (refine hK _ _ ⟨hA40, fun h => absurd (h.symm.trans (by kernel_rfl : _ = true)) Bool.false_ne_true⟩ ?_; clear hK K; (try simp only [Act.put, List.setIfInBounds_toArray, List.set_cons_zero, List.set_cons_succ]))
              refine uOne (i := 12) rfl (by kernel_rfl) (fun K hK => ?_)
              have hsz9 := HB43.out.size
              refine step_pushL w37 [.int .i64 v] (by rfl) (.tmp 116) (.tmp 118) 30 (by rfl) w31.heap.size 3 (.int .i64 0) 1 8 Tryz.underlying30 int_info (by rfl) (by decide) (by rfl) (.slice Q41 nx qc42) nx _ (by rfl) HO44.out w7.heap.size 3 (by rfl) KN46.out (fun u hu => by simp at hu; subst hu; rfl) (by omega) (by omega) hsz9 ?_
              intro A12 c12 w12 ho12 hg12
              have HB12 := Lib.hid (HB43.out.grown hg12 HB43.out.size (fun j hj => (HO44.out.lt j hj).1))
              have HL12 := Lib.hid (HL32.out.quiet HB12.out)
              have HK12 := Lib.hid (HK33.out.below HB12.out HK33.out.lt)
              have HO12 := Lib.hid (show w12.ownsRow w31.heap.size 3 1 (.slice A12 (nx + 1) c12) (nx + 1) (iv (xl ++ [v])) from by rw [iv_append]; exact ho12)
              have HNE := Lib.hid (fresh_ne HO12.out (Nat.le_refl _) HL32.out.bld.mrk)
              have hA12 := (show w12.cell? ⟨b, 0, none⟩ = some (.int .i64 np) ∧ w12.cell? ⟨b, 1, none⟩ = some (.int .i64 ns) from ⟨HK12.out.cell (j := 0) rfl, HK12.out.cell (j := 1) rfl⟩)
              clear ho12 hg12 hsz9
              (refine hK _ _ ⟨hA12, fun h => absurd (h.symm.trans (by kernel_rfl : _ = true)) Bool.false_ne_true⟩ ?_; clear hK K; (try simp only [Act.put, List.setIfInBounds_toArray, List.set_cons_zero, List.set_cons_succ]))
              refine uOne (i := 13) rfl (by kernel_rfl) (fun K hK => ?_)
              go_simp
              have hx := box_below w12 (.cells #[.slice A12 (nx + 1) c12] 30)
              have HK13 := Lib.hid (show Blk (w12.alloc (.cells #[.slice A12 (nx + 1) c12] 30)) w12.heap.size 30 [.slice A12 (nx + 1) c12] from Blk.new _ _ [_])
              have HL13 := Lib.hid (HL12.out.quiet hx)
              have HKb13 := Lib.hid (HK12.out.below hx HK12.out.lt)
              have HO13 := Lib.hid (own_base (base := w0.heap.size + 1) (own_below HO12.out hx) (by have := HL32.out.bld.lt; omega))
              generalize w12.alloc (.cells #[.slice A12 (nx + 1) c12] 30) = w13 at HK13 HL13 HKb13 HO13 ⊢
              have hA13 := (show w13.cell? ⟨b, 0, none⟩ = some (.int .i64 np) ∧ w13.cell? ⟨b, 1, none⟩ = some (.int .i64 ns) from ⟨HKb13.out.cell (j := 0) rfl, HKb13.out.cell (j := 1) rfl⟩)
              clear hx
              (refine hK _ _ ⟨hA13, fun h => absurd (h.symm.trans (by kernel_rfl : _ = true)) Bool.false_ne_true⟩ ?_; clear hK K; (try simp only [Act.put, List.setIfInBounds_toArray, List.set_cons_zero, List.set_cons_succ]))
              have HSV := Lib.hid (show SlV.v ⟨A12, c12, xl ++ [v]⟩ = .slice A12 (nx + 1) c12 by unfold SlV.v; rw [List.length_append, HNX.out]; rfl)
              have HLE := Lib.hid (show (xl ++ [v]).length = nx + 1 by rw [List.length_append, HNX.out]; rfl)
              refine uOne (i := 14) rfl (by kernel_rfl) (fun K hK => ?_)
              have hsz13 := HL13.out.bld.lt
              refine step_pushL w13 [.slice A12 (nx + 1) c12] (by rfl) (.tmp 111) (.tmp 120) 52 (by rfl) (w0.heap.size + 1) 30 (.slice none 0 0) 1 24 Tryz.underlying52 words_info (by rfl) (by decide) (by rfl) (.slice (some wda) nt wc9) nt _ (by rfl) HL13.out.wow w12.heap.size 30 (by rfl) HK13.out (fun u hu => by simp at hu; subst hu; rfl) (by omega) (by omega) hsz13 ?_
              intro A14 c14 w14 ho14 hg14
              have HL14 := Lib.hid (HL13.out.word (x := ⟨A12, c12, xl ++ [v]⟩) (by rw [HSV.out, HLE.out]; exact HO13.out) (by rw [HSV.out]; exact HNE.out) (by rw [HSV.out]; exact ho14) hg14)
              have HKb14 := Lib.hid (HKb13.out.kept hg14 (blk_ne_own HL13.out.wow HKb13.out (by decide)))
              have hA14 := (show w14.cell? ⟨b, 0, none⟩ = some (.int .i64 np) ∧ w14.cell? ⟨b, 1, none⟩ = some (.int .i64 ns) from ⟨HKb14.out.cell (j := 0) rfl, HKb14.out.cell (j := 1) rfl⟩)
              rw [← HSE1.out] at HL14
              clear ho14 hg14 hsz13
              (refine hK _ _ ⟨hA14, fun h => absurd (h.symm.trans (by kernel_rfl : _ = true)) Bool.false_ne_true⟩ ?_; clear hK K; (try simp only [Act.put, List.setIfInBounds_toArray, List.set_cons_zero, List.set_cons_succ]))
              refine uOne (i := 15) rfl (by kernel_rfl) (fun K hK => ?_)
              go_simp
              (refine hK _ _ ⟨hA14, fun h => absurd (h.symm.trans (by kernel_rfl : _ = true)) Bool.false_ne_true⟩ ?_; clear hK K; (try simp only [Act.put, List.setIfInBounds_toArray, List.set_cons_zero, List.set_cons_succ]))
              refine uOne (i := 16) rfl (by kernel_rfl) (fun K hK => ?_)
              go_simp
              (refine hK _ _ ⟨hA14, fun h => absurd (h.symm.trans (by kernel_rfl : _ = true)) Bool.false_ne_true⟩ ?_; clear hK K; (try simp only [Act.put, List.setIfInBounds_toArray, List.set_cons_zero, List.set_cons_succ]))
              refine anyU_done (by kernel_rfl) ?_ _
              go_wp2_with fail
              go_meet
              case rel => exact ⟨nt + 1, P12, pc13, A14, c14, _, nt, rfl, rfl, rfl, by have := HIN.out; omega, HNT.out, HL14, HSE2, Lib.hid ⟨HWDN.out.1, HWDN.out.2 _ (by simp)⟩⟩
            ·skip
             go_simp
             have hx := box_below w1 (.cells #[.int .i64 v] 3)
             have KN50 := Lib.hid (show Blk (w1.alloc (.cells #[.int .i64 v] 3)) w1.heap.size 3 [.int .i64 v] from Blk.new _ _ [_])
             have HL48 := Lib.hid (HL2.out.quiet hx)
             have HK49 := Lib.hid (HK3.out.below hx HK3.out.lt)
             have KN53 := Lib.hid (KN4.out.below hx KN4.out.lt)
             generalize w1.alloc (.cells #[.int .i64 v] 3) = w47 at KN50 HL48 HK49 KN53 ⊢
             have hA51 := (show w47.cell? ⟨b, 0, none⟩ = some (.int .i64 np) ∧ w47.cell? ⟨b, 1, none⟩ = some (.int .i64 ns) from ⟨HK49.out.cell (j := 0) rfl, HK49.out.cell (j := 1) rfl⟩)
             have hB52 := HXC.out w47 _ _ _ HL48.out
             clear hx
             (refine hK _ _ ⟨hA51, fun _ => hB52⟩ ?_; clear hK K; (try simp only [Act.put, List.setIfInBounds_toArray, List.set_cons_zero, List.set_cons_succ]))
             refine uOne (i := 3) rfl (by kernel_rfl) (fun K hK => ?_)
             have hsz3 := HL48.out.bld.lt
             refine step_pushL w47 [.int .i64 np, .int .i64 ns] (by rfl) (.tmp 107) (.tmp 109) 37 (by rfl) (w0.heap.size + 1) 45 (.agg #[.int .i64 0, .int .i64 0]) 2 16 Tryz.underlying37 p2_info (by rfl) (by decide) (by rfl) (.slice (some ad2) nt pc) nt _ (by rfl) HL48.out.own wd.heap.size 45 (by rfl) KN53.out (fun u hu => by simp at hu; rcases hu with rfl | rfl <;> rfl) (by omega) (by omega) hsz3 ?_
             intro P59 pc60 w54 ho3 hg3
             have HL55 := Lib.hid (HL48.out.pair (t := [np, ns]) rfl ho3 hg3)
             have HK56 := Lib.hid (HK49.out.kept hg3 (fun e => HNL.out _ e.symm rfl))
             have KN61 := Lib.hid (KN50.out.kept hg3 (blk_ne_own HL48.out.own KN50.out (by decide)))
             have hA57 := (show w54.cell? ⟨b, 0, none⟩ = some (.int .i64 np) ∧ w54.cell? ⟨b, 1, none⟩ = some (.int .i64 ns) from ⟨HK56.out.cell (j := 0) rfl, HK56.out.cell (j := 1) rfl⟩)
             have hB58 := HXC.out w54 _ _ _ HL55.out
             clear ho3 hg3 hsz3
             (refine hK _ _ ⟨hA57, fun _ => hB58⟩ ?_; clear hK K; (try simp only [Act.put, List.setIfInBounds_toArray, List.set_cons_zero, List.set_cons_succ]))
             refine uOne (i := 9) rfl (by kernel_rfl) (fun K hK => ?_)
             have HCL := Lib.hid (slices_Clone_n XA xc nx xl w54 HNX.out (HXR.out w54 _ _ _ HL55.out) (by omega))
             go_simp
             go_at_call 31
             refine HCL.out.mono ?_
             rintro e w62 ⟨v70, rfl, ho9, hb9⟩
             rw [HNX.out] at ho9
             obtain ⟨Q66, qc67, rfl⟩ := own_shape ho9
             have HL63 := Lib.hid (HL55.out.quiet hb9)
             have HK64 := Lib.hid (HK56.out.below hb9 HK56.out.lt)
             have HB68 := Lib.hid hb9
             have HO69 := Lib.hid ho9
             have KN71 := Lib.hid (KN61.out.below hb9 KN61.out.lt)
             have hA65 := (show w62.cell? ⟨b, 0, none⟩ = some (.int .i64 np) ∧ w62.cell? ⟨b, 1, none⟩ = some (.int .i64 ns) from ⟨HK64.out.cell (j := 0) rfl, HK64.out.cell (j := 1) rfl⟩)
             clear hb9 ho9 HCL
             (refine hK _ _ ⟨hA65, fun h => absurd (h.symm.trans (by kernel_rfl : _ = true)) Bool.false_ne_true⟩ ?_; clear hK K; (try simp only [Act.put, List.setIfInBounds_toArray, List.set_cons_zero, List.set_cons_succ]))
             refine uOne (i := 12) rfl (by kernel_rfl) (fun K hK => ?_)
             have hsz9 := HB68.out.size
             refine step_pushL w62 [.int .i64 v] (by rfl) (.tmp 116) (.tmp 118) 30 (by rfl) w54.heap.size 3 (.int .i64 0) 1 8 Tryz.underlying30 int_info (by rfl) (by decide) (by rfl) (.slice Q66 nx qc67) nx _ (by rfl) HO69.out w1.heap.size 3 (by rfl) KN71.out (fun u hu => by simp at hu; subst hu; rfl) (by omega) (by omega) hsz9 ?_
             intro A12 c12 w12 ho12 hg12
             have HB12 := Lib.hid (HB68.out.grown hg12 HB68.out.size (fun j hj => (HO69.out.lt j hj).1))
             have HL12 := Lib.hid (HL55.out.quiet HB12.out)
             have HK12 := Lib.hid (HK56.out.below HB12.out HK56.out.lt)
             have HO12 := Lib.hid (show w12.ownsRow w54.heap.size 3 1 (.slice A12 (nx + 1) c12) (nx + 1) (iv (xl ++ [v])) from by rw [iv_append]; exact ho12)
             have HNE := Lib.hid (fresh_ne HO12.out (Nat.le_refl _) HL55.out.bld.mrk)
             have hA12 := (show w12.cell? ⟨b, 0, none⟩ = some (.int .i64 np) ∧ w12.cell? ⟨b, 1, none⟩ = some (.int .i64 ns) from ⟨HK12.out.cell (j := 0) rfl, HK12.out.cell (j := 1) rfl⟩)
             clear ho12 hg12 hsz9
             (refine hK _ _ ⟨hA12, fun h => absurd (h.symm.trans (by kernel_rfl : _ = true)) Bool.false_ne_true⟩ ?_; clear hK K; (try simp only [Act.put, List.setIfInBounds_toArray, List.set_cons_zero, List.set_cons_succ]))
             refine uOne (i := 13) rfl (by kernel_rfl) (fun K hK => ?_)
             go_simp
             have hx := box_below w12 (.cells #[.slice A12 (nx + 1) c12] 30)
             have HK13 := Lib.hid (show Blk (w12.alloc (.cells #[.slice A12 (nx + 1) c12] 30)) w12.heap.size 30 [.slice A12 (nx + 1) c12] from Blk.new _ _ [_])
             have HL13 := Lib.hid (HL12.out.quiet hx)
             have HKb13 := Lib.hid (HK12.out.below hx HK12.out.lt)
             have HO13 := Lib.hid (own_base (base := w0.heap.size + 1) (own_below HO12.out hx) (by have := HL55.out.bld.lt; omega))
             generalize w12.alloc (.cells #[.slice A12 (nx + 1) c12] 30) = w13 at HK13 HL13 HKb13 HO13 ⊢
             have hA13 := (show w13.cell? ⟨b, 0, none⟩ = some (.int .i64 np) ∧ w13.cell? ⟨b, 1, none⟩ = some (.int .i64 ns) from ⟨HKb13.out.cell (j := 0) rfl, HKb13.out.cell (j := 1) rfl⟩)
             clear hx
             (refine hK _ _ ⟨hA13, fun h => absurd (h.symm.trans (by kernel_rfl : _ = true)) Bool.false_ne_true⟩ ?_; clear hK K; (try simp only [Act.put, List.setIfInBounds_toArray, List.set_cons_zero, List.set_cons_succ]))
             have HSV := Lib.hid (show SlV.v ⟨A12, c12, xl ++ [v]⟩ = .slice A12 (nx + 1) c12 by unfold SlV.v; rw [List.length_append, HNX.out]; rfl)
             have HLE := Lib.hid (show (xl ++ [v]).length = nx + 1 by rw [List.length_append, HNX.out]; rfl)
             refine uOne (i := 14) rfl (by kernel_rfl) (fun K hK => ?_)
             have hsz13 := HL13.out.bld.lt
             refine step_pushL w13 [.slice A12 (nx + 1) c12] (by rfl) (.tmp 111) (.tmp 120) 52 (by rfl) (w0.heap.size + 1) 30 (.slice none 0 0) 1 24 Tryz.underlying52 words_info (by rfl) (by decide) (by rfl) (.slice (some wda) nt wc9) nt _ (by rfl) HL13.out.wow w12.heap.size 30 (by rfl) HK13.out (fun u hu => by simp at hu; subst hu; rfl) (by omega) (by omega) hsz13 ?_
             intro A14 c14 w14 ho14 hg14
             have HL14 := Lib.hid (HL13.out.word (x := ⟨A12, c12, xl ++ [v]⟩) (by rw [HSV.out, HLE.out]; exact HO13.out) (by rw [HSV.out]; exact HNE.out) (by rw [HSV.out]; exact ho14) hg14)
             have HKb14 := Lib.hid (HKb13.out.kept hg14 (blk_ne_own HL13.out.wow HKb13.out (by decide)))
             have hA14 := (show w14.cell? ⟨b, 0, none⟩ = some (.int .i64 np) ∧ w14.cell? ⟨b, 1, none⟩ = some (.int .i64 ns) from ⟨HKb14.out.cell (j := 0) rfl, HKb14.out.cell (j := 1) rfl⟩)
             rw [← HSE1.out] at HL14
             clear ho14 hg14 hsz13
             (refine hK _ _ ⟨hA14, fun h => absurd (h.symm.trans (by kernel_rfl : _ = true)) Bool.false_ne_true⟩ ?_; clear hK K; (try simp only [Act.put, List.setIfInBounds_toArray, List.set_cons_zero, List.set_cons_succ]))
             refine uOne (i := 15) rfl (by kernel_rfl) (fun K hK => ?_)
             go_simp
             (refine hK _ _ ⟨hA14, fun h => absurd (h.symm.trans (by kernel_rfl : _ = true)) Bool.false_ne_true⟩ ?_; clear hK K; (try simp only [Act.put, List.setIfInBounds_toArray, List.set_cons_zero, List.set_cons_succ]))
             refine uOne (i := 16) rfl (by kernel_rfl) (fun K hK => ?_)
             go_simp
             (refine hK _ _ ⟨hA14, fun h => absurd (h.symm.trans (by kernel_rfl : _ = true)) Bool.false_ne_true⟩ ?_; clear hK K; (try simp only [Act.put, List.setIfInBounds_toArray, List.set_cons_zero, List.set_cons_succ]))
             refine anyU_done (by kernel_rfl) ?_ _
             go_wp2_with fail
             go_meet
             case rel => exact ⟨nt + 1, P59, pc60, A14, c14, _, nt, rfl, rfl, rfl, by have := HIN.out; omega, HNT.out, HL14, HSE2, Lib.hid ⟨HWDN.out.1, HWDN.out.2 _ (by simp)⟩⟩
           ·skip
            go_simp
            have hx := box_below wd (.cells #[.int .i64 v] 3)
            have KN75 := Lib.hid (show Blk (wd.alloc (.cells #[.int .i64 v] 3)) wd.heap.size 3 [.int .i64 v] from Blk.new _ _ [_])
            have HL73 := Lib.hid (HLD.out.quiet hx)
            have HK74 := Lib.hid (HKD.out.below hx HKD.out.lt)
            generalize wd.alloc (.cells #[.int .i64 v] 3) = w72 at KN75 HL73 HK74 ⊢
            have hA76 := (show w72.cell? ⟨b, 0, none⟩ = some (.int .i64 np) ∧ w72.cell? ⟨b, 1, none⟩ = some (.int .i64 ns) from ⟨HK74.out.cell (j := 0) rfl, HK74.out.cell (j := 1) rfl⟩)
            have hB77 := HXC.out w72 _ _ _ HL73.out
            clear hx
            (refine hK _ _ ⟨hA76, fun _ => hB77⟩ ?_; clear hK K; (try simp only [Act.put, List.setIfInBounds_toArray, List.set_cons_zero, List.set_cons_succ]))
            refine uOne (i := 2) rfl (by kernel_rfl) (fun K hK => ?_)
            go_simp
            have hx := box_below w72 (.cells #[.int .i64 np, .int .i64 ns] 45)
            have KN81 := Lib.hid (show Blk (w72.alloc (.cells #[.int .i64 np, .int .i64 ns] 45)) w72.heap.size 45 [.int .i64 np, .int .i64 ns] from Blk.new _ _ [_, _])
            have HL79 := Lib.hid (HL73.out.quiet hx)
            have HK80 := Lib.hid (HK74.out.below hx HK74.out.lt)
            have KN84 := Lib.hid (KN75.out.below hx KN75.out.lt)
            generalize w72.alloc (.cells #[.int .i64 np, .int .i64 ns] 45) = w78 at KN81 HL79 HK80 KN84 ⊢
            have hA82 := (show w78.cell? ⟨b, 0, none⟩ = some (.int .i64 np) ∧ w78.cell? ⟨b, 1, none⟩ = some (.int .i64 ns) from ⟨HK80.out.cell (j := 0) rfl, HK80.out.cell (j := 1) rfl⟩)
            have hB83 := HXC.out w78 _ _ _ HL79.out
            clear hx
            (refine hK _ _ ⟨hA82, fun _ => hB83⟩ ?_; clear hK K; (try simp only [Act.put, List.setIfInBounds_toArray, List.set_cons_zero, List.set_cons_succ]))
            refine uOne (i := 3) rfl (by kernel_rfl) (fun K hK => ?_)
            have hsz3 := HL79.out.bld.lt
            refine step_pushL w78 [.int .i64 np, .int .i64 ns] (by rfl) (.tmp 107) (.tmp 109) 37 (by rfl) (w0.heap.size + 1) 45 (.agg #[.int .i64 0, .int .i64 0]) 2 16 Tryz.underlying37 p2_info (by rfl) (by decide) (by rfl) (.slice (some ad2) nt pc) nt _ (by rfl) HL79.out.own w72.heap.size 45 (by rfl) KN81.out (fun u hu => by simp at hu; rcases hu with rfl | rfl <;> rfl) (by omega) (by omega) hsz3 ?_
            intro P90 pc91 w85 ho3 hg3
            have HL86 := Lib.hid (HL79.out.pair (t := [np, ns]) rfl ho3 hg3)
            have HK87 := Lib.hid (HK80.out.kept hg3 (fun e => HNL.out _ e.symm rfl))
            have KN92 := Lib.hid (KN84.out.kept hg3 (blk_ne_own HL79.out.own KN84.out (by decide)))
            have hA88 := (show w85.cell? ⟨b, 0, none⟩ = some (.int .i64 np) ∧ w85.cell? ⟨b, 1, none⟩ = some (.int .i64 ns) from ⟨HK87.out.cell (j := 0) rfl, HK87.out.cell (j := 1) rfl⟩)
            have hB89 := HXC.out w85 _ _ _ HL86.out
            clear ho3 hg3 hsz3
            (refine hK _ _ ⟨hA88, fun _ => hB89⟩ ?_; clear hK K; (try simp only [Act.put, List.setIfInBounds_toArray, List.set_cons_zero, List.set_cons_succ]))
            refine uOne (i := 9) rfl (by kernel_rfl) (fun K hK => ?_)
            have HCL := Lib.hid (slices_Clone_n XA xc nx xl w85 HNX.out (HXR.out w85 _ _ _ HL86.out) (by omega))
            go_simp
            go_at_call 31
            refine HCL.out.mono ?_
            rintro e w93 ⟨v101, rfl, ho9, hb9⟩
            rw [HNX.out] at ho9
            obtain ⟨Q97, qc98, rfl⟩ := own_shape ho9
            have HL94 := Lib.hid (HL86.out.quiet hb9)
            have HK95 := Lib.hid (HK87.out.below hb9 HK87.out.lt)
            have HB99 := Lib.hid hb9
            have HO100 := Lib.hid ho9
            have KN102 := Lib.hid (KN92.out.below hb9 KN92.out.lt)
            have hA96 := (show w93.cell? ⟨b, 0, none⟩ = some (.int .i64 np) ∧ w93.cell? ⟨b, 1, none⟩ = some (.int .i64 ns) from ⟨HK95.out.cell (j := 0) rfl, HK95.out.cell (j := 1) rfl⟩)
            clear hb9 ho9 HCL
            (refine hK _ _ ⟨hA96, fun h => absurd (h.symm.trans (by kernel_rfl : _ = true)) Bool.false_ne_true⟩ ?_; clear hK K; (try simp only [Act.put, List.setIfInBounds_toArray, List.set_cons_zero, List.set_cons_succ]))
            refine uOne (i := 12) rfl (by kernel_rfl) (fun K hK => ?_)
            have hsz9 := HB99.out.size
            refine step_pushL w93 [.int .i64 v] (by rfl) (.tmp 116) (.tmp 118) 30 (by rfl) w85.heap.size 3 (.int .i64 0) 1 8 Tryz.underlying30 int_info (by rfl) (by decide) (by rfl) (.slice Q97 nx qc98) nx _ (by rfl) HO100.out wd.heap.size 3 (by rfl) KN102.out (fun u hu => by simp at hu; subst hu; rfl) (by omega) (by omega) hsz9 ?_
            intro A12 c12 w12 ho12 hg12
            have HB12 := Lib.hid (HB99.out.grown hg12 HB99.out.size (fun j hj => (HO100.out.lt j hj).1))
            have HL12 := Lib.hid (HL86.out.quiet HB12.out)
            have HK12 := Lib.hid (HK87.out.below HB12.out HK87.out.lt)
            have HO12 := Lib.hid (show w12.ownsRow w85.heap.size 3 1 (.slice A12 (nx + 1) c12) (nx + 1) (iv (xl ++ [v])) from by rw [iv_append]; exact ho12)
            have HNE := Lib.hid (fresh_ne HO12.out (Nat.le_refl _) HL86.out.bld.mrk)
            have hA12 := (show w12.cell? ⟨b, 0, none⟩ = some (.int .i64 np) ∧ w12.cell? ⟨b, 1, none⟩ = some (.int .i64 ns) from ⟨HK12.out.cell (j := 0) rfl, HK12.out.cell (j := 1) rfl⟩)
            clear ho12 hg12 hsz9
            (refine hK _ _ ⟨hA12, fun h => absurd (h.symm.trans (by kernel_rfl : _ = true)) Bool.false_ne_true⟩ ?_; clear hK K; (try simp only [Act.put, List.setIfInBounds_toArray, List.set_cons_zero, List.set_cons_succ]))
            refine uOne (i := 13) rfl (by kernel_rfl) (fun K hK => ?_)
            go_simp
            have hx := box_below w12 (.cells #[.slice A12 (nx + 1) c12] 30)
            have HK13 := Lib.hid (show Blk (w12.alloc (.cells #[.slice A12 (nx + 1) c12] 30)) w12.heap.size 30 [.slice A12 (nx + 1) c12] from Blk.new _ _ [_])
            have HL13 := Lib.hid (HL12.out.quiet hx)
            have HKb13 := Lib.hid (HK12.out.below hx HK12.out.lt)
            have HO13 := Lib.hid (own_base (base := w0.heap.size + 1) (own_below HO12.out hx) (by have := HL86.out.bld.lt; omega))
            generalize w12.alloc (.cells #[.slice A12 (nx + 1) c12] 30) = w13 at HK13 HL13 HKb13 HO13 ⊢
            have hA13 := (show w13.cell? ⟨b, 0, none⟩ = some (.int .i64 np) ∧ w13.cell? ⟨b, 1, none⟩ = some (.int .i64 ns) from ⟨HKb13.out.cell (j := 0) rfl, HKb13.out.cell (j := 1) rfl⟩)
            clear hx
            (refine hK _ _ ⟨hA13, fun h => absurd (h.symm.trans (by kernel_rfl : _ = true)) Bool.false_ne_true⟩ ?_; clear hK K; (try simp only [Act.put, List.setIfInBounds_toArray, List.set_cons_zero, List.set_cons_succ]))
            have HSV := Lib.hid (show SlV.v ⟨A12, c12, xl ++ [v]⟩ = .slice A12 (nx + 1) c12 by unfold SlV.v; rw [List.length_append, HNX.out]; rfl)
            have HLE := Lib.hid (show (xl ++ [v]).length = nx + 1 by rw [List.length_append, HNX.out]; rfl)
            refine uOne (i := 14) rfl (by kernel_rfl) (fun K hK => ?_)
            have hsz13 := HL13.out.bld.lt
            refine step_pushL w13 [.slice A12 (nx + 1) c12] (by rfl) (.tmp 111) (.tmp 120) 52 (by rfl) (w0.heap.size + 1) 30 (.slice none 0 0) 1 24 Tryz.underlying52 words_info (by rfl) (by decide) (by rfl) (.slice (some wda) nt wc9) nt _ (by rfl) HL13.out.wow w12.heap.size 30 (by rfl) HK13.out (fun u hu => by simp at hu; subst hu; rfl) (by omega) (by omega) hsz13 ?_
            intro A14 c14 w14 ho14 hg14
            have HL14 := Lib.hid (HL13.out.word (x := ⟨A12, c12, xl ++ [v]⟩) (by rw [HSV.out, HLE.out]; exact HO13.out) (by rw [HSV.out]; exact HNE.out) (by rw [HSV.out]; exact ho14) hg14)
            have HKb14 := Lib.hid (HKb13.out.kept hg14 (blk_ne_own HL13.out.wow HKb13.out (by decide)))
            have hA14 := (show w14.cell? ⟨b, 0, none⟩ = some (.int .i64 np) ∧ w14.cell? ⟨b, 1, none⟩ = some (.int .i64 ns) from ⟨HKb14.out.cell (j := 0) rfl, HKb14.out.cell (j := 1) rfl⟩)
            rw [← HSE1.out] at HL14
            clear ho14 hg14 hsz13
            (refine hK _ _ ⟨hA14, fun h => absurd (h.symm.trans (by kernel_rfl : _ = true)) Bool.false_ne_true⟩ ?_; clear hK K; (try simp only [Act.put, List.setIfInBounds_toArray, List.set_cons_zero, List.set_cons_succ]))
            refine uOne (i := 15) rfl (by kernel_rfl) (fun K hK => ?_)
            go_simp
            (refine hK _ _ ⟨hA14, fun h => absurd (h.symm.trans (by kernel_rfl : _ = true)) Bool.false_ne_true⟩ ?_; clear hK K; (try simp only [Act.put, List.setIfInBounds_toArray, List.set_cons_zero, List.set_cons_succ]))
            refine uOne (i := 16) rfl (by kernel_rfl) (fun K hK => ?_)
            go_simp
            (refine hK _ _ ⟨hA14, fun h => absurd (h.symm.trans (by kernel_rfl : _ = true)) Bool.false_ne_true⟩ ?_; clear hK K; (try simp only [Act.put, List.setIfInBounds_toArray, List.set_cons_zero, List.set_cons_succ]))
            refine anyU_done (by kernel_rfl) ?_ _
            go_wp2_with fail
            go_meet
            case rel => exact ⟨nt + 1, P90, pc91, A14, c14, _, nt, rfl, rfl, rfl, by have := HIN.out; omega, HNT.out, HL14, HSE2, Lib.hid ⟨HWDN.out.1, HWDN.out.2 _ (by simp)⟩⟩
          ·have hk0 : ¬ idx z.ts [np, ns] < 0 := by rw [HKK.out]; exact hneg
           obtain ⟨m, rfl⟩ : ∃ m : Nat, kk = (m : Int) := ⟨kk.toNat, by omega⟩
           have hse : s1 = ⟨z.ts, z.es ++ [⟨i, v, (m : Int)⟩]⟩ := by
            have := HBE1.out
            rw [bsE_old HSTP.out hk0, HKK.out] at this
            injection this with this; exact this.symm
           have hmn : m < nt := by
            obtain ⟨m9, h1, h2⟩ := idx_yes (Classical.byContradiction fun hm => hk0 (idx_neg.2 hm))
            have := HKK.out; have := (List.getElem?_eq_some_iff.1 h2).1; have := HSI.out.tn; omega
           have HSE2 := Lib.hid (show s1.es = z.es ++ [⟨i, v, (m : Int)⟩] by rw [hse])
           have HFW2 := Lib.hid (show FstI nt s1.es ∧ ws.map SlV.l = wdsOf nt s1.es from by
            rw [hse]
            exact ⟨HFW.out.1.old (x := ⟨i, v, (m : Int)⟩) (by show (m : Int) < _; omega), by rw [wdsOf_old HFW.out.1]; exact HFW.out.2⟩)
           have HSI2 := HSI
           rw [show z.ts = s1.ts by rw [hse]] at HSI2
           clear hk0 hse
           go_wp2_with fail
           go_meet
           case rel => exact ⟨nt, some ad2, pc, WA, wc9, ws, m, rfl, rfl, rfl, hlt, hnt, HSI2, HSE2, HFW2⟩
         case rest =>
          obtain ⟨n2, A3, c3, A14, c14, ws2, k, rfl, rfl, rfl, hin2, hn24, HS4, HSE, HFW4⟩ := hcut
          have HRZ2 := Lib.hid (show bsC 4096 (stp [P, S]) (evs [P, S]) (4096 - i) i (bsF 4096 (stp [P, S]) i [x, y] ((evs [P, S]).drop (j + 1)) s1) = synS [P, S] by rw [← bsF_go HVE.out HBE1.out]; exact HRZ.out)
          have e3 : wc.cell? ⟨w0.heap.size, 3, none⟩ = some (.slice EA kf ec) := HS4.out.bld.blk.cell (j := 3) rfl
          have hbs : w0.heap.size + 1 ≤ wc.heap.size := HS4.out.bld.lt
          clear HSI HKI0 HBI0 HRZ HFW HFI
          go_wp2_with (at_builtin; refine wpList_pushA _ [.int .i64 (i : Int), .int .i64 v, .int .i64 (k : Int)] rfl (.tmp 123) (.tmp 128) 31 rfl (w0.heap.size + 1) 49 (.agg #[.int .i64 0, .int .i64 0, .int .i64 0]) 3 24 Tryz.underlying31 edge_info rfl (by decide) rfl (.slice EA kf ec) kf _ rfl HS4.out.bld.edg rfl (fun q hq => by simp at hq; rcases hq with rfl | rfl | rfl <;> rfl) (by omega) (by omega) hbs ?_; intro A9 c9 w9 ho9 hg9 hl9; have B9 := HS4.out.bld.blk.kept hg9 (own_lt_ne HS4.out.bld.edg (Nat.lt_succ_self _)); have e9 : w9.cell? ⟨w0.heap.size, 3, none⟩ = some (.slice EA kf ec) := B9.cell (j := 3) rfl; have f9 : w9.frozen? ⟨w0.heap.size, 3, none⟩ = false := B9.free 3; have l9 : w0.heap.size < w9.heap.size := B9.lt; have HS9 := Lib.hid (HS4.out.edge (x := ⟨i, v, (k : Int)⟩) ho9 hg9); clear ho9 hg9 hl9 B9)
          rw [← HSE.out] at HS9
          go_roundw
          case rel => exact ⟨j + 1, n2, kf + 1, _, _, _, _, _, _, ws2, s1, rfl, rfl, rfl, rfl, rfl, by go_num, by have := HIL.out; omega, hin2, hn24, by omega, HS9, HPX1, HFI1, HRZ2, HFW4⟩
          case measure => simp [intOf]; have := HIL.out; omega
       ·obtain rfl : j = na := by omega
        have hel : (evs [P, S]).length = j := by rw [HEV.out, HLA.out]
        have hFI := HFI.out
        rw [List.take_of_length_le (by rw [hel]; exact Nat.le_refl _)] at hFI
        have HB2 := Lib.hid hFI.leave
        have hRZ := HRZ.out
        rw [List.drop_of_length_le (by rw [hel]; exact Nat.le_refl _)] at hRZ
        have HRS3 := Lib.hid (show bsR 4096 (stp [P, S]) (evs [P, S]) (4097 - (i + 1)) (i + 1) z = synS [P, S] by rw [show 4097 - (i + 1) = 4096 - i by omega]; exact hRZ)
        have HMK3 := Lib.hid (show mk2 = mksN (mkT [P, S]) z.ts (i + 1) by rw [mksN_pre HPX.out (by have := HLS.out; omega)]; exact HMK2.out)
        have c1 : ¬ (j : Int) < (j : Int) := by omega
        clear hFI hRZ hel
        go_wp2
        go_roundw
        case rel => exact ⟨i + 1, nt, k2, kf, _, _, _, _, _, _, _, ws, z, mk2, rfl, rfl, by go_num, rfl, rfl, rfl, by omega, hnt, by omega, by omega, HS, HMK3, HB2, HRS3, HFW⟩
        case measure => simp [intOf]; omega
   ·obtain rfl : i = nt := by omega
    have HRESF := Lib.hid (show q = ⟨P.al, (i : Int), mk, s.es⟩ ∧ T = s.ts ∧ ws.map SlV.l = wdsOf i s.es from by
     have htl := HS.out.tn
     have hRS := HRS.out
     rw [bsR_end (by rw [htl]; omega), HSF.out.1] at hRS
     injection hRS with hRS
     subst hRS
     refine ⟨?_, HSF.out.2.1.symm, HFW.out.2⟩
     rw [HSF.out.2.2, HEV.out]
     unfold autOf
     rw [htl, ← HMK.out])
    have b1 : ¬ (i : Int) < (i : Int) := by omega
    obtain ⟨wo, hwo⟩ : ∃ wo, wo = wr := ⟨_, rfl⟩
    have htl := HS.out.tn
    have hkr := HKZ.out wr (HS.out.bld.bel)
    have hB := HBW.out.trans ((HS.out.bld.bel).mono HBW.out.size)
    have g0 := HS.out.bld.set1 (.int .i64 (i : Int))
    have f0 := hkr.free 0
    have f1 := hkr.free 1
    have f2 := hkr.free 2
    have f3 := hkr.free 3
    have e0 := hkr.cell (j := 0) rfl
    have e1 := hkr.cell (j := 1) rfl
    have e2 := hkr.cell (j := 2) rfl
    have e3 := hkr.cell (j := 3) rfl
    have l0 : w.heap.size + 1 < wr.heap.size := hkr.lt
    have o0 : wr.cell? ⟨w0.heap.size, 0, none⟩ = some (.slice (some adv) na ca) := HS.out.bld.blk.cell (j := 0) rfl
    have o1 : wr.cell? ⟨w0.heap.size, 1, none⟩ = some (.int .i64 0) := HS.out.bld.blk.cell (j := 1) rfl
    have o2 : wr.cell? ⟨w0.heap.size, 2, none⟩ = some (.slice MA km mc) := HS.out.bld.blk.cell (j := 2) rfl
    have o3 : wr.cell? ⟨w0.heap.size, 3, none⟩ = some (.slice EA ke ec) := HS.out.bld.blk.cell (j := 3) rfl
    have of1 : wr.frozen? ⟨w0.heap.size, 1, none⟩ = false := HS.out.bld.blk.free 1
    have ol : w0.heap.size < wr.heap.size := HS.out.bld.blk.lt
    have nn1 : ¬ w0.heap.size = w.heap.size + 1 := by have := SZ0.out; omega
    have nn2 : ¬ w.heap.size + 1 = w0.heap.size := by have := SZ0.out; omega
    have HRES := Lib.hid (HRESF.out : q = ⟨P.al, (i : Int), mk, s.es⟩ ∧ T = s.ts ∧ ws.map SlV.l = wdsOf i s.es)
    have HKR := Lib.hid hkr
    have HBF := Lib.hid hB
    have HTL := Lib.hid htl
    have HRA := Lib.hid ((HZK.out wr (HS.out.bld.bel)).p)
    clear hkr hB g0 htl
    go_wp2
    have hg1 := grown_setCell wr w0.heap.size 1 (.int .i64 (i : Int))
    have hrs' := HKR.out.kept hg1 (by intro e; injection e with e; omega)
    have hb3 := (((hrs'.set (j := 0) (by simp) (.slice (some adv) na ca)).set (j := 1) (by simp) (.int .i64 (i : Int))).set (j := 2) (by simp) (.slice MA km mc)).set (j := 3) (by simp) (.slice EA ke ec)
    have z0 := hb3.cell (j := 0) rfl
    have z1 := hb3.cell (j := 1) rfl
    have z2 := hb3.cell (j := 2) rfl
    have z3 := hb3.cell (j := 3) rfl
    refine bodyPost_ret (v := .tuple #[.agg #[.slice (some adv) na ca, .int .i64 (i : Int), .slice MA km mc, .slice EA ke ec], .slice PA i pc, .slice WA i wc9]) (by simp [results, Tryz.results17, go_sem, z0, z1, z2, z3]) rfl ?_
    have hg5 := (((grown_setCell (wr.setCell ⟨w0.heap.size, 1, none⟩ (.int .i64 (i : Int))) (w.heap.size + 1) 0 (.slice (some adv) na ca)).trans (grown_setCell _ (w.heap.size + 1) 1 (.int .i64 (i : Int)))).trans (grown_setCell _ (w.heap.size + 1) 2 (.slice MA km mc))).trans (grown_setCell _ (w.heap.size + 1) 3 (.slice EA ke ec))
    have hBf := (HBF.out.grown hg1 HBF.out.size (fun j hj => by injection hj with hj; have := SZ0.out; omega)).grown hg5 (by have := hg1.size; have := HBF.out.size; omega) (fun j hj => by injection hj with hj; omega)
    have k1 : ∀ {e : TypeId} {size n : Nat} {v : Value} {xs : List Value}, wr.ownsRow (w0.heap.size + 1) e size v n xs → _ := fun {e size n v xs} (h : wr.ownsRow (w0.heap.size + 1) e size v n xs) => own_kept_low (own_kept_low h hg1 (Nat.lt_succ_self _)) hg5 (by have := SZ0.out; omega)
    obtain ⟨r1, r2, r3⟩ := HRES.out
    have kE := k1 HS.out.bld.edg
    have kM := k1 HS.out.bld.mrk
    have kP := k1 HS.out.own
    have kW := k1 HS.out.wow
    refine ⟨⟨some adv, na, ca, MA, km, mc, EA, ke, ec, q⟩, PA, i, pc, WA, wc9, ws, by rw [r1], rfl, ?_, ?_, by rw [r2]; exact HTL.out, (cap_of_own kP).1, (cap_of_own kP).2, ⟨RdV.of_own kW, fun x hx => ?_⟩, by rw [r3, r1], (cap_of_own kW).1, (cap_of_own kW).2, hBf⟩
    ·rw [r1]
     have hra := HRA.out
     refine ⟨hra.la, hra.ac, hra.cA, ?_, HS.out.bld.mkl, (own_cap' kM).1, (own_cap' kM).2, RdI.of_own kM, HS.out.bld.edl, (own_cap' kE).1, (own_cap' kE).2, RdR.of_own (by omega) (fun _ _ => rfl) kE⟩
     exact ((h.p.ra.below hBf).more hBf.size)
    ·rw [r2]; exact RdR.of_own (by omega) (iv_two HS.out.two) kP
    ·have kx := k1 (HS.out.wds x hx).1
     exact ⟨RdI.of_own kx, (own_cap' kx).1, (own_cap' kx).2⟩
 ·have HNS := Lib.hid (show noSt [P, S] = true from by
   rw [noSt_two, HSP.out, HSS.out]
   have := HPR.out.wp.st0; have := HPR.out.wr.st0; have := HSP.out; have := HSS.out
   by_cases h1 : sp = 0
   ·rw [decide_eq_true h1]; rfl
   ·rw [decide_eq_true (show ss = 0 by omega)]; simp)
  have HRE := Lib.hid (show q = ⟨P.al, ((0 : Nat) : Int), [], []⟩ ∧ T = [] from by
   have := HPR.out.syn
   unfold synR at this
   rw [if_pos HNS.out, HEV.out] at this
   simp only [Option.some.injEq, Prod.mk.injEq] at this
   exact ⟨this.1.symm, this.2.symm⟩)
  have HFN := Lib.hid (show sp > 0 → ss > 0 → False from fun h1 h2 => hpos ⟨h1, h2⟩)
  have HLX := Lib.hid (show ∃ (i km ke mc ec pc wc9 : Nat) (PA WA MA EA : Option Addr) (ws : List SlV) (mk : List Int), i = 0 ∧ Value.slice none 0 0 = Value.slice PA i pc ∧ Value.slice none 0 0 = Value.slice WA i wc9 ∧ Hid (LoS w0 w1 (.slice (some adv) na ca) (.slice MA km mc) (.slice EA ke ec) (.slice PA i pc) (.slice WA i wc9) km ke i i [] ws [] mk) ∧ Hid (q = ⟨P.al, (i : Int), mk, []⟩ ∧ T = [] ∧ ws.map SlV.l = wdsOf i []) from
   ⟨0, 0, 0, 0, 0, 0, 0, none, none, none, none, [], [], rfl, rfl, rfl, HLS, Lib.hid ⟨HRE.out.1, HRE.out.2, rfl⟩⟩)
  clear HLS HRE HNS
  by_cases h1 : 0 < sp
  ·have h2 : ¬ 0 < ss := fun h2 => hpos ⟨h1, h2⟩
   clear hpos HFN
   go_wp2
   go_loopw [6, 7, 8, 10, 11, 12] (fun s6 s7 s8 s10 s11 s12 wr => ∃ (i km ke mc ec pc wc9 : Nat) (PA WA MA EA : Option Addr) (v10 v11 v12 : Value) (ws : List SlV) (mk : List Int), s6 = .slice PA i pc ∧ s7 = .slice WA i wc9 ∧ s8 = .int .i64 i ∧ s10 = v10 ∧ s11 = v11 ∧ s12 = v12 ∧ Hid (LoS w0 wr (.slice (some adv) na ca) (.slice MA km mc) (.slice EA ke ec) (.slice PA i pc) (.slice WA i wc9) km ke i i [] ws [] mk) ∧ Hid (q = ⟨P.al, (i : Int), mk, []⟩ ∧ T = [] ∧ ws.map SlV.l = wdsOf i [])) (fun _ _ s8 _ _ _ _ => (intOf s8).toNat)
   case atStart =>
    obtain ⟨i, km, ke, mc, ec, pc, wc9, PA, WA, MA, EA, ws, mk, h0, h6, h7, h8, h9⟩ := HLX.out
    exact ⟨i, km, ke, mc, ec, pc, wc9, PA, WA, MA, EA, _, _, _, ws, mk, h6, h7, by rw [h0]; rfl, rfl, rfl, rfl, h8, h9⟩
   case round =>
    clear HLX
    obtain ⟨i, km, ke, mc, ec, pc, wc9, PA, WA, MA, EA, v10, v11, v12, ws, mk, rfl, rfl, rfl, rfl, rfl, rfl, HS, HRESF⟩ := hrel
    have b1 : ¬ (i : Int) < (i : Int) := by omega
    have htl := HS.out.tn
    have hkr := HKZ.out wr (HS.out.bld.bel)
    have hB := HBW.out.trans ((HS.out.bld.bel).mono HBW.out.size)
    have g0 := HS.out.bld.set1 (.int .i64 (i : Int))
    have f0 := hkr.free 0
    have f1 := hkr.free 1
    have f2 := hkr.free 2
    have f3 := hkr.free 3
    have e0 := hkr.cell (j := 0) rfl
    have e1 := hkr.cell (j := 1) rfl
    have e2 := hkr.cell (j := 2) rfl
    have e3 := hkr.cell (j := 3) rfl
    have l0 : w.heap.size + 1 < wr.heap.size := hkr.lt
    have o0 : wr.cell? ⟨w0.heap.size, 0, none⟩ = some (.slice (some adv) na ca) := HS.out.bld.blk.cell (j := 0) rfl
    have o1 : wr.cell? ⟨w0.heap.size, 1, none⟩ = some (.int .i64 0) := HS.out.bld.blk.cell (j := 1) rfl
    have o2 : wr.cell? ⟨w0.heap.size, 2, none⟩ = some (.slice MA km mc) := HS.out.bld.blk.cell (j := 2) rfl
    have o3 : wr.cell? ⟨w0.heap.size, 3, none⟩ = some (.slice EA ke ec) := HS.out.bld.blk.cell (j := 3) rfl
    have of1 : wr.frozen? ⟨w0.heap.size, 1, none⟩ = false := HS.out.bld.blk.free 1
    have ol : w0.heap.size < wr.heap.size := HS.out.bld.blk.lt
    have nn1 : ¬ w0.heap.size = w.heap.size + 1 := by have := SZ0.out; omega
    have nn2 : ¬ w.heap.size + 1 = w0.heap.size := by have := SZ0.out; omega
    have HRES := Lib.hid (HRESF.out : q = ⟨P.al, (i : Int), mk, []⟩ ∧ T = [] ∧ ws.map SlV.l = wdsOf i [])
    have HKR := Lib.hid hkr
    have HBF := Lib.hid hB
    have HTL := Lib.hid htl
    have HRA := Lib.hid ((HZK.out wr (HS.out.bld.bel)).p)
    clear hkr hB g0 htl
    go_wp2
    have hg1 := grown_setCell wr w0.heap.size 1 (.int .i64 (i : Int))
    have hrs' := HKR.out.kept hg1 (by intro e; injection e with e; omega)
    have hb3 := (((hrs'.set (j := 0) (by simp) (.slice (some adv) na ca)).set (j := 1) (by simp) (.int .i64 (i : Int))).set (j := 2) (by simp) (.slice MA km mc)).set (j := 3) (by simp) (.slice EA ke ec)
    have z0 := hb3.cell (j := 0) rfl
    have z1 := hb3.cell (j := 1) rfl
    have z2 := hb3.cell (j := 2) rfl
    have z3 := hb3.cell (j := 3) rfl
    refine bodyPost_ret (v := .tuple #[.agg #[.slice (some adv) na ca, .int .i64 (i : Int), .slice MA km mc, .slice EA ke ec], .slice PA i pc, .slice WA i wc9]) (by simp [results, Tryz.results17, go_sem, z0, z1, z2, z3]) rfl ?_
    have hg5 := (((grown_setCell (wr.setCell ⟨w0.heap.size, 1, none⟩ (.int .i64 (i : Int))) (w.heap.size + 1) 0 (.slice (some adv) na ca)).trans (grown_setCell _ (w.heap.size + 1) 1 (.int .i64 (i : Int)))).trans (grown_setCell _ (w.heap.size + 1) 2 (.slice MA km mc))).trans (grown_setCell _ (w.heap.size + 1) 3 (.slice EA ke ec))
    have hBf := (HBF.out.grown hg1 HBF.out.size (fun j hj => by injection hj with hj; have := SZ0.out; omega)).grown hg5 (by have := hg1.size; have := HBF.out.size; omega) (fun j hj => by injection hj with hj; omega)
    have k1 : ∀ {e : TypeId} {size n : Nat} {v : Value} {xs : List Value}, wr.ownsRow (w0.heap.size + 1) e size v n xs → _ := fun {e size n v xs} (h : wr.ownsRow (w0.heap.size + 1) e size v n xs) => own_kept_low (own_kept_low h hg1 (Nat.lt_succ_self _)) hg5 (by have := SZ0.out; omega)
    obtain ⟨r1, r2, r3⟩ := HRES.out
    have kE := k1 HS.out.bld.edg
    have kM := k1 HS.out.bld.mrk
    have kP := k1 HS.out.own
    have kW := k1 HS.out.wow
    refine ⟨⟨some adv, na, ca, MA, km, mc, EA, ke, ec, q⟩, PA, i, pc, WA, wc9, ws, by rw [r1], rfl, ?_, ?_, by rw [r2]; exact HTL.out, (cap_of_own kP).1, (cap_of_own kP).2, ⟨RdV.of_own kW, fun x hx => ?_⟩, by rw [r3, r1], (cap_of_own kW).1, (cap_of_own kW).2, hBf⟩
    ·rw [r1]
     have hra := HRA.out
     refine ⟨hra.la, hra.ac, hra.cA, ?_, HS.out.bld.mkl, (own_cap' kM).1, (own_cap' kM).2, RdI.of_own kM, HS.out.bld.edl, (own_cap' kE).1, (own_cap' kE).2, RdR.of_own (by omega) (fun _ _ => rfl) kE⟩
     exact ((h.p.ra.below hBf).more hBf.size)
    ·rw [r2]; exact RdR.of_own (by omega) (iv_two HS.out.two) kP
    ·have kx := k1 (HS.out.wds x hx).1
     exact ⟨RdI.of_own kx, (own_cap' kx).1, (own_cap' kx).2⟩
  ·skip
   clear hpos HFN
   go_wp2
   go_loopw [6, 7, 8, 10, 11, 12] (fun s6 s7 s8 s10 s11 s12 wr => ∃ (i km ke mc ec pc wc9 : Nat) (PA WA MA EA : Option Addr) (v10 v11 v12 : Value) (ws : List SlV) (mk : List Int), s6 = .slice PA i pc ∧ s7 = .slice WA i wc9 ∧ s8 = .int .i64 i ∧ s10 = v10 ∧ s11 = v11 ∧ s12 = v12 ∧ Hid (LoS w0 wr (.slice (some adv) na ca) (.slice MA km mc) (.slice EA ke ec) (.slice PA i pc) (.slice WA i wc9) km ke i i [] ws [] mk) ∧ Hid (q = ⟨P.al, (i : Int), mk, []⟩ ∧ T = [] ∧ ws.map SlV.l = wdsOf i [])) (fun _ _ s8 _ _ _ _ => (intOf s8).toNat)
   case atStart =>
    obtain ⟨i, km, ke, mc, ec, pc, wc9, PA, WA, MA, EA, ws, mk, h0, h6, h7, h8, h9⟩ := HLX.out
    exact ⟨i, km, ke, mc, ec, pc, wc9, PA, WA, MA, EA, _, _, _, ws, mk, h6, h7, by rw [h0]; rfl, rfl, rfl, rfl, h8, h9⟩
   case round =>
    clear HLX
    obtain ⟨i, km, ke, mc, ec, pc, wc9, PA, WA, MA, EA, v10, v11, v12, ws, mk, rfl, rfl, rfl, rfl, rfl, rfl, HS, HRESF⟩ := hrel
    have b1 : ¬ (i : Int) < (i : Int) := by omega
    have htl := HS.out.tn
    have hkr := HKZ.out wr (HS.out.bld.bel)
    have hB := HBW.out.trans ((HS.out.bld.bel).mono HBW.out.size)
    have g0 := HS.out.bld.set1 (.int .i64 (i : Int))
    have f0 := hkr.free 0
    have f1 := hkr.free 1
    have f2 := hkr.free 2
    have f3 := hkr.free 3
    have e0 := hkr.cell (j := 0) rfl
    have e1 := hkr.cell (j := 1) rfl
    have e2 := hkr.cell (j := 2) rfl
    have e3 := hkr.cell (j := 3) rfl
    have l0 : w.heap.size + 1 < wr.heap.size := hkr.lt
    have o0 : wr.cell? ⟨w0.heap.size, 0, none⟩ = some (.slice (some adv) na ca) := HS.out.bld.blk.cell (j := 0) rfl
    have o1 : wr.cell? ⟨w0.heap.size, 1, none⟩ = some (.int .i64 0) := HS.out.bld.blk.cell (j := 1) rfl
    have o2 : wr.cell? ⟨w0.heap.size, 2, none⟩ = some (.slice MA km mc) := HS.out.bld.blk.cell (j := 2) rfl
    have o3 : wr.cell? ⟨w0.heap.size, 3, none⟩ = some (.slice EA ke ec) := HS.out.bld.blk.cell (j := 3) rfl
    have of1 : wr.frozen? ⟨w0.heap.size, 1, none⟩ = false := HS.out.bld.blk.free 1
    have ol : w0.heap.size < wr.heap.size := HS.out.bld.blk.lt
    have nn1 : ¬ w0.heap.size = w.heap.size + 1 := by have := SZ0.out; omega
    have nn2 : ¬ w.heap.size + 1 = w0.heap.size := by have := SZ0.out; omega
    have HRES := Lib.hid (HRESF.out : q = ⟨P.al, (i : Int), mk, []⟩ ∧ T = [] ∧ ws.map SlV.l = wdsOf i [])
    have HKR := Lib.hid hkr
    have HBF := Lib.hid hB
    have HTL := Lib.hid htl
    have HRA := Lib.hid ((HZK.out wr (HS.out.bld.bel)).p)
    clear hkr hB g0 htl
    go_wp2
    have hg1 := grown_setCell wr w0.heap.size 1 (.int .i64 (i : Int))
    have hrs' := HKR.out.kept hg1 (by intro e; injection e with e; omega)
    have hb3 := (((hrs'.set (j := 0) (by simp) (.slice (some adv) na ca)).set (j := 1) (by simp) (.int .i64 (i : Int))).set (j := 2) (by simp) (.slice MA km mc)).set (j := 3) (by simp) (.slice EA ke ec)
    have z0 := hb3.cell (j := 0) rfl
    have z1 := hb3.cell (j := 1) rfl
    have z2 := hb3.cell (j := 2) rfl
    have z3 := hb3.cell (j := 3) rfl
    refine bodyPost_ret (v := .tuple #[.agg #[.slice (some adv) na ca, .int .i64 (i : Int), .slice MA km mc, .slice EA ke ec], .slice PA i pc, .slice WA i wc9]) (by simp [results, Tryz.results17, go_sem, z0, z1, z2, z3]) rfl ?_
    have hg5 := (((grown_setCell (wr.setCell ⟨w0.heap.size, 1, none⟩ (.int .i64 (i : Int))) (w.heap.size + 1) 0 (.slice (some adv) na ca)).trans (grown_setCell _ (w.heap.size + 1) 1 (.int .i64 (i : Int)))).trans (grown_setCell _ (w.heap.size + 1) 2 (.slice MA km mc))).trans (grown_setCell _ (w.heap.size + 1) 3 (.slice EA ke ec))
    have hBf := (HBF.out.grown hg1 HBF.out.size (fun j hj => by injection hj with hj; have := SZ0.out; omega)).grown hg5 (by have := hg1.size; have := HBF.out.size; omega) (fun j hj => by injection hj with hj; omega)
    have k1 : ∀ {e : TypeId} {size n : Nat} {v : Value} {xs : List Value}, wr.ownsRow (w0.heap.size + 1) e size v n xs → _ := fun {e size n v xs} (h : wr.ownsRow (w0.heap.size + 1) e size v n xs) => own_kept_low (own_kept_low h hg1 (Nat.lt_succ_self _)) hg5 (by have := SZ0.out; omega)
    obtain ⟨r1, r2, r3⟩ := HRES.out
    have kE := k1 HS.out.bld.edg
    have kM := k1 HS.out.bld.mrk
    have kP := k1 HS.out.own
    have kW := k1 HS.out.wow
    refine ⟨⟨some adv, na, ca, MA, km, mc, EA, ke, ec, q⟩, PA, i, pc, WA, wc9, ws, by rw [r1], rfl, ?_, ?_, by rw [r2]; exact HTL.out, (cap_of_own kP).1, (cap_of_own kP).2, ⟨RdV.of_own kW, fun x hx => ?_⟩, by rw [r3, r1], (cap_of_own kW).1, (cap_of_own kW).2, hBf⟩
    ·rw [r1]
     have hra := HRA.out
     refine ⟨hra.la, hra.ac, hra.cA, ?_, HS.out.bld.mkl, (own_cap' kM).1, (own_cap' kM).2, RdI.of_own kM, HS.out.bld.edl, (own_cap' kE).1, (own_cap' kE).2, RdR.of_own (by omega) (fun _ _ => rfl) kE⟩
     exact ((h.p.ra.below hBf).more hBf.size)
    ·rw [r2]; exact RdR.of_own (by omega) (iv_two HS.out.two) kP
    ·have kx := k1 (HS.out.wds x hx).1
     exact ⟨RdI.of_own kx, (own_cap' kx).1, (own_cap' kx).2⟩
end Go.Proofs.YtioijhpbedmeaaaGreatDoor
