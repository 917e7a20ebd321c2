/- Walks: the law's infimal. -/
import Derived.Test.YtcchnibgehonoaaDoorDo
namespace Go.Proofs.YtcchnibgehonoaaDoor
open Go.RowKit Go Go.Maps

theorem inf_zero {P R p : Aut} {u : List Int} {T : List (List Int)} (h : Prob P R u p T) (hR0 : R.st = 0) : infA P R (intS u P.al) p = ⟨P.al, 0, [], []⟩ := by
 have hnp : noSt [P, R] = true := by unfold noSt; simp [hR0]
 have hs := h.syn
 unfold synR at hs
 rw [if_pos hnp] at hs
 injection hs with hs
 injection hs with hs _
 unfold infA infS
 rw [if_pos (by rw [← hs])]
 rfl
theorem compose_pairF (x y : AV) (b : Nat) (r : Aut) (T : List (List Int)) (w : World) (hb : w.heap.size = b) (hx : x.ok w w.heap.size) (hy : y.ok w w.heap.size) (hf : FewL [x.a, y.a]) (hr : synR [x.a, y.a] = some (r, T)) :
  Calls Tryd.prog 30 #[.slice (some ⟨b, 0, none⟩) 2 2] (w.alloc (.cells #[.slice x.A x.na x.ca, .int .i64 x.a.st, .slice x.M x.nm x.cm, .slice x.E x.ne x.ce, .slice y.A y.na y.ca, .int .i64 y.a.st, .slice y.M y.nm y.cm, .slice y.E y.ne y.ce] 25))
   fun e w' => ∃ z : AV, e = .returned (.tuple #[.agg #[.slice z.A z.na z.ca, .int .i64 z.a.st, .slice z.M z.nm z.cm, .slice z.E z.ne z.ce], .int .i64 0]) ∧ z.a = r ∧ z.ok w' w'.heap.size ∧ Below w.heap.size w w' := by
 subst hb
 have hb1 := box_below w (.cells #[.slice x.A x.na x.ca, .int .i64 x.a.st, .slice x.M x.nm x.cm, .slice x.E x.ne x.ce, .slice y.A y.na y.ca, .int .i64 y.a.st, .slice y.M y.nm y.cm, .slice y.E y.ne y.ce] 25)
 have hk : Blk (w.alloc (.cells #[.slice x.A x.na x.ca, .int .i64 x.a.st, .slice x.M x.nm x.cm, .slice x.E x.ne x.ce, .slice y.A y.na y.ca, .int .i64 y.a.st, .slice y.M y.nm y.cm, .slice y.E y.ne y.ce] 25)) w.heap.size 25 (avc x ++ avc y) := Blk.new w 25 (avc x ++ avc y)
 refine (compose_few _ 2 2 [x, y] r T _ rfl (two_rdl hk (AutR.more (AutR.below hx hb1) hb1.size) (AutR.more (AutR.below hy hb1) hb1.size)) (Nat.le_refl _) (by omega) hf hr).mono ?_
 rintro e w' ⟨hb2, A, na, ca, M, nm, cm, E, ne, ce, rfl, ha, _⟩
 exact ⟨⟨A, na, ca, M, nm, cm, E, ne, ce, r⟩, rfl, rfl, ha, hb1.trans (hb2.mono hb1.size)⟩
theorem wTo_low {R : Aut} {s v : Int} (h : ¬ (s < R.st ∧ hasB R.al v = true)) : wTo R s v = s := if_neg h
theorem wTo_neg {R : Aut} {s v : Int} (h : s < R.st ∧ hasB R.al v = true) (h2 : nxt R s v < 0) : wTo R s v = R.st := by unfold wTo; rw [if_pos h, if_pos h2]
theorem wTo_pos {R : Aut} {s v : Int} (h : s < R.st ∧ hasB R.al v = true) (h2 : ¬ nxt R s v < 0) : wTo R s v = nxt R s v := by unfold wTo; rw [if_pos h, if_neg h2]
theorem stW_to {R : Aut} {u : List Int} {s v t : Int} (h : wTo R s v = t) (h2 : t ≠ R.st ∨ hasB u v = true) : stW R u s v = some t := by
 unfold stW
 rw [h, if_neg]
 rintro ⟨g1, g2⟩
 rcases h2 with h2 | h2
 ·exact h2 g1
 ·rw [h2] at g2; cases g2
theorem stW_none {R : Aut} {u : List Int} {s v : Int} (h : wTo R s v = R.st) (h2 : hasB u v = false) : stW R u s v = none := by unfold stW; rw [if_pos ⟨h, h2⟩]

theorem Bld.edgs {w0 w : World} {v0 v1 mv ev : Value} {km ke : Nat} {mk : List Int} {es es' : List Ed} (h : Bld w0 w v0 v1 mv ev km ke mk es) (e : es = es') : Bld w0 w v0 v1 mv ev km ke mk es' := e ▸ h
set_option maxRecDepth 100000 in
set_option maxHeartbeats 6400000 in
theorem law_infimal (A M E A' M' E' : Option Addr) (na ca nm cm ne ce na' ca' nm' cm' ne' ce' : Nat) (P R : Aut) (U : Option Addr) (cu nu : Nat) (u : List Int) (w : World) (hx : AutR w w.heap.size A na ca M nm cm E ne ce P) (hy : AutR w w.heap.size A' na' ca' M' nm' cm' E' ne' ce' R)
  (hul : u.length = nu) (hu : RdI w w.heap.size U u) (hu1 : nu ≤ cu) (hu2 : cu ≤ 9223372036854775807) (p : Aut) (T : List (List Int)) (hp : Prob P R u p T) :
  Calls Tryd.prog 29 #[.agg #[.slice A na ca, .int .i64 P.st, .slice M nm cm, .slice E ne ce], .agg #[.slice A' na' ca', .int .i64 R.st, .slice M' nm' cm', .slice E' ne' ce'], .slice U nu cu] w (RetR (infA P R (intS u P.al) p) w) := by
 obtain ⟨sp, hsp⟩ : ∃ s, P.st = s := ⟨_, rfl⟩
 obtain ⟨n, hn⟩ : ∃ n : Nat, R.st = (n : Int) := ⟨R.st.toNat, by have := hp.wr.st0; omega⟩
 have hn6 : n ≤ 60 := by have := hp.sr; omega
 rw [hsp, hn]
 have hb1 := box_below w (.cells #[.slice A na ca, .int .i64 sp, .slice M nm cm, .slice E ne ce] 25)
 have hb2 := hb1.alloc hb1.size (.cells #[.slice A' na' ca', .int .i64 (n : Int), .slice M' nm' cm', .slice E' ne' ce'] 25)
 have hb3 := hb2.alloc hb2.size (.cells #[.slice none 0 0, .int .i64 0, .slice none 0 0, .slice none 0 0] 25)
 obtain ⟨w1, hw1⟩ : ∃ w1, w1 = (((w.alloc (.cells #[.slice A na ca, .int .i64 sp, .slice M nm cm, .slice E ne ce] 25)).alloc (.cells #[.slice A' na' ca', .int .i64 (n : Int), .slice M' nm' cm', .slice E' ne' ce'] 25)).alloc (.cells #[.slice none 0 0, .int .i64 0, .slice none 0 0, .slice none 0 0] 25)) := ⟨_, rfl⟩
 have k1 : Blk w1 w.heap.size 25 [.slice A na ca, .int .i64 sp, .slice M nm cm, .slice E ne ce] := by rw [hw1]; exact ((Blk.new _ _ [_, _, _, _]).al _).al _
 have k2 : Blk w1 (w.heap.size + 1) 25 [.slice A' na' ca', .int .i64 (n : Int), .slice M' nm' cm', .slice E' ne' ce'] := by rw [hw1]; exact (Blk.at_ _ _ [_, _, _, _] (by simp)).al _
 have kR : Blk w1 (w.heap.size + 2) 25 [.slice none 0 0, .int .i64 0, .slice none 0 0, .slice none 0 0] := by rw [hw1]; exact Blk.at_ _ _ [_, _, _, _] (by simp)
 have hs1 : w1.heap.size = w.heap.size + 3 := by rw [hw1]; simp
 rw [← hw1] at hb3
 have hx1 := (hx.below hb3).more hb3.size
 have hy1 := (hy.below hb3).more hb3.size
 have hu3 := (hu.below hb3).more hb3.size
 have HHAS := Lib.hid (fun (W : World) (hb : Below w1.heap.size w1 W) (x : Int) (q : Bool) (hq : hasB u x = q) => law_has U cu nu u x q W hul ((hu3.below hb).more hb.size) (by omega) hq)
 have HRAL := Lib.hid (fun (W : World) (hb : Below w1.heap.size w1 W) (x : Int) (q : Bool) (hq : hasB R.al x = q) => law_has A' ca' na' R.al x q W hy1.la ((hy1.ra.below hb).more hb.size) (by have := hy1.ac; have := hy1.cA; omega) hq)
 have HNXT := Lib.hid (fun (W : World) (hb : Below w1.heap.size w1 W) (s v : Int) => law_next A' na' ca' M' nm' cm' E' ne' ce' R s v W ((hy1.below hb).more hb.size))
 simp only [hn] at HNXT
 have hal := hp.wp.al_le
 rw [hx1.la] at hal
 have HW1 := Lib.hid hw1; clear hw1
 have HS1 := Lib.hid hs1; clear hs1
 have HB1 := Lib.hid hb3; clear hb3
 have K1 := Lib.hid k1; clear k1
 have K2 := Lib.hid k2; clear k2
 have KR := Lib.hid kR; clear kR
 have HSP := Lib.hid hsp; clear hsp
 have HN := Lib.hid hn; clear hn
 have HX := Lib.hid hx1; clear hx1
 have HX0 := Lib.hid hx; clear hx
 have HP := Lib.hid hp; clear hp
 clear hb1 hb2 hy hy1 hu hu3 hul
 go_enter Tryd.func29, Tryd.ntmps29
 go_upto_region 1 with fail
 rw [← HW1.out]
 have c1 := K2.out.cell (j := 1) rfl
 by_cases h0 : n = 0
 ·have b0 : (n : Int) = 0 := by omega
  have HA := Lib.hid (inf_zero HP.out (by rw [HN.out]; exact b0))
  have c0 := K1.out.cell (j := 0) rfl
  have f0 := KR.out.free 0
  have f1 := KR.out.free 1
  have f2 := KR.out.free 2
  have f3 := KR.out.free 3
  have e0 := KR.out.cell (j := 0) rfl
  have e1 := KR.out.cell (j := 1) rfl
  have e2 := KR.out.cell (j := 2) rfl
  have e3 := KR.out.cell (j := 3) rfl
  have l9 := KR.out.lt
  go_wp2
  have hb4 := KR.out.set4 (.slice A na ca) (.int .i64 0) (.slice none 0 0) (.slice none 0 0)
  have z0 := hb4.cell (j := 0) rfl
  have z1 := hb4.cell (j := 1) rfl
  have z2 := hb4.cell (j := 2) rfl
  have z3 := hb4.cell (j := 3) rfl
  have F := below_set4 (b := w.heap.size + 2) (v0 := .slice A na ca) (v1 := .int .i64 0) (v2 := .slice none 0 0) (v3 := .slice none 0 0) HB1.out (by omega)
  refine bodyPost_ret (v := .agg #[.slice A na ca, .int .i64 0, .slice none 0 0, .slice none 0 0]) (by simp [results, Tryd.results29, go_sem, z0, z1, z2, z3]) rfl ?_
  rw [HA.out]
  exact ⟨A, na, ca, none, 0, 0, none, 0, 0, rfl, ⟨HX.out.la, HX.out.ac, HX.out.cA, (HX0.out.ra.below F).more F.size, rfl, Nat.le_refl _, by omega, RdI.nil, rfl, Nat.le_refl _, by omega, RdX.nil⟩, F⟩
 ·have b0 : ((n : Int) == 0) = false := by simpa using (by omega : ¬ (n : Int) = 0)
  have c0 := K1.out.cell (j := 0) rfl
  have HC0 := Lib.hid (Bld.start w1 (.slice A na ca) (.int .i64 ((n : Int) + 1)))
  go_upto_region 4 with fail
  obtain ⟨w3, hw3⟩ : ∃ w3, w3 = w1.alloc (.cells #[.slice A na ca, .int .i64 ((n : Int) + 1), .slice none 0 0, .slice none 0 0] 25) := ⟨_, rfl⟩
  rw [← hw3] at HC0 ⊢
  clear hw3 c0 c1
  go_wp2
  go_loopw [8, 9, 10, 11] (fun s8 s9 s10 s11 wr => ∃ (k ke : Nat) (ev v9 v10 v11 : Value), s9 = v9 ∧ s10 = v10 ∧ s11 = v11 ∧ s8 = .int .i64 k ∧ k ≤ n + 1 ∧ ke ≤ k * 32 ∧ Hid (Bld w1 wr (.slice A na ca) (.int .i64 ((n : Int) + 1)) (.slice none 0 0) ev 0 ke [] (wEds R u P.al k))) (fun s8 _ _ _ _ => n + 1 - (intOf s8).toNat)
  case atStart => exact ⟨0, 0, _, _, _, _, rfl, rfl, rfl, rfl, Nat.zero_le _, Nat.le_refl _, HC0⟩
  case round =>
   clear HC0
   obtain ⟨k, ke, ev, v9, v10, v11, rfl, rfl, rfl, rfl, hk, hke, HC⟩ := hrel
   obtain ⟨EA, ec, rfl⟩ := own_shape HC.out.edg
   have d1 := HC.out.blk.cell (j := 1) rfl
   by_cases hlt : k < n + 1
   ·have b1 : (k : Int) < (n : Int) + 1 := by omega
    go_wp2
    clear d1
    have HC0 := Lib.hid (HC.out.edgs (show wEds R u P.al k = wEds R u P.al k ++ wRow R u (k : Int) (P.al.take 0) by simp [wRow]))
    go_loopw [9, 10, 11] (fun s9 s10 s11 wr => ∃ (j kf : Nat) (ev v10 v11 : Value), s10 = v10 ∧ s11 = v11 ∧ s9 = .int .i64 j ∧ j ≤ na ∧ kf ≤ k * 32 + j ∧ Hid (Bld w1 wr (.slice A na ca) (.int .i64 ((n : Int) + 1)) (.slice none 0 0) ev 0 kf [] (wEds R u P.al k ++ wRow R u (k : Int) (P.al.take j)))) (fun s9 _ _ _ => na - (intOf s9).toNat)
    case atStart => exact ⟨0, ke, _, _, _, rfl, rfl, rfl, Nat.zero_le _, by omega, HC0⟩
    case round =>
     clear HC HC0 b1 hke EA
     obtain ⟨j, kf, ev, v10, v11, rfl, rfl, rfl, hj, hkf, HC⟩ := hrel
     obtain ⟨EA, ec, rfl⟩ := own_shape HC.out.edg
     have c0 := (K1.out.below HC.out.bel K1.out.lt).cell (j := 0) rfl
     by_cases hjl : j < na
     ·obtain ⟨ad, y, hA, hyb, hye, hyc⟩ := HX.out.ra.at_ (k := j) (by rw [HX.out.la]; exact hjl)
      subst hA
      have b3 : (j : Int) < (na : Int) := by omega
      have hvc := (HC.out.bel.cell (p := ad.add j) (by rw [block_of_add]; exact hyb)).trans hyc
      have kR2 := K2.out.below HC.out.bel K2.out.lt
      have r0 := kR2.cell (j := 0) rfl
      have r1 := kR2.cell (j := 1) rfl
      have r2 := kR2.cell (j := 2) rfl
      have r3 := kR2.cell (j := 3) rfl
      have HYE := Lib.hid hye; clear hye
      clear hyc hyb kR2
      by_cases hkn : k < n
      ·have b4 : (k : Int) < (n : Int) := by omega
       obtain ⟨qr, hqr⟩ : ∃ q, hasB R.al y = q := ⟨_, rfl⟩
       have HR := Lib.hid (HRAL.out wr HC.out.bel y qr hqr)
       have HQR := Lib.hid hqr; clear hqr
       cases qr with
       | false =>
        have HTO := Lib.hid (wTo_low (R := R) (s := (k : Int)) (v := y) (by rw [HQR.out]; simp))
        go_wp2_with fail
        refine HR.out.mono ?_
        rintro e wx ⟨rfl, rfl⟩
        have b5 : ¬ (k : Int) < 0 := by omega
        have b6 : ¬ (k : Int) = (n : Int) := by omega
        clear HR
        have HSN := Lib.hid (wRow_yes (R := R) (u := u) (s := (k : Int)) HYE.out (stW_to (u := u) HTO.out (.inl (by rw [HN.out]; exact b6))))
        have o3 := HC.out.blk.cell (j := 3) rfl
        have hbs : w1.heap.size + 1 ≤ wr.heap.size := HC.out.blk.lt
        go_wp2_with (at_builtin; go_loud (refine wpList_pushA wr [.int .i64 (k : Int), .int .i64 y, .int .i64 (k : Int)] rfl (.tmp 76) (.tmp 81) 23 rfl (w1.heap.size + 1) 83 (.agg #[.int .i64 0, .int .i64 0, .int .i64 0]) 3 24 Tryd.underlying23 edge_info rfl (by decide) rfl (.slice EA kf ec) kf _ rfl HC.out.edg rfl (fun q hq => by simp at hq; rcases hq with rfl | rfl | rfl <;> rfl) (by omega) (by omega) hbs ?_; intro A9 c9 w9 ho9 hg9 _; have B9 := HC.out.blk.kept hg9 (own_lt_ne HC.out.edg (Nat.lt_succ_self _)); have e9 := B9.cell (j := 3) rfl; have f9 := B9.free 3; have l9 := B9.lt; have HC8 := Lib.hid (HC.out.edge (x := ⟨(k : Int), y, (k : Int)⟩) ho9 hg9); clear B9 ho9 hg9))
        have HC9 := Lib.hid (HC8.out.edgs (show _ = wEds R u P.al k ++ wRow R u (k : Int) (P.al.take (j + 1)) by rw [HSN.out, List.append_assoc]))
        clear HC8
        go_roundw
        case rel => exact ⟨j + 1, kf + 1, _, _, _, rfl, rfl, by go_num, by omega, by omega, HC9⟩
        case measure => simp [intOf]; omega
       | true =>
        go_wp2_with fail
        refine HR.out.mono ?_
        rintro e wx ⟨rfl, rfl⟩
        clear HR
        obtain ⟨t, ht⟩ : ∃ t, nxt R (k : Int) y = t := ⟨_, rfl⟩
        have HNX := Lib.hid (HNXT.out wr HC.out.bel (k : Int) y)
        rw [ht] at HNX
        have HT := Lib.hid ht; clear ht
        go_wp2_with fail
        refine HNX.out.mono ?_
        rintro e wx ⟨rfl, hbx⟩
        clear HNX c0 r0 r1 r2 r3
        have HC2 := Lib.hid (HC.out.quiet hbx)
        have r1 := (K2.out.below HC2.out.bel K2.out.lt).cell (j := 1) rfl
        clear hbx
        by_cases ht0 : t < 0
        ·have HTO := Lib.hid ((wTo_neg (R := R) (s := (k : Int)) (v := y) ⟨by rw [HN.out]; exact b4, HQR.out⟩ (by rw [HT.out]; exact ht0)).trans HN.out)
         obtain ⟨qu, hqu⟩ : ∃ q, hasB u y = q := ⟨_, rfl⟩
         have HH := Lib.hid (HHAS.out wx HC2.out.bel y qu hqu)
         have HQU := Lib.hid hqu; clear hqu
         cases qu with
         | true =>
          go_wp2_with fail
          refine HH.out.mono ?_
          rintro e wx ⟨rfl, rfl⟩
          clear HH
          have HSN := Lib.hid (wRow_yes (R := R) (u := u) (s := (k : Int)) HYE.out (stW_to (u := u) HTO.out (.inr HQU.out)))
          have o3 := HC2.out.blk.cell (j := 3) rfl
          have hbs : w1.heap.size + 1 ≤ wx.heap.size := HC2.out.blk.lt
          go_wp2_with (at_builtin; go_loud (refine wpList_pushA wx [.int .i64 (k : Int), .int .i64 y, .int .i64 (n : Int)] rfl (.tmp 76) (.tmp 81) 23 rfl (w1.heap.size + 1) 83 (.agg #[.int .i64 0, .int .i64 0, .int .i64 0]) 3 24 Tryd.underlying23 edge_info rfl (by decide) rfl (.slice EA kf ec) kf _ rfl HC2.out.edg rfl (fun q hq => by simp at hq; rcases hq with rfl | rfl | rfl <;> rfl) (by omega) (by omega) hbs ?_; intro A9 c9 w9 ho9 hg9 _; have B9 := HC2.out.blk.kept hg9 (own_lt_ne HC2.out.edg (Nat.lt_succ_self _)); have e9 := B9.cell (j := 3) rfl; have f9 := B9.free 3; have l9 := B9.lt; have HC8 := Lib.hid (HC2.out.edge (x := ⟨(k : Int), y, (n : Int)⟩) ho9 hg9); clear B9 ho9 hg9))
          have HC9 := Lib.hid (HC8.out.edgs (show _ = wEds R u P.al k ++ wRow R u (k : Int) (P.al.take (j + 1)) by rw [HSN.out, List.append_assoc]))
          clear HC8
          go_roundw
          case rel => exact ⟨j + 1, kf + 1, _, _, _, rfl, rfl, by go_num, by omega, by omega, HC9⟩
          case measure => simp [intOf]; omega
         | false =>
          have HSN := Lib.hid (wRow_no (R := R) (u := u) (s := (k : Int)) HYE.out (stW_none (u := u) (HTO.out.trans HN.out.symm) HQU.out))
          have HC9 := Lib.hid (HC2.out.edgs (show _ = wEds R u P.al k ++ wRow R u (k : Int) (P.al.take (j + 1)) by rw [HSN.out]))
          go_wp2_with fail
          refine HH.out.mono ?_
          rintro e wx ⟨rfl, rfl⟩
          clear HH
          go_wp2
          go_roundw
          case rel => exact ⟨j + 1, kf, _, _, _, rfl, rfl, by go_num, by omega, by omega, HC9⟩
          case measure => simp [intOf]; omega
        ·have HTO := Lib.hid ((wTo_pos (R := R) (s := (k : Int)) (v := y) ⟨by rw [HN.out]; exact b4, HQR.out⟩ (by rw [HT.out]; exact ht0)).trans HT.out)
         have b6 : ¬ t = (n : Int) := by
          intro e
          have hne : nxt R (k : Int) y ≠ -1 := by rw [HT.out]; omega
          obtain ⟨g1, g2, _⟩ := HP.out.wr.nxt_rng hne
          rw [HT.out, HN.out] at g2
          omega
         have HSN := Lib.hid (wRow_yes (R := R) (u := u) (s := (k : Int)) HYE.out (stW_to (u := u) HTO.out (.inl (by rw [HN.out]; exact b6))))
         have o3 := HC2.out.blk.cell (j := 3) rfl
         have hbs : w1.heap.size + 1 ≤ wx.heap.size := HC2.out.blk.lt
         go_wp2_with (at_builtin; go_loud (refine wpList_pushA wx [.int .i64 (k : Int), .int .i64 y, .int .i64 t] rfl (.tmp 76) (.tmp 81) 23 rfl (w1.heap.size + 1) 83 (.agg #[.int .i64 0, .int .i64 0, .int .i64 0]) 3 24 Tryd.underlying23 edge_info rfl (by decide) rfl (.slice EA kf ec) kf _ rfl HC2.out.edg rfl (fun q hq => by simp at hq; rcases hq with rfl | rfl | rfl <;> rfl) (by omega) (by omega) hbs ?_; intro A9 c9 w9 ho9 hg9 _; have B9 := HC2.out.blk.kept hg9 (own_lt_ne HC2.out.edg (Nat.lt_succ_self _)); have e9 := B9.cell (j := 3) rfl; have f9 := B9.free 3; have l9 := B9.lt; have HC8 := Lib.hid (HC2.out.edge (x := ⟨(k : Int), y, t⟩) ho9 hg9); clear B9 ho9 hg9))
         have HC9 := Lib.hid (HC8.out.edgs (show _ = wEds R u P.al k ++ wRow R u (k : Int) (P.al.take (j + 1)) by rw [HSN.out, List.append_assoc]))
         clear HC8
         go_roundw
         case rel => exact ⟨j + 1, kf + 1, _, _, _, rfl, rfl, by go_num, by omega, by omega, HC9⟩
         case measure => simp [intOf]; omega
      ·have b4 : ¬ (k : Int) < (n : Int) := by omega
       obtain rfl : k = n := by omega
       have b8 : ¬ (k : Int) < 0 := by omega
       have HTO := Lib.hid (wTo_low (R := R) (s := (k : Int)) (v := y) (by rw [HN.out]; exact fun e => b4 e.1))
       clear hkn
       obtain ⟨qu, hqu⟩ : ∃ q, hasB u y = q := ⟨_, rfl⟩
       have HH := Lib.hid (HHAS.out wr HC.out.bel y qu hqu)
       have HQU := Lib.hid hqu; clear hqu
       cases qu with
       | true =>
        go_wp2_with fail
        refine HH.out.mono ?_
        rintro e wx ⟨rfl, rfl⟩
        clear HH
        have HSN := Lib.hid (wRow_yes (R := R) (u := u) (s := (k : Int)) HYE.out (stW_to (u := u) HTO.out (.inr HQU.out)))
        have o3 := HC.out.blk.cell (j := 3) rfl
        have hbs : w1.heap.size + 1 ≤ wr.heap.size := HC.out.blk.lt
        go_wp2_with (at_builtin; go_loud (refine wpList_pushA wr [.int .i64 (k : Int), .int .i64 y, .int .i64 (k : Int)] rfl (.tmp 76) (.tmp 81) 23 rfl (w1.heap.size + 1) 83 (.agg #[.int .i64 0, .int .i64 0, .int .i64 0]) 3 24 Tryd.underlying23 edge_info rfl (by decide) rfl (.slice EA kf ec) kf _ rfl HC.out.edg rfl (fun q hq => by simp at hq; rcases hq with rfl | rfl | rfl <;> rfl) (by omega) (by omega) hbs ?_; intro A9 c9 w9 ho9 hg9 _; have B9 := HC.out.blk.kept hg9 (own_lt_ne HC.out.edg (Nat.lt_succ_self _)); have e9 := B9.cell (j := 3) rfl; have f9 := B9.free 3; have l9 := B9.lt; have HC8 := Lib.hid (HC.out.edge (x := ⟨(k : Int), y, (k : Int)⟩) ho9 hg9); clear B9 ho9 hg9))
        have HC9 := Lib.hid (HC8.out.edgs (show _ = wEds R u P.al k ++ wRow R u (k : Int) (P.al.take (j + 1)) by rw [HSN.out, List.append_assoc]))
        clear HC8
        go_roundw
        case rel => exact ⟨j + 1, kf + 1, _, _, _, rfl, rfl, by go_num, by omega, by omega, HC9⟩
        case measure => simp [intOf]; omega
       | false =>
        have HSN := Lib.hid (wRow_no (R := R) (u := u) (s := (k : Int)) HYE.out (stW_none (u := u) (HTO.out.trans HN.out.symm) HQU.out))
        have HC9 := Lib.hid (HC.out.edgs (show _ = wEds R u P.al k ++ wRow R u (k : Int) (P.al.take (j + 1)) by rw [HSN.out]))
        go_wp2_with fail
        refine HH.out.mono ?_
        rintro e wx ⟨rfl, rfl⟩
        clear HH
        go_wp2
        go_roundw
        case rel => exact ⟨j + 1, kf, _, _, _, rfl, rfl, by go_num, by omega, by omega, HC9⟩
        case measure => simp [intOf]; omega
     ·obtain rfl : j = na := by omega
      have HZ := Lib.hid (HC.out.edgs (show _ = wEds R u P.al (k + 1) by rw [List.take_of_length_le (by rw [HX.out.la]; exact Nat.le_refl _)]; rfl))
      have b9 : ¬ (j : Int) < (j : Int) := by omega
      go_wp2
      go_roundw
      case rel => exact ⟨k + 1, kf, _, _, _, _, rfl, rfl, rfl, by go_num, by omega, by omega, HZ⟩
      case measure => simp [intOf]; omega
   ·obtain rfl : k = n + 1 := by omega
    have hZ := HC.out
    have hst : (wideA P R u).st = (n : Int) + 1 := by show R.st + 1 = _; rw [HN.out]
    have hra := hZ.rd (al := P.al) (st := (n : Int) + 1) HX.out.la HX.out.ac HX.out.cA ((HX.out.ra.below hZ.bel).more hZ.bel.size)
    rw [show (⟨P.al, (n : Int) + 1, [], wEds R u P.al (n + 1)⟩ : Aut) = wideA P R u by unfold wideA; rw [HN.out]; simp] at hra
    obtain ⟨r, S, hsy, hcl⟩ := inf_eq HP.out (by rw [HN.out]; omega)
    have hww := wide_wf (u := u) HP.out.wp HP.out.wr (by rw [HN.out]; omega)
    have hpr : prodN [P, wideA P R u] ≤ 4096 := by
     show P.st.toNat * ((wideA P R u).st.toNat * 1) ≤ 4096
     rw [hst]
     have h1 := HP.out.sp
     have := Nat.mul_le_mul (show P.st.toNat ≤ 60 by omega) (show ((n : Int) + 1).toNat * 1 ≤ 61 by omega)
     omega
    have hf : FewL [P, wideA P R u] := FewL.of_prod (fun a ha => by
      rcases List.mem_cons.1 ha with rfl | ha
      ·exact HP.out.wp
      ·obtain rfl := List.mem_singleton.1 ha; exact hww) (fun a ha => by
      rcases List.mem_cons.1 ha with rfl | ha
      ·have := HP.out.sp; omega
      ·obtain rfl := List.mem_singleton.1 ha; rw [hst]; omega) (by simp) hpr
    have hcp := compose_pairF (AV.mk A na ca M nm cm E ne ce P) (AV.mk A na ca none 0 0 EA ke ec (wideA P R u)) wr.heap.size r S wr rfl ((HX.out.below hZ.bel).more hZ.bel.size) hra hf hsy
    dsimp only at hcp
    rw [HSP.out, hst] at hcp
    have HRW := Lib.hid (syn_wf (fun a ha => by
      rcases List.mem_cons.1 ha with rfl | ha
      ·exact HP.out.wp
      ·obtain rfl := List.mem_singleton.1 ha; exact hww) hpr hsy)
    have HB2 := Lib.hid (HB1.out.trans (hZ.bel.mono HB1.out.size))
    have KR2 := Lib.hid (KR.out.below hZ.bel KR.out.lt)
    have k1 := K1.out.below hZ.bel K1.out.lt
    have c0 := k1.cell (j := 0) rfl
    have c1 := k1.cell (j := 1) rfl
    have c2 := k1.cell (j := 2) rfl
    have c3 := k1.cell (j := 3) rfl
    have o0 := hZ.blk.cell (j := 0) rfl
    have o2 := hZ.blk.cell (j := 2) rfl
    have o3 := hZ.blk.cell (j := 3) rfl
    have b9 : ¬ ((n : Int) + 1 < (n : Int) + 1) := by omega
    have HCP := Lib.hid hcp; clear hcp
    have HCL := Lib.hid hcl; clear hcl
    clear hra hf hsy hpr hww hst hZ HC k1 hke hk hlt
    go_wp2_with fail
    clear c0 c1 c2 c3 d1 o0 o2 o3 b9
    refine HCP.out.mono ?_
    rintro e w4 ⟨z, rfl, hza, hz, hb4⟩
    have hx4 := box_below w4 (.cells #[.slice z.A z.na z.ca, .int .i64 z.a.st, .slice z.M z.nm z.cm, .slice z.E z.ne z.ce] 25)
    have hb4a := hb4.trans (hx4.mono hb4.size)
    have hz5 := AutR.more (AutR.below hz hx4) hx4.size
    have HCLO := Lib.hid (automaton_Closed z.A z.na z.ca z.M z.nm z.cm z.E z.ne z.ce z.a (w4.alloc (.cells #[.slice z.A z.na z.ca, .int .i64 z.a.st, .slice z.M z.nm z.cm, .slice z.E z.ne z.ce] 25)) hz5 (by rw [hza]; exact HRW.out))
    rw [show cloA z.a = infA P R (intS u P.al) p by rw [hza]; exact HCL.out] at HCLO
    have q4 : Blk (w4.alloc (.cells #[.slice z.A z.na z.ca, .int .i64 z.a.st, .slice z.M z.nm z.cm, .slice z.E z.ne z.ce] 25)) w4.heap.size 25 [.slice z.A z.na z.ca, .int .i64 z.a.st, .slice z.M z.nm z.cm, .slice z.E z.ne z.ce] := Blk.new _ _ [_, _, _, _]
    have a0 := q4.cell (j := 0) rfl
    have a1 := q4.cell (j := 1) rfl
    have a2 := q4.cell (j := 2) rfl
    have a3 := q4.cell (j := 3) rfl
    have HB5 := Lib.hid (HB2.out.trans (hb4a.mono HB2.out.size))
    have KR5 := Lib.hid (KR2.out.below hb4a KR2.out.lt)
    clear hx4 hb4a hb4 hz5 hz hza q4 HRW HCL HB2 KR2 HCP
    go_upto_region 19 with fail
    obtain ⟨w5, hw5⟩ : ∃ w5, w5 = (w4.alloc (.cells #[.slice z.A z.na z.ca, .int .i64 z.a.st, .slice z.M z.nm z.cm, .slice z.E z.ne z.ce] 25)) := ⟨_, rfl⟩
    rw [← hw5] at a0 a1 a2 a3 HB5 KR5 HCLO ⊢
    clear hw5
    go_wp2_with fail
    clear a0 a1 a2 a3
    refine HCLO.out.mono ?_
    rintro e w8 ⟨A8, na8, ca8, M8, nm8, cm8, E8, ne8, ce8, rfl, ho8, hb8⟩
    obtain ⟨SA, hSA⟩ : ∃ x, infA P R (intS u P.al) p = x := ⟨_, rfl⟩
    rw [hSA] at ho8 ⊢
    have hV := VarO.new (B := w.heap.size) (HB5.out.trans (hb8.mono HB5.out.size)) (KR5.out.below hb8 KR5.out.lt) (ho8.down (b0 := w.heap.size + 2 + 1) (by have := KR5.out.lt; omega)) (by omega)
    have HSA := Lib.hid hSA; clear hSA
    clear hb8 ho8 HCLO
    go_upto_region 20 with fail
    obtain ⟨w9, hw9⟩ : ∃ w9, w9 = w8.alloc (.cells #[.slice A8 na8 ca8, .int .i64 SA.st, .slice M8 nm8 cm8, .slice E8 ne8 ce8] 25) := ⟨_, rfl⟩
    rw [← hw9] at hV ⊢
    clear hw9
    have hfin := hV.fin
    have o0 := hV.var.cell (j := 0) rfl
    have o1 := hV.var.cell (j := 1) rfl
    have o2 := hV.var.cell (j := 2) rfl
    have o3 := hV.var.cell (j := 3) rfl
    have f0 := hV.res.free 0
    have f1 := hV.res.free 1
    have f2 := hV.res.free 2
    have f3 := hV.res.free 3
    have e0 := hV.res.cell (j := 0) rfl
    have e1 := hV.res.cell (j := 1) rfl
    have e2 := hV.res.cell (j := 2) rfl
    have e3 := hV.res.cell (j := 3) rfl
    have l9 := hV.res.lt
    have HFIN := Lib.hid hfin; clear hfin
    clear hV
    go_wp2
    obtain ⟨r1, r2, r3⟩ := HFIN.out
    have z0 := r1.cell (j := 0) rfl
    have z1 := r1.cell (j := 1) rfl
    have z2 := r1.cell (j := 2) rfl
    have z3 := r1.cell (j := 3) rfl
    refine bodyPost_ret (v := .agg #[.slice A8 na8 ca8, .int .i64 SA.st, .slice M8 nm8 cm8, .slice E8 ne8 ce8]) (by simp [results, Tryd.results29, go_sem, z0, z1, z2, z3]) rfl ?_
    rw [HSA.out]
    exact ⟨A8, na8, ca8, M8, nm8, cm8, E8, ne8, ce8, rfl, r2.rd, r3⟩
end Go.Proofs.YtcchnibgehonoaaDoor
