/- The law WordRefuses: its walk. -/
import Derived.Test.YtcbhencebflgcaaWo
import Derived.Test.YtcbhencebflgcaaWn
namespace Go.Proofs.Ytcbhencebflgcaa
open Go.RowKit Go

theorem boxes22 {w w1 : World} {x0 x1 y0 y1 : Value} {t u : TypeId} (h : Below ((w.alloc (.cells #[x0, x1] t)).alloc (.cells #[y0, y1] u)).heap.size ((w.alloc (.cells #[x0, x1] t)).alloc (.cells #[y0, y1] u)) w1) :
    w1.cell? ⟨w.heap.size, 0, none⟩ = some x0 ∧ w1.cell? ⟨w.heap.size, 1, none⟩ = some x1 ∧ w1.cell? ⟨w.heap.size + 1, 0, none⟩ = some y0 ∧ w1.cell? ⟨w.heap.size + 1, 1, none⟩ = some y1 := by
  refine ⟨?_, ?_, ?_, ?_⟩
  · rw [h.cell (p := ⟨w.heap.size, 0, none⟩) (by simp; omega)]; simp [go_sem]
  · rw [h.cell (p := ⟨w.heap.size, 1, none⟩) (by simp; omega)]; simp [go_sem]
  · rw [h.cell (p := ⟨w.heap.size + 1, 0, none⟩) (by simp)]; simp [go_sem]
  · rw [h.cell (p := ⟨w.heap.size + 1, 1, none⟩) (by simp)]; simp [go_sem]
theorem below_boxes {w w1 : World} {o p : Obj} (h : Below ((w.alloc o).alloc p).heap.size ((w.alloc o).alloc p) w1) : Below w.heap.size w w1 := below_first (below_first h)


set_option maxRecDepth 100000 in
set_option maxHeartbeats 3200000 in
theorem refuses_walk (A C F S : Option Addr) (ca cc cf cs : Nat) (a b f s : List Int) (w : World) (ha : RdI w w.heap.size A a) (ha1 : a.length ≤ ca) (ha2 : ca ≤ 9223372036854775807) (hb : RdI w w.heap.size C b) (hb1 : b.length ≤ cc) (hb2 : cc ≤ 9223372036854775807)
    (hf : RdI w w.heap.size F f) (hf1 : f.length ≤ cf) (hf2 : cf ≤ 9223372036854775807) (hs : RdI w w.heap.size S s) (hs1 : s.length ≤ cs) (hs2 : cs ≤ 9223372036854775807) :
    Calls Try.prog 6 #[.agg #[.slice A a.length ca, .slice C b.length cc], .agg #[.slice F f.length cf, .slice S s.length cs]] w fun e w' => e = .returned (.bool true) ∧ Below w.heap.size w w' := by
  by_cases hl : a.length ≤ 10 ∧ b.length ≤ 10 ∧ f.length ≤ 10 ∧ s.length ≤ 10
  · obtain ⟨l1, l2, l3, l4⟩ := hl
    by_cases e1 : chkW a f = 0
    · by_cases e2 : chkW b s = 0
      · obtain ⟨i1, j1, k1⟩ := chkW_zero e1
        obtain ⟨i2, j2, k2⟩ := chkW_zero e2
        have I1 := Lib.hid i1; clear i1
        have I2 := Lib.hid i2; clear i2
        have J1 := Lib.hid j1; clear j1
        have J2 := Lib.hid j2; clear j2
        have K1 := Lib.hid k1; clear k1
        have K2 := Lib.hid k2; clear k2
        have E1 := Lib.hid e1; clear e1
        have E2 := Lib.hid e2; clear e2
        by_cases hp : projW a s = projW b f
        · have q1 : eqB (matW f s a b) (matW f s a b) = true := eqB_of rfl
          have HP := Lib.hid hp; clear hp
          have Q1 := Lib.hid q1; clear q1
          go_enter Try.func6, Try.ntmps6
          go_wp2_with fail
          refine (known_any _).mono ?_
          rintro e w1 ⟨rfl, B1⟩
          obtain ⟨x0, x1, x2, x3⟩ := boxes22 B1
          have F1 := below_boxes B1
          have z1 := F1.size
          go_wp2_with fail
          refine (ref_Check A F ca cf a f w1 ((ha.below F1).more z1) (by omega) ((hf.below F1).more z1) hf1 hf2).mono ?_
          rintro e w2 ⟨rfl, n2, rfl⟩
          rw [E1.out]
          go_wp2_with fail
          refine (ref_Check C S cc cs b s _ (by exact (hb.below F1).more z1) (by omega) (by exact (hs.below F1).more z1) hs1 hs2).mono ?_
          rintro e w3 ⟨rfl, n3, rfl⟩
          rw [E2.out]
          have ra1 := (ha.below F1).more z1
          have rb1 := (hb.below F1).more z1
          have rf1 := (hf.below F1).more z1
          have rs1 := (hs.below F1).more z1
          go_wp2_with fail
          refine (match_yes A C F S ca cc cf cs a b f s _ (by exact ra1) ha1 ha2 (by exact rb1) hb1 hb2 (by exact rf1) hf1 hf2 (by exact rs1) hs1 hs2 (by omega) (by omega) (by omega) (by omega) E1.out E2.out I1.out I2.out HP.out).mono ?_
          rintro e w4 ⟨A4, c4, rfl, g1, g2, r4, b4⟩
          have b4' := below_undrewN b4
          have B4 := B1.trans (b4'.mono B1.size)
          have F4 := below_boxes B4
          have z4 := F4.size
          obtain ⟨y0, y1, y2, y3⟩ := boxes22 B4
          clear b4 b4' x0 x1 x2 x3 ra1 rb1 rf1 rs1
          go_wp2_with fail
          refine (ref_Match_yes A C F S ca cc cf cs a b f s _ ((ha.below F4).more z4) ha1 ha2 ((hb.below F4).more z4) hb1 hb2 ((hf.below F4).more z4) hf1 hf2 ((hs.below F4).more z4) hs1 hs2 (by omega) (by omega) J1.out J2.out K1.out K2.out HP.out).mono ?_
          rintro e w5 ⟨A5, c5, rfl, g3, g4, r5, b5⟩
          have r4' := (r4.below b5).more b5.size
          have F5 := F4.trans (b5.mono z4)
          go_wp2_with fail
          have hc := law_same A4 A5 c4 c5 _ _ w5 r4' g1 g2 r5
          rw [Q1.out] at hc
          refine hc.mono ?_
          rintro e w6 ⟨rfl, n6, rfl⟩
          clear hc
          go_wp2
          go_ret
          exact ⟨rfl, below_drewN F5 _⟩
        · have q1 : eqB [] [] = true := eqB_of rfl
          have HP := Lib.hid hp; clear hp
          have Q1 := Lib.hid q1; clear q1
          go_enter Try.func6, Try.ntmps6
          go_wp2_with fail
          refine (known_any _).mono ?_
          rintro e w1 ⟨rfl, B1⟩
          obtain ⟨x0, x1, x2, x3⟩ := boxes22 B1
          have F1 := below_boxes B1
          have z1 := F1.size
          go_wp2_with fail
          refine (ref_Check A F ca cf a f w1 ((ha.below F1).more z1) (by omega) ((hf.below F1).more z1) hf1 hf2).mono ?_
          rintro e w2 ⟨rfl, n2, rfl⟩
          rw [E1.out]
          go_wp2_with fail
          refine (ref_Check C S cc cs b s _ (by exact (hb.below F1).more z1) (by omega) (by exact (hs.below F1).more z1) hs1 hs2).mono ?_
          rintro e w3 ⟨rfl, n3, rfl⟩
          rw [E2.out]
          have ra1 := (ha.below F1).more z1
          have rb1 := (hb.below F1).more z1
          have rf1 := (hf.below F1).more z1
          have rs1 := (hs.below F1).more z1
          go_wp2_with fail
          refine (match_no A C F S ca cc cf cs a b f s _ (by exact ra1) (by exact rb1) (by exact rf1) hf1 hf2 (by exact rs1) hs1 hs2 (by omega) (by omega) (by omega) (by omega) E1.out E2.out I1.out I2.out HP.out).mono ?_
          rintro e w4 ⟨A4, c4, rfl, g1, g2, r4, b4⟩
          have b4' := below_undrewN b4
          have B4 := B1.trans (b4'.mono B1.size)
          have F4 := below_boxes B4
          have z4 := F4.size
          obtain ⟨y0, y1, y2, y3⟩ := boxes22 B4
          clear b4 b4' x0 x1 x2 x3 ra1 rb1 rf1 rs1
          go_wp2_with fail
          refine (ref_Match_no A C F S ca cc cf cs a b f s _ ((ha.below F4).more z4) ha1 ha2 ((hb.below F4).more z4) hb1 hb2 ((hf.below F4).more z4) hf1 hf2 ((hs.below F4).more z4) hs1 hs2 (by omega) (by omega) J1.out J2.out K1.out K2.out HP.out).mono ?_
          rintro e w5 ⟨A5, c5, rfl, g3, g4, r5, b5⟩
          have r4' := (r4.below b5).more b5.size
          have F5 := F4.trans (b5.mono z4)
          go_wp2_with fail
          refine (law_same_n A4 A5 c4 c5 0 0 [] [] true w5 rfl rfl Q1.out r4' (by simp) g2 r5).mono ?_
          rintro e w6 ⟨rfl, n6, rfl⟩
          go_wp2
          go_ret
          exact ⟨rfl, below_drewN F5 _⟩
      · have q2 : (chkW b s != 0) = true := by simpa using e2
        have q3 : (chkW b s == 0) = false := by simpa using e2
        have E1 := Lib.hid e1; clear e1
        have E2 := Lib.hid e2; clear e2
        go_enter Try.func6, Try.ntmps6
        go_wp2_with fail
        refine (known_any _).mono ?_
        rintro e w1 ⟨rfl, B1⟩
        obtain ⟨x0, x1, x2, x3⟩ := boxes22 B1
        have F1 := below_boxes B1
        have z1 := F1.size
        go_wp2_with fail
        refine (ref_Check A F ca cf a f w1 ((ha.below F1).more z1) (by omega) ((hf.below F1).more z1) hf1 hf2).mono ?_
        rintro e w2 ⟨rfl, n2, rfl⟩
        rw [E1.out]
        go_wp2_with fail
        refine (ref_Check C S cc cs b s _ (by exact (hb.below F1).more z1) (by omega) (by exact (hs.below F1).more z1) hs1 hs2).mono ?_
        rintro e w3 ⟨rfl, n3, rfl⟩
        have ra1 := (ha.below F1).more z1
        have rb1 := (hb.below F1).more z1
        have rf1 := (hf.below F1).more z1
        have rs1 := (hs.below F1).more z1
        generalize hz : chkW b s = z at *
        have HZ := Lib.hid hz; clear hz
        go_wp2_with fail
        have hc := match_err2 A C F S ca cc cf cs a b f s (w1.drewN (n2 + n3)) ra1 rb1 rf1 hf1 hf2 rs1 hs1 hs2 (by omega) (by omega) (by omega) (by omega) E1.out (by rw [HZ.out]; exact E2.out)
        rw [HZ.out] at hc
        refine hc.mono ?_
        rintro e w4 ⟨A4, c4, rfl, g1, g2, r4, b4⟩
        have b4' := below_undrewN b4
        have B4 := B1.trans (b4'.mono B1.size)
        have F4 := below_boxes B4
        clear hc
        go_wp2
        go_ret
        exact ⟨rfl, F4⟩
    · have q2 : (chkW a f != 0) = true := by simpa using e1
      have q3 : (chkW a f == 0) = false := by simpa using e1
      have E1 := Lib.hid e1; clear e1
      go_enter Try.func6, Try.ntmps6
      go_wp2_with fail
      refine (known_any _).mono ?_
      rintro e w1 ⟨rfl, B1⟩
      obtain ⟨x0, x1, x2, x3⟩ := boxes22 B1
      have F1 := below_boxes B1
      have z1 := F1.size
      go_wp2_with fail
      refine (ref_Check A F ca cf a f w1 ((ha.below F1).more z1) (by omega) ((hf.below F1).more z1) hf1 hf2).mono ?_
      rintro e w2 ⟨rfl, n2, rfl⟩
      have ra1 := (ha.below F1).more z1
      have rb1 := (hb.below F1).more z1
      have rf1 := (hf.below F1).more z1
      have rs1 := (hs.below F1).more z1
      generalize hz : chkW a f = z at *
      have HZ := Lib.hid hz; clear hz
      go_wp2_with fail
      have hc := match_err1 A C F S ca cc cf cs a b f s (w1.drewN n2) ra1 rf1 hf1 hf2 (by omega) (by omega) (by rw [HZ.out]; exact E1.out)
      rw [HZ.out] at hc
      refine hc.mono ?_
      rintro e w4 ⟨A4, c4, rfl, g1, g2, r4, b4⟩
      have b4' := below_undrewN b4
      have B4 := B1.trans (b4'.mono B1.size)
      have F4 := below_boxes B4
      clear hc
      go_wp2
      go_ret
      exact ⟨rfl, F4⟩
  · by_cases h1 : 10 < a.length
    · skip
      clear hl
      go_enter Try.func6, Try.ntmps6
      go_wp2_with fail
      refine (known_any _).mono ?_
      rintro e w1 ⟨rfl, B1⟩
      obtain ⟨x0, x1, x2, x3⟩ := boxes22 B1
      go_wp2_with fail
      refine (known_any _).mono ?_
      rintro e w2 ⟨rfl, B2⟩
      go_wp2
      go_ret
      exact ⟨rfl, below_boxes (B1.trans (B2.mono B1.size))⟩
    · by_cases h2 : 10 < b.length
      · skip
        clear hl
        go_enter Try.func6, Try.ntmps6
        go_wp2_with fail
        refine (known_any _).mono ?_
        rintro e w1 ⟨rfl, B1⟩
        obtain ⟨x0, x1, x2, x3⟩ := boxes22 B1
        go_wp2_with fail
        refine (known_any _).mono ?_
        rintro e w2 ⟨rfl, B2⟩
        go_wp2
        go_ret
        exact ⟨rfl, below_boxes (B1.trans (B2.mono B1.size))⟩
      · by_cases h3 : 10 < f.length
        · skip
          clear hl
          go_enter Try.func6, Try.ntmps6
          go_wp2_with fail
          refine (known_any _).mono ?_
          rintro e w1 ⟨rfl, B1⟩
          obtain ⟨x0, x1, x2, x3⟩ := boxes22 B1
          go_wp2_with fail
          refine (known_any _).mono ?_
          rintro e w2 ⟨rfl, B2⟩
          go_wp2
          go_ret
          exact ⟨rfl, below_boxes (B1.trans (B2.mono B1.size))⟩
        · have h4 : 10 < s.length := by omega
          clear hl
          go_enter Try.func6, Try.ntmps6
          go_wp2_with fail
          refine (known_any _).mono ?_
          rintro e w1 ⟨rfl, B1⟩
          obtain ⟨x0, x1, x2, x3⟩ := boxes22 B1
          go_wp2_with fail
          refine (known_any _).mono ?_
          rintro e w2 ⟨rfl, B2⟩
          go_wp2
          go_ret
          exact ⟨rfl, below_boxes (B1.trans (B2.mono B1.size))⟩
end Go.Proofs.Ytcbhencebflgcaa
