/- The law WordProjects: its walk. -/
import Derived.Test.YtcbhencebflgcaaWk
import Derived.Test.YtcbhencebflgcaaPn
import Derived.Laws.BitsAllLaws
namespace Go.Proofs.Ytcbhencebflgcaa
open Go.RowKit Go

theorem bit_one {x y : Int} {k : Nat} (hb : bitB x k = true) (hy : y = x / 2 ^ k) (h0 : 0 ≤ y) (h1 : y ≤ 255) : (bits BinOp.and IntKind.u8 y 1 == 0) = false := by
  have h := bit_u8 hb hy h0 h1
  rw [beq_iff_eq] at h
  rw [h]; rfl
theorem and_range {x y : Int} (hx : 0 ≤ x) (hx' : x ≤ 255) (hy : 0 ≤ y) (hy' : y ≤ 255) : 0 ≤ bits BinOp.and IntKind.u8 x y ∧ bits BinOp.and IntKind.u8 x y ≤ 255 := by
  rw [u8_and x y hx (by omega) hy (by omega)]
  have h : x.toNat &&& y.toNat ≤ x.toNat := Nat.and_le_left
  omega

set_option maxHeartbeats 1600000 in
theorem projects_walk (A : Option Addr) (c : Nat) (l : List Int) (x y : Int) (w : World) (ha : RdB w w.heap.size A l) (hac : l.length ≤ 9223372036854775807) (hr : ∀ (k : Nat) (x : Int), l[k]? = some x → 0 ≤ x ∧ x ≤ 255)
    (x0 : 0 ≤ x) (x1 : x ≤ 255) (y0 : 0 ≤ y) (y1 : y ≤ 255) :
    Calls Try.prog 4 #[.slice A l.length c, .int .u8 x, .int .u8 y] w fun e w' => e = .returned (.bool true) ∧ Below w.heap.size w w' := by
  have HR := Lib.hid hr; clear hr
  have hW := wordB_le l 20
  have e1 := eqB_of (proj_two (w := wordB l 20) (setB_and x0 y0 (u8_and x y x0 (by omega) y0 (by omega))))
  have e2 := eqB_of (proj_again (wordB l 20) (setB x 5))
  have e3 := eqB_of (word_all l 20)
  have hm : ∀ (k : Nat) (z : Int), (projW (wordB l 20) (setB x 5))[k]? = some z → ∃ m : Nat, m < 5 ∧ z = m ∧ bitB x m = true := fun k z hz => setB_range (proj_mem hz)
  have hO : (projW (wordB l 20) (setB x 5)).length ≤ (wordB l 20).length := List.length_filter_le _ _
  have HM := Lib.hid hm; clear hm
  have E1 := Lib.hid e1; clear e1
  have E2 := Lib.hid e2; clear e2
  have E3 := Lib.hid e3; clear e3
  have b0 := setB_le x 5
  have b1 := setB_le y 5
  have b2 := setB_le (bits BinOp.and IntKind.u8 x y) 5
  have b3 := setB_le 31 5
  have i0 := setB_inc x 5
  have i1 := setB_inc y 5
  have i2 := setB_inc (bits BinOp.and IntKind.u8 x y) 5
  have i3 := setB_inc 31 5
  have I0 := Lib.hid i0; clear i0
  have I1 := Lib.hid i1; clear i1
  have I2 := Lib.hid i2; clear i2
  have I3 := Lib.hid i3; clear i3
  obtain ⟨n0, n1⟩ := and_range x0 x1 y0 y1
  go_enter Try.func4, Try.ntmps4
  go_wp2_with fail
  refine (known_any _).mono ?_
  rintro e w1 ⟨rfl, B1⟩
  have z1 := B1.size
  go_wp2_with fail
  refine (law_Word A c 20 l w1 ((ha.below B1).more z1) hac HR.out (by omega)).mono ?_
  rintro e w2 ⟨A2, c2, rfl, p1, p2, r2, hb⟩
  have B2 : Below w.heap.size w w2 := B1.trans (hb.mono z1)
  have z2 := B2.size
  clear hb B1 z1
  go_wp2_with fail
  refine (law_Set x w2 x0 x1).mono ?_
  rintro e w3 ⟨A3, c3, rfl, s1, s2, r3, hb⟩
  have B3 : Below w.heap.size w w3 := B2.trans (hb.mono z2)
  have z3 := B3.size
  have r2' := (r2.below hb).more hb.size
  clear hb B2 z2 r2
  go_wp2_with fail
  refine (word_Project A2 A3 c2 c3 (wordB l 20) (setB x 5) w3 r2' (by omega) r3 (by omega) I0.out).mono ?_
  rintro e w4 ⟨A4, c4, rfl, o1, o2, r4, hb⟩
  have B4 : Below w.heap.size w w4 := B3.trans (hb.mono z3)
  have z4 := B4.size
  have r2 := (r2'.below hb).more hb.size
  clear hb B3 z3 r2' r3 s1 s2
  go_wp2_with fail
  refine (law_Set y w4 y0 y1).mono ?_
  rintro e w5 ⟨A5, c5, rfl, s1, s2, r5, hb⟩
  have B5 : Below w.heap.size w w5 := B4.trans (hb.mono z4)
  have z5 := B5.size
  have r2' := (r2.below hb).more hb.size
  have r4' := (r4.below hb).more hb.size
  clear hb B4 z4 r2 r4
  go_wp2_with fail
  refine (word_Project A4 A5 c4 c5 (projW (wordB l 20) (setB x 5)) (setB y 5) w5 r4' (by omega) r5 (by omega) I1.out).mono ?_
  rintro e w6 ⟨A6, c6, rfl, t1, t2, r6, hb⟩
  have B6 : Below w.heap.size w w6 := B5.trans (hb.mono z5)
  have z6 := B6.size
  have r2 := (r2'.below hb).more hb.size
  have r4 := (r4'.below hb).more hb.size
  clear hb B5 z5 r2' r4' r5 s1 s2
  go_wp2
  go_loopw [10] (fun i wr => ∃ k : Nat, k ≤ (projW (wordB l 20) (setB x 5)).length ∧ i = .int .i64 k ∧ wr = w6) (fun i _ => (projW (wordB l 20) (setB x 5)).length - (intOf i).toNat)
  case atStart => exact ⟨0, Nat.zero_le _, rfl, rfl⟩
  case round =>
    obtain ⟨k, hk, rfl, rfl⟩ := hrel
    by_cases hlt : k < (projW (wordB l 20) (setB x 5)).length
    · obtain ⟨ad, z, rfl, _, hz, hcz⟩ := r4.at_ hlt
      obtain ⟨m, hm5, rfl, hbm⟩ := HM.out k z hz
      have : m = 0 ∨ m = 1 ∨ m = 2 ∨ m = 3 ∨ m = 4 := by omega
      rcases this with rfl | rfl | rfl | rfl | rfl
      · have hb2 : (bits BinOp.and IntKind.u8 x 1 == 0) = false := bit_one hbm (by simp) (by omega) (by omega)
        clear hbm hz
        go_wp2
        go_roundw
        case rel => exact ⟨k + 1, by omega, by go_num, trivial⟩
        case measure => simp [intOf]; omega
      · have hb2 : (bits BinOp.and IntKind.u8 (x / 2) 1 == 0) = false := bit_one hbm (by simp) (by omega) (by omega)
        clear hbm hz
        go_wp2
        go_roundw
        case rel => exact ⟨k + 1, by omega, by go_num, trivial⟩
        case measure => simp [intOf]; omega
      · have hb2 : (bits BinOp.and IntKind.u8 (x / 4) 1 == 0) = false := bit_one hbm (by simp) (by omega) (by omega)
        clear hbm hz
        go_wp2
        go_roundw
        case rel => exact ⟨k + 1, by omega, by go_num, trivial⟩
        case measure => simp [intOf]; omega
      · have hb2 : (bits BinOp.and IntKind.u8 (x / 8) 1 == 0) = false := bit_one hbm (by simp) (by omega) (by omega)
        clear hbm hz
        go_wp2
        go_roundw
        case rel => exact ⟨k + 1, by omega, by go_num, trivial⟩
        case measure => simp [intOf]; omega
      · have hb2 : (bits BinOp.and IntKind.u8 (x / 16) 1 == 0) = false := bit_one hbm (by simp) (by omega) (by omega)
        clear hbm hz
        go_wp2
        go_roundw
        case rel => exact ⟨k + 1, by omega, by go_num, trivial⟩
        case measure => simp [intOf]; omega
    · go_wp2_with fail
      refine (law_Set (bits BinOp.and IntKind.u8 x y) _ n0 n1).mono ?_
      rintro e w7 ⟨A7, c7, rfl, s1, s2, r7, hb⟩
      have B7 : Below w.heap.size w w7 := B6.trans (hb.mono z6)
      have z7 := B7.size
      have r2' := (r2.below hb).more hb.size
      have r4' := (r4.below hb).more hb.size
      have r6' := (r6.below hb).more hb.size
      clear hb B6 z6 r2 r4 r6
      go_wp2_with fail
      refine (word_Project A2 A7 c2 c7 (wordB l 20) (setB (bits BinOp.and IntKind.u8 x y) 5) w7 r2' (by omega) r7 (by omega) I2.out).mono ?_
      rintro e w8 ⟨A8, c8, rfl, q1, q2, r8, hb⟩
      have B8 : Below w.heap.size w w8 := B7.trans (hb.mono z7)
      have z8 := B8.size
      have r2 := (r2'.below hb).more hb.size
      have r4 := (r4'.below hb).more hb.size
      have r6 := (r6'.below hb).more hb.size
      clear hb B7 z7 r2' r4' r6' r7 s1 s2
      go_wp2_with fail
      have hcon := law_same A6 A8 c6 c8 _ _ w8 r6 t1 t2 r8
      rw [E1.out] at hcon
      refine hcon.mono ?_
      rintro e w9 ⟨rfl, hd⟩
      have hb : Below w8.heap.size w8 w9 := by obtain ⟨m, rfl⟩ := hd; exact below_drewN (Below.refl _ _) _
      have B9 : Below w.heap.size w w9 := B8.trans (hb.mono z8)
      have z9 := B9.size
      have r2' := (r2.below hb).more hb.size
      have r4' := (r4.below hb).more hb.size
      clear hb hd hcon B8 z8 r2 r4 r6 r8 q1 q2 t1 t2
      go_wp2_with fail
      refine (law_Set x w9 x0 x1).mono ?_
      rintro e w10 ⟨A10, c10, rfl, s1, s2, r10, hb⟩
      have B10 : Below w.heap.size w w10 := B9.trans (hb.mono z9)
      have z10 := B10.size
      have r2 := (r2'.below hb).more hb.size
      have r4 := (r4'.below hb).more hb.size
      clear hb B9 z9 r2' r4'
      go_wp2_with fail
      refine (word_Project A4 A10 c4 c10 (projW (wordB l 20) (setB x 5)) (setB x 5) w10 r4 (by omega) r10 (by omega) I0.out).mono ?_
      rintro e w11 ⟨A11, c11, rfl, q1, q2, r11, hb⟩
      have B11 : Below w.heap.size w w11 := B10.trans (hb.mono z10)
      have z11 := B11.size
      have r2' := (r2.below hb).more hb.size
      have r4' := (r4.below hb).more hb.size
      clear hb B10 z10 r2 r4 r10 s1 s2
      go_wp2_with fail
      have hcon := law_same A11 A4 c11 c4 _ _ w11 r11 q1 q2 r4'
      rw [E2.out] at hcon
      refine hcon.mono ?_
      rintro e w12 ⟨rfl, hd⟩
      have hb : Below w11.heap.size w11 w12 := by obtain ⟨m, rfl⟩ := hd; exact below_drewN (Below.refl _ _) _
      have B12 : Below w.heap.size w w12 := B11.trans (hb.mono z11)
      have z12 := B12.size
      have r2 := (r2'.below hb).more hb.size
      clear hb hd hcon B11 z11 r2' r4' r11 q1 q2
      go_wp2_with fail
      refine (law_Set 31 w12 (by omega) (by omega)).mono ?_
      rintro e w13 ⟨A13, c13, rfl, s1, s2, r13, hb⟩
      have B13 : Below w.heap.size w w13 := B12.trans (hb.mono z12)
      have z13 := B13.size
      have r2' := (r2.below hb).more hb.size
      clear hb B12 z12 r2
      go_wp2_with fail
      refine (word_Project A2 A13 c2 c13 (wordB l 20) (setB 31 5) w13 r2' (by omega) r13 (by omega) I3.out).mono ?_
      rintro e w14 ⟨A14, c14, rfl, q1, q2, r14, hb⟩
      have B14 : Below w.heap.size w w14 := B13.trans (hb.mono z13)
      have z14 := B14.size
      have r2 := (r2'.below hb).more hb.size
      clear hb B13 z13 r2' r13 s1 s2
      go_wp2_with fail
      have hcon := law_same A14 A2 c14 c2 _ _ w14 r14 q1 q2 r2
      rw [E3.out] at hcon
      refine hcon.mono ?_
      rintro e w15 ⟨rfl, hd⟩
      have hb : Below w14.heap.size w14 w15 := by obtain ⟨m, rfl⟩ := hd; exact below_drewN (Below.refl _ _) _
      have B15 : Below w.heap.size w w15 := B14.trans (hb.mono z14)
      clear hb hd hcon B14 z14 r2 r14
      go_wp2
      go_ret
      exact ⟨rfl, B15⟩
end Go.Proofs.Ytcbhencebflgcaa
