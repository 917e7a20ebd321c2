/- Walks: word.Match. -/
import Derived.Test.YtcbhencebflgcaaWi
namespace Go.Proofs.Ytcbhencebflgcaa
open Go.RowKit Go

def lnV : Value → Nat | .slice _ n _ => n | _ => 0

/-- A word, whether there is one, an error. -/
def RetM (l : List Int) (f : Bool) (er : Int) (w : World) (e : Ending) (w' : World) : Prop :=
  ∃ A c, e = .returned (.tuple #[.slice A l.length c, .bool f, .int .i64 er]) ∧ l.length ≤ c ∧ c ≤ 9223372036854775807 ∧ RdI w' w'.heap.size A l ∧ Below w.heap.size w w'

set_option maxRecDepth 100000 in
set_option maxHeartbeats 1600000 in
theorem match_yes (A C F S : Option Addr) (ca cc cf cs : Nat) (a b f s : List Int) (w : World) (ha : RdI w w.heap.size A a) (ha1 : a.length ≤ ca) (ha2 : ca ≤ 9223372036854775807) (hb : RdI w w.heap.size C b) (hb1 : b.length ≤ cc) (hb2 : cc ≤ 9223372036854775807)
    (hf : RdI w w.heap.size F f) (hf1 : f.length ≤ cf) (hf2 : cf ≤ 9223372036854775807) (hs : RdI w w.heap.size S s) (hs1 : s.length ≤ cs) (hs2 : cs ≤ 9223372036854775807)
    (hal : a.length ≤ 1000000) (hbl : b.length ≤ 1000000) (hfl : f.length ≤ 1000000) (hsl : s.length ≤ 1000000)
    (e1 : chkW a f = 0) (e2 : chkW b s = 0) (fi : Inc f) (si : Inc s) (hp : projW a s = projW b f) :
    Calls Try.prog 22 #[.slice A a.length ca, .slice F f.length cf, .slice C b.length cc, .slice S s.length cs] w (RetM (matW f s a b) true 0 w) := by
  have q1 : (chkW a f != 0) = false := by simp [e1]
  have q2 : (chkW b s != 0) = false := by simp [e2]
  have hpa := List.length_filter_le (fun x => hasB s x) a
  have hpa2 : (projW a s).length ≤ 1000000 := Nat.le_trans hpa hal
  have heq : eqB (projW a s) (projW b f) = true := eqB_of hp
  have HF := Lib.hid fi
  have HS := Lib.hid si
  have HP := Lib.hid hp
  clear fi si hp e1 e2 hpa
  go_enter Try.func22, Try.ntmps22
  go_wp2_with fail
  refine (word_Check A F ca cf a f w ha (by omega) hf hf1 hf2 (by omega)).mono ?_
  rintro e w1 ⟨rfl, hb1'⟩
  go_wp2_with fail
  have B1 := hb1'
  have z1 := B1.size
  refine (word_Check C S cc cs b s w1 ((hb.below B1).more z1) (by omega) ((hs.below B1).more z1) hs1 hs2 (by omega)).mono ?_
  rintro e w2 ⟨rfl, hb2'⟩
  have B2 : Below w.heap.size w w2 := B1.trans (hb2'.mono z1)
  have z2 := B2.size
  clear hb1' hb2'
  go_wp2_with fail
  refine (word_Project A S ca cs a s w2 ((ha.below B2).more z2) (by omega) ((hs.below B2).more z2) (by omega) HS.out).mono ?_
  rintro e w3 ⟨A3, c3, rfl, k1, k2, k3, hb3'⟩
  have B3 : Below w.heap.size w w3 := B2.trans (hb3'.mono z2)
  have z3 := B3.size
  clear hb3'
  go_wp2_with fail
  refine (word_Project C F cc cf b f w3 ((hb.below B3).more z3) (by omega) ((hf.below B3).more z3) (by omega) HF.out).mono ?_
  rintro e w4 ⟨A4, c4, rfl, m1, m2, m3, hb4'⟩
  have B4 : Below w.heap.size w w4 := B3.trans (hb4'.mono z3)
  have z4 := B4.size
  have k4 : RdI w4 w4.heap.size A3 (projW a s) := (k3.below hb4').more hb4'.size
  clear hb4' k3
  go_wp2_with fail
  refine (slices_Equal A3 A4 c3 c4 _ _ w4 k4 k1 k2 m3).mono ?_
  rintro e w5 ⟨rfl, nq, rfl⟩
  rw [heq]
  go_wp2_with fail
  clear k1 k2 k4 m1 m2 m3 q1 q2 heq
  have hm0 : matW f s a b = [] ++ mtW f s (a.length + b.length) a b := rfl
  have HM0 := Lib.hid hm0
  clear hm0
  go_loopw [0, 2, 8] (fun sa sb so wr => ∃ (A' C' : Option Addr) (na nb ka kb N : Nat) (l m acc : List Int), sa = .slice A' na ka ∧ sb = .slice C' nb kb ∧ Hid (l.length = na) ∧ Hid (m.length = nb) ∧ na ≤ ka ∧ ka ≤ 9223372036854775807 ∧ nb ≤ kb ∧ kb ≤ 9223372036854775807 ∧
      RdI w w.heap.size A' l ∧ RdI w w.heap.size C' m ∧ acc.length + (na + nb) ≤ 2000000 ∧ na + nb ≤ N ∧ Hid (matW f s a b = acc ++ mtW f s N l m) ∧ Hid (projW l s = projW m f) ∧
      Hid (wr.ownsRow w.heap.size 3 1 so acc.length (iv acc)) ∧ Below w.heap.size w wr) (fun sa sb _ _ => lnV sa + lnV sb)
  case atStart => exact ⟨A, C, a.length, b.length, ca, cc, a.length + b.length, a, b, [], rfl, rfl, Lib.hid rfl, Lib.hid rfl, ha1, ha2, hb1, hb2, ha, hb, by simp; omega, Nat.le_refl _, HM0.out, HP.out, World.ownsRow_nil _ _ _ _, below_drewN B4 _⟩
  case round =>
    clear ha ha1 ha2 hb hb1 hb2 hal hbl HM0 HP B1 B2 B3 B4 z1 z2 z3 z4
    obtain ⟨A', C', na, nb, ka, kb, N, l, m, acc, rfl, rfl, HL, HMM, hna, hka, hnb, hkb, hrl, hrm, hacc, hN, HM, HP, HO, hbel⟩ := hrel
    have hsz := hbel.size
    have hs' := (hs.below hbel).more hsz
    have hf' := (hf.below hbel).more hsz
    by_cases h0 : na = 0
    · subst h0
      by_cases h1 : nb = 0
      · subst h1
        have hl0 : l = [] := List.eq_nil_of_length_eq_zero HL.out
        have hm0 : m = [] := List.eq_nil_of_length_eq_zero HMM.out
        have hfin := HM.out
        rw [hl0, hm0, mt_end, List.append_nil] at hfin
        have HFI := Lib.hid hfin; clear hfin
        clear hl0 hm0
        obtain ⟨A9, c9, rfl, j1, j2, j3⟩ := own_slI HO.out
        go_wp2
        go_ret3
        rw [HFI.out]
        exact ⟨A9, c9, rfl, j1, j2, j3, hbel⟩
      · obtain ⟨M, rfl⟩ : ∃ M, N = M + 1 := ⟨N - 1, by omega⟩
        obtain ⟨bd, y, rfl, hbdB, hy, hcy⟩ := hrm.at_ (k := 0) (by have := HMM.out; omega)
        rw [add_zero'] at hcy
        have hcy' := (hbel.cell (p := bd) hbdB).trans hcy
        obtain ⟨C1, hsb, hrb⟩ := slice_tail (P := Try.prog) 22 3 Try.underlying22 (by kernel_rfl) w w.heap.size (some bd) m nb kb HMM.out (by omega) hnb hrm
        have HY := Lib.hid hy; clear hy
        have b3 : (0 : Int) < (nb : Int) := by omega
        have b4 : (1 : Int) ≤ (nb : Int) := by omega
        clear hcy
        cases hqf : hasB f y with
        | true =>
          have h9 := HP.out
          rw [proj_yes HY.out hqf, List.eq_nil_of_length_eq_zero HL.out] at h9
          cases h9
        | false =>
          go_wp2_with fail
          refine (alphabet_Contains F cf f y wr hf' (by omega) HF.out).mono ?_
          rintro e w' ⟨rfl, rfl⟩
          rw [hqf]
          go_wp2_with fail
          go_quiet (fail)
          go_wp2_with fail
          go_region_held3 (fun w' => w'.cell? bd = some (.int .i64 y)) (first | go_keep | exact ((hb8.cell (p := bd) hbdB).trans ((World.cell?_alloc_lt _ _ _ (Nat.lt_of_lt_of_le hbdB hsz)).trans hcy')))
            ((refine step_push _ (.int .i64 y) (by rfl) _ _ _ (by rfl) w.heap.size 3 (.int .i64 0) 8 Try.underlying22 int_info (by rfl) u8 acc.length (iv acc) (by rfl) (HO.out.alloc _) ⟨wr.heap.size, 0, none⟩ (by rfl) (cell_one _ _ _) rfl (by omega) (by omega) (alloc_le _ hsz) ?_; intro gg cap w8 ho8 hb8))
          go_wp2
          go_roundw
          case rel => exact ⟨_, C1, _, nb - 1, ka, kb - 1, M, l, m.drop 1, acc ++ [y], rfl, rfl, HL, Lib.hid (by rw [List.length_drop, HMM.out]), hna, hka, by omega, by omega, hrl, hrb, by simp; omega, by omega, Lib.hid (by rw [HM.out, mt_b HY.out hqf (fun x' hx' => by have := get_lt hx'; have := HL.out; omega), List.append_assoc]; rfl), Lib.hid (by rw [← proj_no HY.out hqf]; exact HP.out), (by rw [iv_append, List.length_append]; exact ho8), (by first | exact (Below.alloc hbel hsz _).trans hb8 | exact (Below.alloc hbel.drew hsz _).trans hb8 | exact (Below.alloc (below_drewN hbel _) hsz _).trans hb8 | exact (Below.alloc (below_drewN hbel _).drew hsz _).trans hb8)⟩
          case measure => simp [lnV]; omega
    · obtain ⟨M, rfl⟩ : ∃ M, N = M + 1 := ⟨N - 1, by omega⟩
      obtain ⟨ad, x, rfl, hadB, hx, hcx⟩ := hrl.at_ (k := 0) (by have := HL.out; omega)
      rw [add_zero'] at hcx
      have hcx' := (hbel.cell (p := ad) hadB).trans hcx
      obtain ⟨A1, hsa, hra⟩ := slice_tail (P := Try.prog) 22 3 Try.underlying22 (by kernel_rfl) w w.heap.size (some ad) l na ka HL.out (by omega) hna hrl
      have HX := Lib.hid hx; clear hx
      have b1 : (0 : Int) < (na : Int) := by omega
      have b2 : (1 : Int) ≤ (na : Int) := by omega
      clear hcx
      by_cases h1 : nb = 0
      · subst h1
        cases hqs : hasB s x with
        | true =>
          have h9 := HP.out
          rw [proj_yes HX.out hqs, List.eq_nil_of_length_eq_zero HMM.out] at h9
          cases h9
        | false =>
          go_wp2_with fail
          refine (alphabet_Contains S cs s x wr hs' (by omega) HS.out).mono ?_
          rintro e w' ⟨rfl, rfl⟩
          rw [hqs]
          go_wp2_with fail
          go_quiet (fail)
          go_wp2_with fail
          go_region_held3 (fun w' => w'.cell? ad = some (.int .i64 x)) (first | go_keep | exact ((hb8.cell (p := ad) hadB).trans ((World.cell?_alloc_lt _ _ _ (Nat.lt_of_lt_of_le hadB hsz)).trans hcx')))
            ((refine step_push _ (.int .i64 x) (by rfl) _ _ _ (by rfl) w.heap.size 3 (.int .i64 0) 8 Try.underlying22 int_info (by rfl) u8 acc.length (iv acc) (by rfl) (HO.out.alloc _) ⟨wr.heap.size, 0, none⟩ (by rfl) (cell_one _ _ _) rfl (by omega) (by omega) (alloc_le _ hsz) ?_; intro gg cap w8 ho8 hb8))
          go_wp2
          go_roundw
          case rel => exact ⟨A1, _, na - 1, _, ka - 1, kb, M, l.drop 1, m, acc ++ [x], rfl, rfl, Lib.hid (by rw [List.length_drop, HL.out]), HMM, by omega, by omega, hnb, hkb, hra, hrm, by simp; omega, by omega, Lib.hid (by rw [HM.out, mt_a HX.out hqs (fun y' hy' => by have := get_lt hy'; have := HMM.out; omega), List.append_assoc]; rfl), Lib.hid (by rw [← proj_no HX.out hqs]; exact HP.out), (by rw [iv_append, List.length_append]; exact ho8), (by first | exact (Below.alloc hbel hsz _).trans hb8 | exact (Below.alloc hbel.drew hsz _).trans hb8 | exact (Below.alloc (below_drewN hbel _) hsz _).trans hb8 | exact (Below.alloc (below_drewN hbel _).drew hsz _).trans hb8)⟩
          case measure => simp [lnV]; omega
      · have h2 : 0 < nb := by omega
        obtain ⟨bd, y, rfl, hbdB, hy, hcy⟩ := hrm.at_ (k := 0) (by have := HMM.out; omega)
        rw [add_zero'] at hcy
        have hcy' := (hbel.cell (p := bd) hbdB).trans hcy
        obtain ⟨C1, hsb, hrb⟩ := slice_tail (P := Try.prog) 22 3 Try.underlying22 (by kernel_rfl) w w.heap.size (some bd) m nb kb HMM.out (by omega) hnb hrm
        have HY := Lib.hid hy; clear hy
        have b3 : (0 : Int) < (nb : Int) := by omega
        have b4 : (1 : Int) ≤ (nb : Int) := by omega
        clear hcy
        cases hqs : hasB s x with
        | false =>
          cases hqf : hasB f y with
          | true =>
            go_wp2_with fail
            refine (alphabet_Contains S cs s x wr hs' (by omega) HS.out).mono ?_
            rintro e w' ⟨rfl, rfl⟩
            rw [hqs]
            go_wp2_with fail
            refine (alphabet_Contains F cf f y wr hf' (by omega) HF.out).mono ?_
            rintro e w' ⟨rfl, rfl⟩
            rw [hqf]
            go_wp2_with fail
            go_quiet (fail)
            go_wp2_with fail
            go_region_held3 (fun w' => w'.cell? ad = some (.int .i64 x)) (first | go_keep | exact ((hb8.cell (p := ad) hadB).trans ((World.cell?_alloc_lt _ _ _ (Nat.lt_of_lt_of_le hadB hsz)).trans hcx')))
              ((refine step_push _ (.int .i64 x) (by rfl) _ _ _ (by rfl) w.heap.size 3 (.int .i64 0) 8 Try.underlying22 int_info (by rfl) u8 acc.length (iv acc) (by rfl) (HO.out.alloc _) ⟨wr.heap.size, 0, none⟩ (by rfl) (cell_one _ _ _) rfl (by omega) (by omega) (alloc_le _ hsz) ?_; intro gg cap w8 ho8 hb8))
            go_wp2
            go_roundw
            case rel => exact ⟨A1, _, na - 1, _, ka - 1, kb, M, l.drop 1, m, acc ++ [x], rfl, rfl, Lib.hid (by rw [List.length_drop, HL.out]), HMM, by omega, by omega, hnb, hkb, hra, hrm, by simp; omega, by omega, Lib.hid (by rw [HM.out, mt_a HX.out hqs (fun y' hy' => by rw [HY.out] at hy'; injection hy' with hy'; subst hy'; exact .inl hqf), List.append_assoc]; rfl), Lib.hid (by rw [← proj_no HX.out hqs]; exact HP.out), (by rw [iv_append, List.length_append]; exact ho8), (by first | exact (Below.alloc hbel hsz _).trans hb8 | exact (Below.alloc hbel.drew hsz _).trans hb8 | exact (Below.alloc (below_drewN hbel _) hsz _).trans hb8 | exact (Below.alloc (below_drewN hbel _).drew hsz _).trans hb8)⟩
            case measure => simp [lnV]; omega
          | false =>
            by_cases hxy : x < y
            · skip
              go_wp2_with fail
              refine (alphabet_Contains S cs s x wr hs' (by omega) HS.out).mono ?_
              rintro e w' ⟨rfl, rfl⟩
              rw [hqs]
              go_wp2_with fail
              refine (alphabet_Contains F cf f y wr hf' (by omega) HF.out).mono ?_
              rintro e w' ⟨rfl, rfl⟩
              rw [hqf]
              go_wp2_with fail
              go_quiet (fail)
              go_wp2_with fail
              go_region_held3 (fun w' => w'.cell? ad = some (.int .i64 x)) (first | go_keep | exact ((hb8.cell (p := ad) hadB).trans ((World.cell?_alloc_lt _ _ _ (Nat.lt_of_lt_of_le hadB hsz)).trans hcx')))
                ((refine step_push _ (.int .i64 x) (by rfl) _ _ _ (by rfl) w.heap.size 3 (.int .i64 0) 8 Try.underlying22 int_info (by rfl) u8 acc.length (iv acc) (by rfl) (HO.out.alloc _) ⟨wr.heap.size, 0, none⟩ (by rfl) (cell_one _ _ _) rfl (by omega) (by omega) (alloc_le _ hsz) ?_; intro gg cap w8 ho8 hb8))
              go_wp2
              go_roundw
              case rel => exact ⟨A1, _, na - 1, _, ka - 1, kb, M, l.drop 1, m, acc ++ [x], rfl, rfl, Lib.hid (by rw [List.length_drop, HL.out]), HMM, by omega, by omega, hnb, hkb, hra, hrm, by simp; omega, by omega, Lib.hid (by rw [HM.out, mt_a HX.out hqs (fun y' hy' => by rw [HY.out] at hy'; injection hy' with hy'; subst hy'; exact .inr hxy), List.append_assoc]; rfl), Lib.hid (by rw [← proj_no HX.out hqs]; exact HP.out), (by rw [iv_append, List.length_append]; exact ho8), (by first | exact (Below.alloc hbel hsz _).trans hb8 | exact (Below.alloc hbel.drew hsz _).trans hb8 | exact (Below.alloc (below_drewN hbel _) hsz _).trans hb8 | exact (Below.alloc (below_drewN hbel _).drew hsz _).trans hb8)⟩
              case measure => simp [lnV]; omega
            · have hxy2 : decide (x < y) = false := decide_eq_false hxy
              go_wp2_with fail
              refine (alphabet_Contains S cs s x wr hs' (by omega) HS.out).mono ?_
              rintro e w' ⟨rfl, rfl⟩
              rw [hqs]
              go_wp2_with fail
              refine (alphabet_Contains F cf f y wr hf' (by omega) HF.out).mono ?_
              rintro e w' ⟨rfl, rfl⟩
              rw [hqf]
              go_wp2_with fail
              go_quiet (fail)
              go_wp2_with fail
              go_region_held3 (fun w' => w'.cell? bd = some (.int .i64 y)) (first | go_keep | exact ((hb8.cell (p := bd) hbdB).trans ((World.cell?_alloc_lt _ _ _ (Nat.lt_of_lt_of_le hbdB hsz)).trans hcy')))
                ((refine step_push _ (.int .i64 y) (by rfl) _ _ _ (by rfl) w.heap.size 3 (.int .i64 0) 8 Try.underlying22 int_info (by rfl) u8 acc.length (iv acc) (by rfl) (HO.out.alloc _) ⟨wr.heap.size, 0, none⟩ (by rfl) (cell_one _ _ _) rfl (by omega) (by omega) (alloc_le _ hsz) ?_; intro gg cap w8 ho8 hb8))
              go_wp2
              go_roundw
              case rel => exact ⟨_, C1, _, nb - 1, ka, kb - 1, M, l, m.drop 1, acc ++ [y], rfl, rfl, HL, Lib.hid (by rw [List.length_drop, HMM.out]), hna, hka, by omega, by omega, hrl, hrb, by simp; omega, by omega, Lib.hid (by rw [HM.out, mt_b HY.out hqf (fun x' hx' => by rw [HX.out] at hx'; injection hx' with hx'; subst hx'; exact .inr (by omega)), List.append_assoc]; rfl), Lib.hid (by rw [← proj_no HY.out hqf]; exact HP.out), (by rw [iv_append, List.length_append]; exact ho8), (by first | exact (Below.alloc hbel hsz _).trans hb8 | exact (Below.alloc hbel.drew hsz _).trans hb8 | exact (Below.alloc (below_drewN hbel _) hsz _).trans hb8 | exact (Below.alloc (below_drewN hbel _).drew hsz _).trans hb8)⟩
              case measure => simp [lnV]; omega
        | true =>
          cases hqf : hasB f y with
          | false =>
            go_wp2_with fail
            refine (alphabet_Contains S cs s x wr hs' (by omega) HS.out).mono ?_
            rintro e w' ⟨rfl, rfl⟩
            rw [hqs]
            go_wp2_with fail
            refine (alphabet_Contains F cf f y wr hf' (by omega) HF.out).mono ?_
            rintro e w' ⟨rfl, rfl⟩
            rw [hqf]
            go_wp2_with fail
            go_quiet (fail)
            go_wp2_with fail
            go_region_held3 (fun w' => w'.cell? bd = some (.int .i64 y)) (first | go_keep | exact ((hb8.cell (p := bd) hbdB).trans ((World.cell?_alloc_lt _ _ _ (Nat.lt_of_lt_of_le hbdB hsz)).trans hcy')))
              ((refine step_push _ (.int .i64 y) (by rfl) _ _ _ (by rfl) w.heap.size 3 (.int .i64 0) 8 Try.underlying22 int_info (by rfl) u8 acc.length (iv acc) (by rfl) (HO.out.alloc _) ⟨wr.heap.size, 0, none⟩ (by rfl) (cell_one _ _ _) rfl (by omega) (by omega) (alloc_le _ hsz) ?_; intro gg cap w8 ho8 hb8))
            go_wp2
            go_roundw
            case rel => exact ⟨_, C1, _, nb - 1, ka, kb - 1, M, l, m.drop 1, acc ++ [y], rfl, rfl, HL, Lib.hid (by rw [List.length_drop, HMM.out]), hna, hka, by omega, by omega, hrl, hrb, by simp; omega, by omega, Lib.hid (by rw [HM.out, mt_b HY.out hqf (fun x' hx' => by rw [HX.out] at hx'; injection hx' with hx'; subst hx'; exact .inl hqs), List.append_assoc]; rfl), Lib.hid (by rw [← proj_no HY.out hqf]; exact HP.out), (by rw [iv_append, List.length_append]; exact ho8), (by first | exact (Below.alloc hbel hsz _).trans hb8 | exact (Below.alloc hbel.drew hsz _).trans hb8 | exact (Below.alloc (below_drewN hbel _) hsz _).trans hb8 | exact (Below.alloc (below_drewN hbel _).drew hsz _).trans hb8)⟩
            case measure => simp [lnV]; omega
          | true =>
            go_wp2_with fail
            refine (alphabet_Contains S cs s x wr hs' (by omega) HS.out).mono ?_
            rintro e w' ⟨rfl, rfl⟩
            rw [hqs]
            go_wp2_with fail
            refine (alphabet_Contains F cf f y wr hf' (by omega) HF.out).mono ?_
            rintro e w' ⟨rfl, rfl⟩
            rw [hqf]
            go_wp2_with fail
            go_quiet (fail)
            go_wp2_with fail
            go_region_held3 (fun w' => w'.cell? ad = some (.int .i64 x)) (first | go_keep | exact ((hb8.cell (p := ad) hadB).trans ((World.cell?_alloc_lt _ _ _ (Nat.lt_of_lt_of_le hadB hsz)).trans hcx')))
              ((refine step_push _ (.int .i64 x) (by rfl) _ _ _ (by rfl) w.heap.size 3 (.int .i64 0) 8 Try.underlying22 int_info (by rfl) u8 acc.length (iv acc) (by rfl) (HO.out.alloc _) ⟨wr.heap.size, 0, none⟩ (by rfl) (cell_one _ _ _) rfl (by omega) (by omega) (alloc_le _ hsz) ?_; intro gg cap w8 ho8 hb8))
            go_wp2
            go_roundw
            case rel => exact ⟨A1, C1, na - 1, nb - 1, ka - 1, kb - 1, M, l.drop 1, m.drop 1, acc ++ [x], rfl, rfl, Lib.hid (by rw [List.length_drop, HL.out]), Lib.hid (by rw [List.length_drop, HMM.out]), by omega, by omega, by omega, by omega, hra, hrb, by simp; omega, by omega, Lib.hid (by rw [HM.out, mt_c HX.out HY.out hqs hqf, List.append_assoc]; rfl), Lib.hid (proj_both HX.out HY.out hqs hqf HP.out), (by rw [iv_append, List.length_append]; exact ho8), (by first | exact (Below.alloc hbel hsz _).trans hb8 | exact (Below.alloc hbel.drew hsz _).trans hb8 | exact (Below.alloc (below_drewN hbel _) hsz _).trans hb8 | exact (Below.alloc (below_drewN hbel _).drew hsz _).trans hb8)⟩
            case measure => simp [lnV]; omega

set_option maxHeartbeats 800000 in
theorem match_err1 (A C F S : Option Addr) (ca cc cf cs : Nat) (a b f s : List Int) (w : World) (ha : RdI w w.heap.size A a)
    (hf : RdI w w.heap.size F f) (hf1 : f.length ≤ cf) (hf2 : cf ≤ 9223372036854775807) (hal : a.length ≤ 1000000) (hfl : f.length ≤ 1000000) (e1 : chkW a f ≠ 0) :
    Calls Try.prog 22 #[.slice A a.length ca, .slice F f.length cf, .slice C b.length cc, .slice S s.length cs] w (RetM [] false (chkW a f) w) := by
  have q1 : (chkW a f != 0) = true := by simpa using e1
  clear e1
  go_enter Try.func22, Try.ntmps22
  go_wp2_with fail
  refine (word_Check A F ca cf a f w ha (by omega) hf hf1 hf2 (by omega)).mono ?_
  rintro e w1 ⟨rfl, hb1'⟩
  go_wp2
  go_ret3
  exact ⟨none, 0, rfl, by simp, by decide, RdI.nil, hb1'⟩

set_option maxHeartbeats 800000 in
theorem match_err2 (A C F S : Option Addr) (ca cc cf cs : Nat) (a b f s : List Int) (w : World) (ha : RdI w w.heap.size A a) (hb : RdI w w.heap.size C b)
    (hf : RdI w w.heap.size F f) (hf1 : f.length ≤ cf) (hf2 : cf ≤ 9223372036854775807) (hs : RdI w w.heap.size S s) (hs1 : s.length ≤ cs) (hs2 : cs ≤ 9223372036854775807)
    (hal : a.length ≤ 1000000) (hbl : b.length ≤ 1000000) (hfl : f.length ≤ 1000000) (hsl : s.length ≤ 1000000) (e1 : chkW a f = 0) (e2 : chkW b s ≠ 0) :
    Calls Try.prog 22 #[.slice A a.length ca, .slice F f.length cf, .slice C b.length cc, .slice S s.length cs] w (RetM [] false (chkW b s) w) := by
  have q1 : (chkW a f != 0) = false := by simp [e1]
  have q2 : (chkW b s != 0) = true := by simpa using e2
  clear e1 e2
  go_enter Try.func22, Try.ntmps22
  go_wp2_with fail
  refine (word_Check A F ca cf a f w ha (by omega) hf hf1 hf2 (by omega)).mono ?_
  rintro e w1 ⟨rfl, B1⟩
  go_wp2_with fail
  have z1 := B1.size
  refine (word_Check C S cc cs b s w1 ((hb.below B1).more z1) (by omega) ((hs.below B1).more z1) hs1 hs2 (by omega)).mono ?_
  rintro e w2 ⟨rfl, hb2'⟩
  go_wp2
  go_ret3
  exact ⟨none, 0, rfl, by simp, by decide, RdI.nil, B1.trans (hb2'.mono z1)⟩

set_option maxHeartbeats 800000 in
theorem match_no (A C F S : Option Addr) (ca cc cf cs : Nat) (a b f s : List Int) (w : World) (ha : RdI w w.heap.size A a) (hb : RdI w w.heap.size C b)
    (hf : RdI w w.heap.size F f) (hf1 : f.length ≤ cf) (hf2 : cf ≤ 9223372036854775807) (hs : RdI w w.heap.size S s) (hs1 : s.length ≤ cs) (hs2 : cs ≤ 9223372036854775807)
    (hal : a.length ≤ 1000000) (hbl : b.length ≤ 1000000) (hfl : f.length ≤ 1000000) (hsl : s.length ≤ 1000000) (e1 : chkW a f = 0) (e2 : chkW b s = 0) (fi : Inc f) (si : Inc s) (hp : projW a s ≠ projW b f) :
    Calls Try.prog 22 #[.slice A a.length ca, .slice F f.length cf, .slice C b.length cc, .slice S s.length cs] w (RetM [] false 0 w) := by
  have q1 : (chkW a f != 0) = false := by simp [e1]
  have q2 : (chkW b s != 0) = false := by simp [e2]
  have heq : eqB (projW a s) (projW b f) = false := by unfold eqB; exact decide_eq_false hp
  have HF := Lib.hid fi
  have HS := Lib.hid si
  clear fi si hp e1 e2
  go_enter Try.func22, Try.ntmps22
  go_wp2_with fail
  refine (word_Check A F ca cf a f w ha (by omega) hf hf1 hf2 (by omega)).mono ?_
  rintro e w1 ⟨rfl, B1⟩
  go_wp2_with fail
  have z1 := B1.size
  refine (word_Check C S cc cs b s w1 ((hb.below B1).more z1) (by omega) ((hs.below B1).more z1) hs1 hs2 (by omega)).mono ?_
  rintro e w2 ⟨rfl, hb2'⟩
  have B2 : Below w.heap.size w w2 := B1.trans (hb2'.mono z1)
  have z2 := B2.size
  clear hb2'
  go_wp2_with fail
  refine (word_Project A S ca cs a s w2 ((ha.below B2).more z2) (by omega) ((hs.below B2).more z2) (by omega) HS.out).mono ?_
  rintro e w3 ⟨A3, c3, rfl, k1, k2, k3, hb3'⟩
  have B3 : Below w.heap.size w w3 := B2.trans (hb3'.mono z2)
  have z3 := B3.size
  clear hb3'
  go_wp2_with fail
  refine (word_Project C F cc cf b f w3 ((hb.below B3).more z3) (by omega) ((hf.below B3).more z3) (by omega) HF.out).mono ?_
  rintro e w4 ⟨A4, c4, rfl, m1, m2, m3, hb4'⟩
  have B4 : Below w.heap.size w w4 := B3.trans (hb4'.mono z3)
  have k4 : RdI w4 w4.heap.size A3 (projW a s) := (k3.below hb4').more hb4'.size
  go_wp2_with fail
  refine (slices_Equal A3 A4 c3 c4 _ _ w4 k4 k1 k2 m3).mono ?_
  rintro e w5 ⟨rfl, nq, rfl⟩
  rw [heq]
  go_wp2
  go_ret3
  exact ⟨none, 0, rfl, by simp, by decide, RdI.nil, below_drewN B4 _⟩
end Go.Proofs.Ytcbhencebflgcaa
