/- Walks: cmp, slices.BinarySearch, Compare, Equal; alphabet.Contains; word.Compare, word.Equal. -/
import Derived.Test.YtcbhencebflgcaaWa
import Derived.Deep.RegionWith
import Derived.Handy
namespace Go.Proofs.Ytcbhencebflgcaa
open Go.RowKit Go

theorem cmp_isNaN (x : Int) (w : World) : Calls Try.prog 70 #[.int .i64 x] w fun e w' => e = .returned (.bool false) ∧ w = w' := by
  go_enter Try.func70, Try.ntmps70
  go_wp2
  go_ret
  exact ⟨by simp, rfl⟩

theorem slices_isNaN (x : Int) (w : World) : Calls Try.prog 84 #[.int .i64 x] w fun e w' => e = .returned (.bool false) ∧ w = w' := by
  go_enter Try.func84, Try.ntmps84
  go_wp2
  go_ret
  exact ⟨by simp, rfl⟩

set_option maxHeartbeats 400000 in
theorem cmp_Less (x y : Int) (w : World) : Calls Try.prog 83 #[.int .i64 x, .int .i64 y] w fun e w' => e = .returned (.bool (decide (x < y))) ∧ w = w' := by
  go_enter Try.func83, Try.ntmps83
  go_wp2_with (go_at_call 70; refine (cmp_isNaN _ _).mono ?_; rintro e w' ⟨rfl, rfl⟩)
  go_ret
  exact ⟨by simp, rfl⟩

set_option maxHeartbeats 400000 in
theorem cmp_Compare (x y : Int) (w : World) : Calls Try.prog 51 #[.int .i64 x, .int .i64 y] w fun e w' => e = .returned (.int .i64 (cmpI x y)) ∧ w = w' := by
  rcases Int.lt_trichotomy x y with h | h | h
  · go_enter Try.func51, Try.ntmps51
    go_wp2_with (go_at_call 70; refine (cmp_isNaN _ _).mono ?_; rintro e w' ⟨rfl, rfl⟩)
    go_ret
    exact ⟨ret_int (by unfold cmpI; rw [if_pos h]), rfl⟩
  · subst h
    go_enter Try.func51, Try.ntmps51
    go_wp2_with (go_at_call 70; refine (cmp_isNaN _ _).mono ?_; rintro e w' ⟨rfl, rfl⟩)
    go_ret
    exact ⟨ret_int (by unfold cmpI; rw [if_neg (by omega), if_neg (by omega)]), rfl⟩
  · go_enter Try.func51, Try.ntmps51
    go_wp2_with (go_at_call 70; refine (cmp_isNaN _ _).mono ?_; rintro e w' ⟨rfl, rfl⟩)
    go_ret
    exact ⟨ret_int (by unfold cmpI; rw [if_neg (by omega), if_pos h]), rfl⟩

set_option maxHeartbeats 400000 in
theorem slices_Equal (A B : Option Addr) (c d : Nat) (a b : List Int) (w : World) (ha : RdI w w.heap.size A a) (hac : a.length ≤ c) (hc : c ≤ 9223372036854775807)
    (hb : RdI w w.heap.size B b) :
    Calls Try.prog 49 #[.slice A a.length c, .slice B b.length d] w fun e w' => e = .returned (.bool (eqB a b)) ∧ ∃ n, w' = w.drewN n := by
  by_cases hl : a.length = b.length
  · have hl1 : ((a.length : Int) != (b.length : Int)) = false := by simp [hl]
    have HL := Lib.hid hl; clear hl
    go_enter Try.func49, Try.ntmps49
    go_wp2
    go_loopw [13] (fun i wr => ∃ k : Nat, k ≤ a.length ∧ i = .int .i64 k ∧ Hid (a.take k = b.take k) ∧ ∃ n, wr = w.drewN n) (fun i _ => a.length - (intOf i).toNat)
    case atStart => exact ⟨0, Nat.zero_le _, rfl, Lib.hid rfl, (by first | exact dr00 _ | exact dr0 _ _ | exact dr1 _ _ _ | exact dr2 _ _ _ _ | exact dr3 _ _ _ _ _)⟩
    case round =>
      obtain ⟨k, hk, rfl, HX, n, rfl⟩ := hrel
      by_cases hlt : k < a.length
      · obtain ⟨ad, x, rfl, _, hx, hcx⟩ := ha.at_ hlt
        obtain ⟨bd, y, rfl, _, hy, hcy⟩ := hb.at_ (k := k) (by have := HL.out; omega)
        have HXX := Lib.hid hx; clear hx
        have HYY := Lib.hid hy; clear hy
        have hkb : k < b.length := by have := HL.out; omega
        have b1 : (k : Int) < (a.length : Int) := by omega
        have b2 : (k : Int) < (b.length : Int) := by omega
        by_cases hxy : x = y
        · subst hxy
          go_wp2
          go_quiet (fail)
          go_wp2
          go_roundw
          case rel => exact ⟨k + 1, by omega, by go_num, Lib.hid (take_eq_snoc HXX.out HYY.out HX.out), (by first | exact dr00 _ | exact dr0 _ _ | exact dr1 _ _ _ | exact dr2 _ _ _ _ | exact dr3 _ _ _ _ _)⟩
          case measure => simp [intOf]; omega
        · have hxy' : (x != y) = true := by simpa using hxy
          go_wp2
          go_quiet (fail)
          go_wp2
          go_ret
          exact ⟨ret_bool (ne_of_get HXX.out HYY.out hxy).symm, (by first | exact dr00 _ | exact dr0 _ _ | exact dr1 _ _ _ | exact dr2 _ _ _ _ | exact dr3 _ _ _ _ _)⟩
      · go_wp2
        go_ret
        exact ⟨ret_bool (eqB_of (eq_of_drop HL.out HX.out hlt)).symm, (by first | exact dr00 _ | exact dr0 _ _ | exact dr1 _ _ _ | exact dr2 _ _ _ _ | exact dr3 _ _ _ _ _)⟩
  · have hl1 : ((a.length : Int) != (b.length : Int)) = true := by rw [bne_iff_ne]; omega
    have HL := Lib.hid hl; clear hl
    go_enter Try.func49, Try.ntmps49
    go_wp2
    go_ret
    exact ⟨ret_bool (ne_of_len HL.out).symm, (by first | exact dr00 _ | exact dr0 _ _ | exact dr1 _ _ _ | exact dr2 _ _ _ _ | exact dr3 _ _ _ _ _)⟩

set_option maxHeartbeats 400000 in
theorem slices_BinarySearch (A : Option Addr) (c : Nat) (l : List Int) (x : Int) (w : World) (h : RdI w w.heap.size A l) (hc : l.length ≤ 4611686018427387903) (hs : Inc l) :
    Calls Try.prog 69 #[.slice A l.length c, .int .i64 x] w fun e w' => (∃ i : Int, e = .returned (.tuple #[.int .i64 i, .bool (hasB l x)])) ∧ w = w' := by
  have HS := Lib.hid hs; clear hs
  go_enter Try.func69, Try.ntmps69
  go_wp2
  go_loop [7, 8] (fun i j => ∃ p q : Nat, p ≤ q ∧ q ≤ l.length ∧ i = .int .i64 p ∧ j = .int .i64 q ∧ Hid (LoB l x p) ∧ Hid (HiB l x q)) (fun i j => (intOf j).toNat - (intOf i).toNat)
  case atStart => exact ⟨0, l.length, Nat.zero_le _, Nat.le_refl _, rfl, rfl, fun k y hk => by omega, fun k y hk hy => by have := get_lt hy; omega⟩
  case round =>
    obtain ⟨p, q, hpq, hq, rfl, rfl, H1, H2⟩ := hrel
    by_cases hlt : p < q
    · obtain ⟨ad, y, rfl, hb, hy, hcell⟩ := h.at_ (k := (p + q) / 2) (by omega)
      have HY := Lib.hid hy; clear hy
      by_cases hyx : y < x
      · go_wp2_with (go_at_call 83; refine (cmp_Less _ _ _).mono ?_; rintro e w' ⟨rfl, rfl⟩)
        go_round
        case rel => exact ⟨(p + q) / 2 + 1, q, by omega, by omega, by go_num, rfl, LoB.up HS.out HY.out hyx, H2.out⟩
        case measure => simp [intOf]; omega
      · go_wp2_with (go_at_call 83; refine (cmp_Less _ _ _).mono ?_; rintro e w' ⟨rfl, rfl⟩)
        go_round
        case rel => exact ⟨p, (p + q) / 2, by omega, by omega, rfl, by go_num, H1.out, HiB.down HS.out HY.out (by omega)⟩
        case measure => simp [intOf]; omega
    · obtain rfl : p = q := by omega
      clear hlt hpq
      by_cases hl : p < l.length
      · obtain ⟨ad, y, rfl, hb, hy, hcell⟩ := h.at_ hl
        have HY := Lib.hid hy; clear hy
        by_cases hyx : y = x
        · subst hyx
          go_wp2_with (go_at_call 84; refine (slices_isNaN _ _).mono ?_; rintro e w' ⟨rfl, rfl⟩)
          go_ret2
          exact ⟨⟨_, by rw [bs_some HS.out H1.out H2.out HY.out, beq_self_eq_true]; rfl⟩, rfl⟩
        · have hyx' : (y == x) = false := by simpa using hyx
          go_wp2_with (go_at_call 84; refine (slices_isNaN _ _).mono ?_; rintro e w' ⟨rfl, rfl⟩)
          go_ret2
          exact ⟨⟨_, by rw [bs_some HS.out H1.out H2.out HY.out, hyx']; rfl⟩, rfl⟩
      · go_wp2_with (go_at_call 84; refine (slices_isNaN _ _).mono ?_; rintro e w' ⟨rfl, rfl⟩)
        go_ret2
        exact ⟨⟨_, by rw [bs_none HS.out H1.out H2.out hl]; rfl⟩, rfl⟩

set_option maxHeartbeats 400000 in
theorem alphabet_Contains (A : Option Addr) (c : Nat) (l : List Int) (x : Int) (w : World) (h : RdI w w.heap.size A l) (hc : l.length ≤ 4611686018427387903) (hs : Inc l) :
    Calls Try.prog 46 #[.slice A l.length c, .int .i64 x] w fun e w' => e = .returned (.bool (hasB l x)) ∧ w = w' := by
  have HS := Lib.hid hs; clear hs
  go_enter Try.func46, Try.ntmps46
  go_wp2_with (go_at_call 69; refine (slices_BinarySearch _ _ _ _ _ h hc HS.out).mono ?_; rintro e w' ⟨⟨i, rfl⟩, rfl⟩)
  go_ret
  exact ⟨rfl, rfl⟩

set_option maxHeartbeats 400000 in
theorem slices_Compare (A B : Option Addr) (c d : Nat) (a b : List Int) (w : World) (ha : RdI w w.heap.size A a) (hac : a.length ≤ 9223372036854775807)
    (hb : RdI w w.heap.size B b) :
    Calls Try.prog 52 #[.slice A a.length c, .slice B b.length d] w fun e w' => e = .returned (.int .i64 (slC a b)) ∧ w = w' := by
  go_enter Try.func52, Try.ntmps52
  go_wp2
  go_loop [11] (fun i => ∃ k : Nat, k ≤ a.length ∧ k ≤ b.length ∧ i = .int .i64 k ∧ Hid (slC a b = slC (a.drop k) (b.drop k))) (fun i => a.length - (intOf i).toNat)
  case atStart => exact ⟨0, Nat.zero_le _, Nat.zero_le _, rfl, Lib.hid rfl⟩
  case round =>
    obtain ⟨k, hk, hkb, rfl, HX⟩ := hrel
    by_cases hlt : k < a.length
    · obtain ⟨ad, x, rfl, _, hx, hcx⟩ := ha.at_ hlt
      have HXX := Lib.hid hx; clear hx
      by_cases hlb : k < b.length
      · obtain ⟨bd, y, rfl, _, hy, hcy⟩ := hb.at_ hlb
        have HYY := Lib.hid hy; clear hy
        by_cases hz : cmpI x y = 0
        · have hz1 : (cmpI x y != 0) = false := by simpa using hz
          have HZ := Lib.hid hz; clear hz
          go_wp2_with (go_at_call 51; refine (cmp_Compare _ _ _).mono ?_; rintro e w' ⟨rfl, rfl⟩)
          go_round
          case rel => exact ⟨k + 1, by omega, by omega, by go_num, Lib.hid (by rw [HX.out, slC_step HXX.out HYY.out, if_pos HZ.out])⟩
          case measure => simp [intOf]; omega
        · have hz1 : (cmpI x y != 0) = true := by simpa using hz
          have HZ := Lib.hid hz; clear hz
          go_wp2_with (go_at_call 51; refine (cmp_Compare _ _ _).mono ?_; rintro e w' ⟨rfl, rfl⟩)
          go_ret
          exact ⟨ret_int (by rw [HX.out, slC_step HXX.out HYY.out, if_neg HZ.out]), rfl⟩
      · go_wp2
        go_ret
        exact ⟨ret_int (by rw [HX.out, slC_longer HXX.out hlb]), rfl⟩
    · by_cases hlb : k < b.length
      · go_wp2
        go_ret
        exact ⟨ret_int (by rw [HX.out, slC_shorter hlt hlb]), rfl⟩
      · go_wp2
        go_ret
        exact ⟨ret_int (by rw [HX.out, slC_both hlt hlb]), rfl⟩

set_option maxHeartbeats 400000 in
theorem cmp_Or (ad : Addr) (c : Nat) (x y : Int) (w : World) (h0 : w.cell? ad = some (.int .i64 x)) (h1 : w.cell? ⟨ad.block, ad.off + 1, none⟩ = some (.int .i64 y)) :
    Calls Try.prog 50 #[.slice (some ad) 2 c] w fun e w' => e = .returned (.int .i64 (orI x y)) ∧ w = w' := by
  by_cases hx : x = 0
  · subst hx
    by_cases hy : y = 0
    · subst hy
      go_enter Try.func50, Try.ntmps50
      go_wp2
      go_rounds 4
      go_ret
      exact ⟨ret_int (by simp [orI]), rfl⟩
    · have hy' : (y != 0) = true := by simpa using hy
      have HY := Lib.hid hy; clear hy
      go_enter Try.func50, Try.ntmps50
      go_wp2
      go_rounds 4
      go_ret
      exact ⟨ret_int (by simp [orI]), rfl⟩
  · have hx' : (x != 0) = true := by simpa using hx
    have e : orI x y = x := if_pos hx
    have HE := Lib.hid e; clear e
    clear hx
    go_enter Try.func50, Try.ntmps50
    go_wp2
    go_rounds 4
    all_goals (go_ret; exact ⟨ret_int HE.out.symm, rfl⟩)

set_option maxHeartbeats 400000 in
theorem word_Compare (A B : Option Addr) (c d : Nat) (a b : List Int) (w : World) (ha : RdI w w.heap.size A a) (hac : a.length ≤ 9223372036854775807)
    (hb : RdI w w.heap.size B b) :
    Calls Try.prog 24 #[.slice A a.length c, .slice B b.length d] w fun e w' => e = .returned (.int .i64 (cmpW a b)) ∧ Below w.heap.size w w' := by
  have e := cmpW_or a b
  have HE := Lib.hid e; clear e
  go_enter Try.func24, Try.ntmps24
  go_wp2_with (first | (go_at_call 51; refine (cmp_Compare _ _ _).mono ?_; rintro e w' ⟨rfl, rfl⟩) | (go_at_call 52; refine (slices_Compare _ _ _ _ _ _ _ ha hac hb).mono ?_; rintro e w' ⟨rfl, rfl⟩) | (go_at_call 50; refine (cmp_Or _ _ _ _ _ (cell_two_0 _ _ _ _) (cell_two_1 _ _ _ _)).mono ?_; rintro e w' ⟨rfl, rfl⟩))
  go_ret
  exact ⟨ret_int HE.out, (Below.refl _ _).alloc (Nat.le_refl _) _⟩

set_option maxHeartbeats 400000 in
theorem word_Equal (A B : Option Addr) (c d : Nat) (a b : List Int) (w : World) (ha : RdI w w.heap.size A a) (hac : a.length ≤ c) (hc : c ≤ 9223372036854775807)
    (hb : RdI w w.heap.size B b) :
    Calls Try.prog 26 #[.slice A a.length c, .slice B b.length d] w fun e w' => e = .returned (.bool (eqB a b)) ∧ ∃ n, w' = w.drewN n := by
  go_enter Try.func26, Try.ntmps26
  go_wp2_with (go_at_call 49; refine (slices_Equal _ _ _ _ _ _ _ ha hac hc hb).mono ?_; rintro e w' ⟨rfl, n, rfl⟩)
  go_ret
  exact ⟨rfl, (by first | exact dr00 _ | exact dr0 _ _ | exact dr1 _ _ _ | exact dr2 _ _ _ _ | exact dr3 _ _ _ _ _)⟩

set_option maxHeartbeats 400000 in
theorem law_same (A B : Option Addr) (c d : Nat) (a b : List Int) (w : World) (ha : RdI w w.heap.size A a) (hac : a.length ≤ c) (hc : c ≤ 9223372036854775807)
    (hb : RdI w w.heap.size B b) :
    Calls Try.prog 20 #[.slice A a.length c, .slice B b.length d] w fun e w' => e = .returned (.bool (eqB a b)) ∧ ∃ n, w' = w.drewN n := by
  have e := cmpW_zero a b
  have HE := Lib.hid e; clear e
  go_enter Try.func20, Try.ntmps20
  go_wp2_with (go_at_call 25; refine (ref_Compare _ _ _ _ _ _ _ ha hac hc hb).mono ?_; rintro e w' ⟨rfl, n, rfl⟩)
  go_ret
  exact ⟨ret_bool HE.out, (by first | exact dr00 _ | exact dr0 _ _ | exact dr1 _ _ _ | exact dr2 _ _ _ _ | exact dr3 _ _ _ _ _)⟩
end Go.Proofs.Ytcbhencebflgcaa
