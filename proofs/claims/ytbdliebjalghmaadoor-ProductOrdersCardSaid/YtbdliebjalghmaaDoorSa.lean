/- Walks: slices.Equal, BinarySearch, Clone, Contains at ints; alphabet.Contains. -/
import Derived.Test.YtbdliebjalghmaaDoorRows
import Derived.Test.YtbdliebjalghmaaDoorBase
import Derived.Test.YtbdliebjalghmaaDoorPl
import Derived.WalkLawsBesides
import Derived.BigQuiet
import Derived.Deep.QuietTactic
import Derived.Outline
import Derived.Deep.RegionWith
import Derived.Handy
namespace Go.Proofs.YtbdliebjalghmaaDoor
open Go.RowKit Go

theorem ret_bool {a b : Bool} (h : a = b) : Ending.returned (.bool a) = Ending.returned (.bool b) := by rw [h]
theorem ret_int {k : IntKind} {a b : Int} (h : a = b) : Ending.returned (.int k a) = Ending.returned (.int k b) := by rw [h]
theorem int_info : (Tryd.prog.info? 3).map (fun i => (i.zero, i.size, i.bytes)) = some (some (.int .i64 0), 1, 8) := by kernel_rfl

theorem cmp_isNaN (x : Int) (w : World) : Calls Tryd.prog 100 #[.int .i64 x] w fun e w' => e = .returned (.bool false) ∧ w = w' := by
  go_enter Tryd.func100, Tryd.ntmps100
  go_wp2
  go_ret
  exact ⟨by simp, rfl⟩

theorem slices_isNaN (x : Int) (w : World) : Calls Tryd.prog 91 #[.int .i64 x] w fun e w' => e = .returned (.bool false) ∧ w = w' := by
  go_enter Tryd.func91, Tryd.ntmps91
  go_wp2
  go_ret
  exact ⟨by simp, rfl⟩

set_option maxHeartbeats 400000 in
theorem cmp_Less (x y : Int) (w : World) : Calls Tryd.prog 90 #[.int .i64 x, .int .i64 y] w fun e w' => e = .returned (.bool (decide (x < y))) ∧ w = w' := by
  go_enter Tryd.func90, Tryd.ntmps90
  go_wp2_with (go_at_call 100; refine (cmp_isNaN _ _).mono ?_; rintro e w' ⟨rfl, rfl⟩)
  go_ret
  exact ⟨by simp, rfl⟩

set_option maxHeartbeats 400000 in
theorem slices_Equal (A B : Option Addr) (c d : Nat) (a b : List Int) (w : World) (ha : RdI w w.heap.size A a) (hac : a.length ≤ c) (hc : c ≤ 9223372036854775807)
    (hb : RdI w w.heap.size B b) :
    Calls Tryd.prog 52 #[.slice A a.length c, .slice B b.length d] w fun e w' => e = .returned (.bool (eqB a b)) ∧ ∃ n, w' = w.drewN n := by
  by_cases hl : a.length = b.length
  · have hl1 : ((a.length : Int) != (b.length : Int)) = false := by simp [hl]
    have HL := Lib.hid hl; clear hl
    go_enter Tryd.func52, Tryd.ntmps52
    go_wp2
    go_loopw [13] (fun i wr => ∃ k : Nat, k ≤ a.length ∧ i = .int .i64 k ∧ Hid (a.take k = b.take k) ∧ ∃ n, wr = w.drewN n) (fun i _ => a.length - (intOf i).toNat)
    case atStart => exact ⟨0, Nat.zero_le _, rfl, Lib.hid rfl, (by first | exact dr00 _ | exact dr0 _ _ | exact dr1 _ _ _ | exact dr2 _ _ _ _ | exact dr3 _ _ _ _ _)⟩
    case round =>
      obtain ⟨k, hk, rfl, HX, n, rfl⟩ := hrel
      by_cases hlt : k < a.length
      · obtain ⟨ad, x, rfl, _, hx, hcx⟩ := ha.at_ hlt
        obtain ⟨bd, y, rfl, _, hy, hcy⟩ := hb.at_ (k := k) (by have := HL.out; omega)
        have HXX := Lib.hid hx; clear hx
        have HYY := Lib.hid hy; clear hy
        have hkb : k < b.length := by have := HL.out; omega
        have b1 : (k : Int) < (a.length : Int) := by omega
        have b2 : (k : Int) < (b.length : Int) := by omega
        by_cases hxy : x = y
        · subst hxy
          go_wp2
          go_quiet (fail)
          go_wp2
          go_roundw
          case rel => exact ⟨k + 1, by omega, by go_num, Lib.hid (take_eq_snoc HXX.out HYY.out HX.out), (by first | exact dr00 _ | exact dr0 _ _ | exact dr1 _ _ _ | exact dr2 _ _ _ _ | exact dr3 _ _ _ _ _)⟩
          case measure => simp [intOf]; omega
        · have hxy' : (x != y) = true := by simpa using hxy
          go_wp2
          go_quiet (fail)
          go_wp2
          go_ret
          exact ⟨ret_bool (ne_of_get HXX.out HYY.out hxy).symm, (by first | exact dr00 _ | exact dr0 _ _ | exact dr1 _ _ _ | exact dr2 _ _ _ _ | exact dr3 _ _ _ _ _)⟩
      · go_wp2
        go_ret
        exact ⟨ret_bool (eqB_of (eq_of_drop HL.out HX.out hlt)).symm, (by first | exact dr00 _ | exact dr0 _ _ | exact dr1 _ _ _ | exact dr2 _ _ _ _ | exact dr3 _ _ _ _ _)⟩
  · have hl1 : ((a.length : Int) != (b.length : Int)) = true := by rw [bne_iff_ne]; omega
    have HL := Lib.hid hl; clear hl
    go_enter Tryd.func52, Tryd.ntmps52
    go_wp2
    go_ret
    exact ⟨ret_bool (ne_of_len HL.out).symm, (by first | exact dr00 _ | exact dr0 _ _ | exact dr1 _ _ _ | exact dr2 _ _ _ _ | exact dr3 _ _ _ _ _)⟩

set_option maxHeartbeats 400000 in
theorem slices_BinarySearch (A : Option Addr) (c : Nat) (l : List Int) (x : Int) (w : World) (h : RdI w w.heap.size A l) (hc : l.length ≤ 4611686018427387903) (hs : Inc l) :
    Calls Tryd.prog 76 #[.slice A l.length c, .int .i64 x] w fun e w' => (∃ i : Int, e = .returned (.tuple #[.int .i64 i, .bool (hasB l x)])) ∧ w = w' := by
  have HS := Lib.hid hs; clear hs
  go_enter Tryd.func76, Tryd.ntmps76
  go_wp2
  go_loop [7, 8] (fun i j => ∃ p q : Nat, p ≤ q ∧ q ≤ l.length ∧ i = .int .i64 p ∧ j = .int .i64 q ∧ Hid (LoB l x p) ∧ Hid (HiB l x q)) (fun i j => (intOf j).toNat - (intOf i).toNat)
  case atStart => exact ⟨0, l.length, Nat.zero_le _, Nat.le_refl _, rfl, rfl, fun k y hk => by omega, fun k y hk hy => by have := get_lt hy; omega⟩
  case round =>
    obtain ⟨p, q, hpq, hq, rfl, rfl, H1, H2⟩ := hrel
    by_cases hlt : p < q
    · obtain ⟨ad, y, rfl, hb, hy, hcell⟩ := h.at_ (k := (p + q) / 2) (by omega)
      have HY := Lib.hid hy; clear hy
      by_cases hyx : y < x
      · go_wp2_with (go_at_call 90; refine (cmp_Less _ _ _).mono ?_; rintro e w' ⟨rfl, rfl⟩)
        go_round
        case rel => exact ⟨(p + q) / 2 + 1, q, by omega, by omega, by go_num, rfl, LoB.up HS.out HY.out hyx, H2.out⟩
        case measure => simp [intOf]; omega
      · go_wp2_with (go_at_call 90; refine (cmp_Less _ _ _).mono ?_; rintro e w' ⟨rfl, rfl⟩)
        go_round
        case rel => exact ⟨p, (p + q) / 2, by omega, by omega, rfl, by go_num, H1.out, HiB.down HS.out HY.out (by omega)⟩
        case measure => simp [intOf]; omega
    · obtain rfl : p = q := by omega
      clear hlt hpq
      by_cases hl : p < l.length
      · obtain ⟨ad, y, rfl, hb, hy, hcell⟩ := h.at_ hl
        have HY := Lib.hid hy; clear hy
        by_cases hyx : y = x
        · subst hyx
          go_wp2_with (go_at_call 91; refine (slices_isNaN _ _).mono ?_; rintro e w' ⟨rfl, rfl⟩)
          go_ret2
          exact ⟨⟨_, by rw [bs_some HS.out H1.out H2.out HY.out, beq_self_eq_true]; rfl⟩, rfl⟩
        · have hyx' : (y == x) = false := by simpa using hyx
          go_wp2_with (go_at_call 91; refine (slices_isNaN _ _).mono ?_; rintro e w' ⟨rfl, rfl⟩)
          go_ret2
          exact ⟨⟨_, by rw [bs_some HS.out H1.out H2.out HY.out, hyx']; rfl⟩, rfl⟩
      · go_wp2_with (go_at_call 91; refine (slices_isNaN _ _).mono ?_; rintro e w' ⟨rfl, rfl⟩)
        go_ret2
        exact ⟨⟨_, by rw [bs_none HS.out H1.out H2.out hl]; rfl⟩, rfl⟩

set_option maxHeartbeats 400000 in
theorem alphabet_Contains (A : Option Addr) (c : Nat) (l : List Int) (x : Int) (w : World) (h : RdI w w.heap.size A l) (hc : l.length ≤ 4611686018427387903) (hs : Inc l) :
    Calls Tryd.prog 56 #[.slice A l.length c, .int .i64 x] w fun e w' => e = .returned (.bool (hasB l x)) ∧ w = w' := by
  have HS := Lib.hid hs; clear hs
  go_enter Tryd.func56, Tryd.ntmps56
  go_wp2_with (go_at_call 76; refine (slices_BinarySearch _ _ _ _ _ h hc HS.out).mono ?_; rintro e w' ⟨⟨i, rfl⟩, rfl⟩)
  go_ret
  exact ⟨rfl, rfl⟩

set_option maxHeartbeats 400000 in
theorem slices_Clone (A : Option Addr) (c : Nat) (l : List Int) (w : World) (ha : RdI w w.heap.size A l) (hac : l.length ≤ 17592186044416) :
    Calls Tryd.prog 74 #[.slice A l.length c] w (RetO 3 l w) := by
  rcases A with _ | ad
  · have hl : l = [] := by
      rcases Nat.eq_zero_or_pos l.length with h0 | h0
      · exact List.eq_nil_of_length_eq_zero h0
      · obtain ⟨ad, x, h, _⟩ := ha.at_ h0
        cases h
    subst hl
    have hnil := fun W => Lib.run_eql_slice_nil (P := Tryd.prog) W 26 3 none 0 c 0 0 Tryd.underlying26
    go_enter Tryd.func74, Tryd.ntmps74
    go_wp2
    go_ret
    exact ⟨_, rfl, World.ownsRow_nil _ _ _ _, Below.refl _ _⟩
  · have hnil := fun W => Lib.run_eql_slice_nil (P := Tryd.prog) W 26 3 (some ad) l.length c 0 0 Tryd.underlying26
    go_enter Tryd.func74, Tryd.ntmps74
    go_wp2_with (at_builtin; refine wpList_app _ rfl (.tmp 5) (.tmp 6) 26 rfl w.heap.size 3 (.int .i64 0) 8 Tryd.underlying26 int_info rfl (.slice (some ⟨w.heap.size, 0, none⟩) 0 0) 0 _ rfl (World.ownsRow_lit w #[] 0 (Nat.le_refl _) (by unfold maxLen; omega) rfl) w.heap.size (some ad) l.length c (iv l) (iv_length l) rfl (RdV.alloc ha (Nat.le_refl _) _) (iv_one l) (by omega) (by omega) (by simp) ?_; intro v' w' ho' hg' hb1 hnn)
    go_ret
    have ho : w'.ownsRow w.heap.size 3 1 v' l.length (iv l) := by simpa using ho'
    exact ⟨_, rfl, ho, ((Below.refl _ _).alloc (Nat.le_refl _) _).trans hb1⟩
theorem slices_Equal_n (A B : Option Addr) (c d na nb : Nat) (a b : List Int) (q : Bool) (w : World) (hna : a.length = na) (hnb : b.length = nb) (hq : eqB a b = q) (ha : RdI w w.heap.size A a) (hac : na ≤ c) (hc : c ≤ 9223372036854775807)
    (hb : RdI w w.heap.size B b) : Calls Tryd.prog 52 #[.slice A na c, .slice B nb d] w fun e w' => e = .returned (.bool q) ∧ ∃ n, w' = w.drewN n := by
  subst hna hnb hq; exact slices_Equal A B c d a b w ha hac hc hb
theorem slices_Clone_n (A : Option Addr) (c n : Nat) (l : List Int) (w : World) (hl : l.length = n) (ha : RdI w w.heap.size A l) (hac : n ≤ 17592186044416) :
    Calls Tryd.prog 74 #[.slice A n c] w (RetO 3 l w) := by
  subst hl; exact slices_Clone A c l w ha hac
theorem alphabet_Contains_n (A : Option Addr) (c n : Nat) (l : List Int) (x : Int) (q : Bool) (w : World) (hl : l.length = n) (hq : hasB l x = q) (h : RdI w w.heap.size A l) (hc : n ≤ 4611686018427387903) (hs : Inc l) :
    Calls Tryd.prog 56 #[.slice A n c, .int .i64 x] w fun e w' => e = .returned (.bool q) ∧ w = w' := by
  subst hl hq; exact alphabet_Contains A c l x w h hc hs
end Go.Proofs.YtbdliebjalghmaaDoor
