/- Walk: maximality.Ranks. -/
import Derived.Test.YtdnmpndnpfklcaaXt
import Derived.Test.YtdnmpndnpfklcaaMi
import Derived.Test.YtdnmpndnpfklcaaUk
import Derived.Test.YtdnmpndnpfklcaaJv

namespace Go.Proofs.Ytdnmpndnpfklcaa
open Go.RowKit Go Go.Maps

end Go.Proofs.Ytdnmpndnpfklcaa
/- The law's small functions: same, has, removal. -/
namespace Go.Proofs.Ytdnmpndnpfklcaa
open Go.RowKit Go Go.Maps

set_option maxHeartbeats 400000 in
theorem law_same28 (A B : Option Addr) (c d : Nat) (a b : List Int) (w : World) (ha : RdI w w.heap.size A a) (hac : a.length ≤ c) (hc : c ≤ 9223372036854775807)
    (hb : RdI w w.heap.size B b) :
    Calls Try.prog 18 #[.slice A a.length c, .slice B b.length d] w fun e w' => e = .returned (.bool (eqB a b)) ∧ ∃ n, w' = w.drewN n := by
  by_cases hl : a.length = b.length
  · have hl1 : ((a.length : Int) != (b.length : Int)) = false := by simp [hl]
    have HL := Lib.hid hl; clear hl
    go_enter Try.func18, Try.ntmps18
    go_wp2
    go_loopw [5] (fun i wr => ∃ k : Nat, k ≤ a.length ∧ i = .int .i64 k ∧ Hid (a.take k = b.take k) ∧ ∃ n, wr = w.drewN n) (fun i _ => a.length - (intOf i).toNat)
    case atStart => exact ⟨0, Nat.zero_le _, rfl, Lib.hid rfl, (by first | exact dr00 _ | exact dr0 _ _ | exact dr1 _ _ _ | exact dr2 _ _ _ _ | exact dr3 _ _ _ _ _)⟩
    case round =>
      obtain ⟨k, hk, rfl, HX, n, rfl⟩ := hrel
      by_cases hlt : k < a.length
      · obtain ⟨ad, x, rfl, _, hx, hcx⟩ := ha.at_ hlt
        obtain ⟨bd, y, rfl, _, hy, hcy⟩ := hb.at_ (k := k) (by have := HL.out; omega)
        have HXX := Lib.hid hx; clear hx
        have HYY := Lib.hid hy; clear hy
        have hkb : k < b.length := by have := HL.out; omega
        have b1 : (k : Int) < (a.length : Int) := by omega
        have b2 : (k : Int) < (b.length : Int) := by omega
        by_cases hxy : x = y
        · subst hxy
          go_wp2
          go_quiet (fail)
          go_wp2
          go_roundw
          case rel => exact ⟨k + 1, by omega, by go_num, Lib.hid (take_eq_snoc HXX.out HYY.out HX.out), (by first | exact dr00 _ | exact dr0 _ _ | exact dr1 _ _ _ | exact dr2 _ _ _ _ | exact dr3 _ _ _ _ _)⟩
          case measure => simp [intOf]; omega
        · have hxy' : (x != y) = true := by simpa using hxy
          go_wp2
          go_quiet (fail)
          go_wp2
          go_ret
          exact ⟨ret_bool (ne_of_get HXX.out HYY.out hxy).symm, (by first | exact dr00 _ | exact dr0 _ _ | exact dr1 _ _ _ | exact dr2 _ _ _ _ | exact dr3 _ _ _ _ _)⟩
      · go_wp2
        go_ret
        exact ⟨ret_bool (eqB_of (eq_of_drop HL.out HX.out hlt)).symm, (by first | exact dr00 _ | exact dr0 _ _ | exact dr1 _ _ _ | exact dr2 _ _ _ _ | exact dr3 _ _ _ _ _)⟩
  · have hl1 : ((a.length : Int) != (b.length : Int)) = true := by rw [bne_iff_ne]; omega
    have HL := Lib.hid hl; clear hl
    go_enter Try.func18, Try.ntmps18
    go_wp2
    go_ret
    exact ⟨ret_bool (ne_of_len HL.out).symm, (by first | exact dr00 _ | exact dr0 _ _ | exact dr1 _ _ _ | exact dr2 _ _ _ _ | exact dr3 _ _ _ _ _)⟩

theorem law_same_n (A B : Option Addr) (c d na nb : Nat) (a b : List Int) (q : Bool) (w : World) (hna : a.length = na) (hnb : b.length = nb) (hq : eqB a b = q) (ha : RdI w w.heap.size A a) (hac : na ≤ c) (hc : c ≤ 9223372036854775807)
    (hb : RdI w w.heap.size B b) : Calls Try.prog 18 #[.slice A na c, .slice B nb d] w fun e w' => e = .returned (.bool q) ∧ Below w.heap.size w w' := by
  subst hna hnb hq
  exact (law_same28 A B c d a b w ha hac hc hb).mono fun e w' ⟨h1, n, h2⟩ => ⟨h1, by rw [h2]; exact below_drewN (Below.refl _ _) n⟩
set_option maxHeartbeats 400000 in
theorem law_same04 (A B : Option Addr) (c d : Nat) (a b : List Int) (w : World) (ha : RdI w w.heap.size A a) (hac : a.length ≤ c) (hc : c ≤ 9223372036854775807)
    (hb : RdI w w.heap.size B b) :
    Calls Try.prog 100 #[.slice A a.length c, .slice B b.length d] w fun e w' => e = .returned (.bool (eqB a b)) ∧ ∃ n, w' = w.drewN n := by
  by_cases hl : a.length = b.length
  · have hl1 : ((a.length : Int) != (b.length : Int)) = false := by simp [hl]
    have HL := Lib.hid hl; clear hl
    go_enter Try.func100, Try.ntmps100
    go_wp2
    go_loopw [5] (fun i wr => ∃ k : Nat, k ≤ a.length ∧ i = .int .i64 k ∧ Hid (a.take k = b.take k) ∧ ∃ n, wr = w.drewN n) (fun i _ => a.length - (intOf i).toNat)
    case atStart => exact ⟨0, Nat.zero_le _, rfl, Lib.hid rfl, (by first | exact dr00 _ | exact dr0 _ _ | exact dr1 _ _ _ | exact dr2 _ _ _ _ | exact dr3 _ _ _ _ _)⟩
    case round =>
      obtain ⟨k, hk, rfl, HX, n, rfl⟩ := hrel
      by_cases hlt : k < a.length
      · obtain ⟨ad, x, rfl, _, hx, hcx⟩ := ha.at_ hlt
        obtain ⟨bd, y, rfl, _, hy, hcy⟩ := hb.at_ (k := k) (by have := HL.out; omega)
        have HXX := Lib.hid hx; clear hx
        have HYY := Lib.hid hy; clear hy
        have hkb : k < b.length := by have := HL.out; omega
        have b1 : (k : Int) < (a.length : Int) := by omega
        have b2 : (k : Int) < (b.length : Int) := by omega
        by_cases hxy : x = y
        · subst hxy
          go_wp2
          go_quiet (fail)
          go_wp2
          go_roundw
          case rel => exact ⟨k + 1, by omega, by go_num, Lib.hid (take_eq_snoc HXX.out HYY.out HX.out), (by first | exact dr00 _ | exact dr0 _ _ | exact dr1 _ _ _ | exact dr2 _ _ _ _ | exact dr3 _ _ _ _ _)⟩
          case measure => simp [intOf]; omega
        · have hxy' : (x != y) = true := by simpa using hxy
          go_wp2
          go_quiet (fail)
          go_wp2
          go_ret
          exact ⟨ret_bool (ne_of_get HXX.out HYY.out hxy).symm, (by first | exact dr00 _ | exact dr0 _ _ | exact dr1 _ _ _ | exact dr2 _ _ _ _ | exact dr3 _ _ _ _ _)⟩
      · go_wp2
        go_ret
        exact ⟨ret_bool (eqB_of (eq_of_drop HL.out HX.out hlt)).symm, (by first | exact dr00 _ | exact dr0 _ _ | exact dr1 _ _ _ | exact dr2 _ _ _ _ | exact dr3 _ _ _ _ _)⟩
  · have hl1 : ((a.length : Int) != (b.length : Int)) = true := by rw [bne_iff_ne]; omega
    have HL := Lib.hid hl; clear hl
    go_enter Try.func100, Try.ntmps100
    go_wp2
    go_ret
    exact ⟨ret_bool (ne_of_len HL.out).symm, (by first | exact dr00 _ | exact dr0 _ _ | exact dr1 _ _ _ | exact dr2 _ _ _ _ | exact dr3 _ _ _ _ _)⟩

theorem law_same04_n (A B : Option Addr) (c d na nb : Nat) (a b : List Int) (q : Bool) (w : World) (hna : a.length = na) (hnb : b.length = nb) (hq : eqB a b = q) (ha : RdI w w.heap.size A a) (hac : na ≤ c) (hc : c ≤ 9223372036854775807)
    (hb : RdI w w.heap.size B b) : Calls Try.prog 100 #[.slice A na c, .slice B nb d] w fun e w' => e = .returned (.bool q) ∧ Below w.heap.size w w' := by
  subst hna hnb hq
  exact (law_same04 A B c d a b w ha hac hc hb).mono fun e w' ⟨h1, n, h2⟩ => ⟨h1, by rw [h2]; exact below_drewN (Below.refl _ _) n⟩
theorem hasB_hitD {l : List Int} {k : Nat} {x y : Int} (h : l[k]? = some y) (he : y = x) : hasB (l.drop k) x = true := by
  rw [drop_cons' h]; subst he; simp [hasB]
theorem hasB_goD {l : List Int} {k : Nat} {x y : Int} (h : l[k]? = some y) (he : y ≠ x) : hasB (l.drop k) x = hasB (l.drop (k + 1)) x := by
  rw [drop_cons' h]; simp [hasB, Ne.symm he]
theorem hasB_endD {l : List Int} {k : Nat} {x : Int} (h : ¬ k < l.length) : hasB (l.drop k) x = false := by
  rw [List.drop_of_length_le (by omega)]; rfl
set_option maxRecDepth 100000 in
set_option maxHeartbeats 1600000 in
theorem law_has (A : Option Addr) (c n : Nat) (l : List Int) (x : Int) (r : Bool) (w : World) (hl : l.length = n) (h : RdI w w.heap.size A l) (hn : n ≤ 9223372036854775807) (hr : hasB l x = r) :
    Calls Try.prog 21 #[.slice A n c, .int .i64 x] w fun e w' => e = .returned (.bool r) ∧ w = w' := by
  have HR := Lib.hid (show r = hasB (l.drop 0) x from hr.symm)
  have HL := Lib.hid hl; clear hl
  clear hr
  go_enter Try.func21, Try.ntmps21
  go_wp2
  go_loop [5] (fun i => ∃ k : Nat, k ≤ n ∧ i = .int .i64 k ∧ Hid (r = hasB (l.drop k) x)) (fun i => n - (intOf i).toNat)
  case atStart => exact ⟨0, Nat.zero_le _, rfl, HR⟩
  case round =>
    obtain ⟨k, hk, rfl, HX⟩ := hrel
    clear HR
    by_cases hlt : k < n
    · obtain ⟨ad, y, rfl, hbb, hy, q0⟩ := h.at_ (k := k) (by have := HL.out; omega)
      have b1 : (k : Int) < (n : Int) := by omega
      have HY := Lib.hid hy; clear hy
      by_cases c1 : y = x
      · have d1 : (y == x) = true := by simpa using c1
        have HB := Lib.hid (show r = true by rw [HX.out, hasB_hitD HY.out c1])
        clear c1
        go_wp2
        go_ret
        exact ⟨ret_bool HB.out.symm, rfl⟩
      · have d1 : (y == x) = false := by simpa using c1
        have HB := Lib.hid (show r = hasB (l.drop (k + 1)) x by rw [HX.out, hasB_goD HY.out c1])
        clear c1
        go_wp2
        go_round
        case rel => exact ⟨k + 1, by omega, by go_num, HB⟩
        case measure => simp [intOf]; omega
    · have hf : r = false := by rw [HX.out, hasB_endD (by have := HL.out; omega)]
      have HF := Lib.hid hf; clear hf
      go_wp2
      go_ret
      exact ⟨ret_bool HF.out.symm, rfl⟩
end Go.Proofs.Ytdnmpndnpfklcaa

/- The law's leads and distance. -/
namespace Go.Proofs.Ytdnmpndnpfklcaa
open Go.RowKit Go Go.Maps

end Go.Proofs.Ytdnmpndnpfklcaa

/- The laws' examples (chapters 4 and 28). -/
namespace Go.Proofs.Ytdnmpndnpfklcaa
open Go.RowKit Go Go.Maps

def exW4 (w : World) : World := (((w.alloc (.cells #[.slice (some ⟨w.heap.size + 1, 0, none⟩) 2 2, .int .i64 4, .slice (some ⟨w.heap.size + 1 + 1, 0, none⟩) 1 1, .slice (some ⟨w.heap.size + 1 + 1 + 1, 0, none⟩) 5 5] 32)).alloc (.cells #[.int .i64 0, .int .i64 1] 3)).alloc (.cells #[.int .i64 1] 3)).alloc (.cells #[.int .i64 0, .int .i64 0, .int .i64 1, .int .i64 0, .int .i64 1, .int .i64 2, .int .i64 1, .int .i64 0, .int .i64 1, .int .i64 2, .int .i64 0, .int .i64 3, .int .i64 3, .int .i64 1, .int .i64 2] 67)
theorem exW4_ok (w : World) : Blk (exW4 w) w.heap.size 32 [.slice (some ⟨w.heap.size + 1, 0, none⟩) 2 2, .int .i64 4, .slice (some ⟨w.heap.size + 1 + 1, 0, none⟩) 1 1, .slice (some ⟨w.heap.size + 1 + 1 + 1, 0, none⟩) 5 5] ∧ Blk (exW4 w) (w.heap.size + 1) 3 [.int .i64 0, .int .i64 1] ∧ Blk (exW4 w) (w.heap.size + 1 + 1) 3 [.int .i64 1] ∧ Blk (exW4 w) (w.heap.size + 1 + 1 + 1) 67 [.int .i64 0, .int .i64 0, .int .i64 1, .int .i64 0, .int .i64 1, .int .i64 2, .int .i64 1, .int .i64 0, .int .i64 1, .int .i64 2, .int .i64 0, .int .i64 3, .int .i64 3, .int .i64 1, .int .i64 2] ∧ Below w.heap.size w (exW4 w) := by
  refine ⟨?_, ?_, ?_, ?_, ?_⟩
  · unfold exW4; (repeat (first | (refine Blk.at_ _ _ _ ?_; simp; done) | (refine Blk.at_ _ _ _ rfl) | refine Blk.al ?_ _))
  · unfold exW4; (repeat (first | (refine Blk.at_ _ _ _ ?_; simp; done) | (refine Blk.at_ _ _ _ rfl) | refine Blk.al ?_ _))
  · unfold exW4; (repeat (first | (refine Blk.at_ _ _ _ ?_; simp; done) | (refine Blk.at_ _ _ _ rfl) | refine Blk.al ?_ _))
  · unfold exW4; (repeat (first | (refine Blk.at_ _ _ _ ?_; simp; done) | (refine Blk.at_ _ _ _ rfl) | refine Blk.al ?_ _))
  · unfold exW4; (repeat (first | assumption | exact Below.refl _ _ | refine below_drewN ?_ _ | (refine Below.alloc ?_ ?_ _; rotate_left; · first | (simp; done) | (simp; omega))))
def exW8 (w : World) : World := (((((w.alloc (.cells #[.slice (some ⟨w.heap.size + 1, 0, none⟩) 4 4, .int .i64 4, .slice (some ⟨w.heap.size + 1 + 1, 0, none⟩) 1 1, .slice (some ⟨w.heap.size + 1 + 1 + 1, 0, none⟩) 4 4, .slice (some ⟨w.heap.size + 1 + 1 + 1 + 1, 0, none⟩) 1 1, .slice (some ⟨w.heap.size + 1 + 1 + 1 + 1 + 1, 0, none⟩) 1 1] 34)).alloc (.cells #[.int .i64 0, .int .i64 1, .int .i64 2, .int .i64 3] 3)).alloc (.cells #[.int .i64 0] 3)).alloc (.cells #[.int .i64 0, .int .i64 0, .int .i64 1, .int .i64 0, .int .i64 1, .int .i64 3, .int .i64 1, .int .i64 3, .int .i64 2, .int .i64 3, .int .i64 2, .int .i64 0] 67)).alloc (.cells #[.int .i64 3] 3)).alloc (.cells #[.int .i64 2] 3)
theorem exW8_ok (w : World) : Blk (exW8 w) w.heap.size 34 [.slice (some ⟨w.heap.size + 1, 0, none⟩) 4 4, .int .i64 4, .slice (some ⟨w.heap.size + 1 + 1, 0, none⟩) 1 1, .slice (some ⟨w.heap.size + 1 + 1 + 1, 0, none⟩) 4 4, .slice (some ⟨w.heap.size + 1 + 1 + 1 + 1, 0, none⟩) 1 1, .slice (some ⟨w.heap.size + 1 + 1 + 1 + 1 + 1, 0, none⟩) 1 1] ∧ Blk (exW8 w) (w.heap.size + 1) 3 [.int .i64 0, .int .i64 1, .int .i64 2, .int .i64 3] ∧ Blk (exW8 w) (w.heap.size + 1 + 1) 3 [.int .i64 0] ∧ Blk (exW8 w) (w.heap.size + 1 + 1 + 1) 67 [.int .i64 0, .int .i64 0, .int .i64 1, .int .i64 0, .int .i64 1, .int .i64 3, .int .i64 1, .int .i64 3, .int .i64 2, .int .i64 3, .int .i64 2, .int .i64 0] ∧ Blk (exW8 w) (w.heap.size + 1 + 1 + 1 + 1) 3 [.int .i64 3] ∧ Blk (exW8 w) (w.heap.size + 1 + 1 + 1 + 1 + 1) 3 [.int .i64 2] ∧ Below w.heap.size w (exW8 w) := by
  refine ⟨?_, ?_, ?_, ?_, ?_, ?_, ?_⟩
  · unfold exW8; (repeat (first | (refine Blk.at_ _ _ _ ?_; simp; done) | (refine Blk.at_ _ _ _ rfl) | refine Blk.al ?_ _))
  · unfold exW8; (repeat (first | (refine Blk.at_ _ _ _ ?_; simp; done) | (refine Blk.at_ _ _ _ rfl) | refine Blk.al ?_ _))
  · unfold exW8; (repeat (first | (refine Blk.at_ _ _ _ ?_; simp; done) | (refine Blk.at_ _ _ _ rfl) | refine Blk.al ?_ _))
  · unfold exW8; (repeat (first | (refine Blk.at_ _ _ _ ?_; simp; done) | (refine Blk.at_ _ _ _ rfl) | refine Blk.al ?_ _))
  · unfold exW8; (repeat (first | (refine Blk.at_ _ _ _ ?_; simp; done) | (refine Blk.at_ _ _ _ rfl) | refine Blk.al ?_ _))
  · unfold exW8; (repeat (first | (refine Blk.at_ _ _ _ ?_; simp; done) | (refine Blk.at_ _ _ _ rfl) | refine Blk.al ?_ _))
  · unfold exW8; (repeat (first | assumption | exact Below.refl _ _ | refine below_drewN ?_ _ | (refine Below.alloc ?_ ?_ _; rotate_left; · first | (simp; done) | (simp; omega))))
set_option maxRecDepth 100000 in
set_option maxHeartbeats 1600000 in
theorem law_example04 (w : World) : Calls Try.prog 97 #[] w fun e w' => ∃ x : AV, e = .returned (.agg #[.slice x.A x.na x.ca, .int .i64 x.a.st, .slice x.M x.nm x.cm, .slice x.E x.ne x.ce]) ∧ x.ok w' w'.heap.size ∧ x.a = exL4 ∧ Below w.heap.size w w' := by
  have hk := exW4_ok w
  have Z0 := Lib.hid (hk.1.cell (j := 0) rfl)
  have Z1 := Lib.hid (hk.1.cell (j := 1) rfl)
  have Z2 := Lib.hid (hk.1.cell (j := 2) rfl)
  have Z3 := Lib.hid (hk.1.cell (j := 3) rfl)
  have HK := Lib.hid hk
  clear hk
  go_enter Try.func97, Try.ntmps97
  go_wp2
  rw [show (((w.alloc (.cells #[.slice (some ⟨w.heap.size + 1, 0, none⟩) 2 2, .int .i64 4, .slice (some ⟨w.heap.size + 1 + 1, 0, none⟩) 1 1, .slice (some ⟨w.heap.size + 1 + 1 + 1, 0, none⟩) 5 5] 32)).alloc (.cells #[.int .i64 0, .int .i64 1] 3)).alloc (.cells #[.int .i64 1] 3)).alloc (.cells #[.int .i64 0, .int .i64 0, .int .i64 1, .int .i64 0, .int .i64 1, .int .i64 2, .int .i64 1, .int .i64 0, .int .i64 1, .int .i64 2, .int .i64 0, .int .i64 3, .int .i64 3, .int .i64 1, .int .i64 2] 67) = exW4 w from rfl]
  refine bodyPost_ret (v := .agg #[.slice (some ⟨w.heap.size + 1, 0, none⟩) 2 2, .int .i64 4, .slice (some ⟨w.heap.size + 1 + 1, 0, none⟩) 1 1, .slice (some ⟨w.heap.size + 1 + 1 + 1, 0, none⟩) 5 5]) (by simp [results, Try.results97, go_sem, Z0.out, Z1.out, Z2.out, Z3.out]) rfl ?_
  exact ⟨⟨some ⟨w.heap.size + 1, 0, none⟩, 2, 2, some ⟨w.heap.size + 1 + 1, 0, none⟩, 1, 1, some ⟨w.heap.size + 1 + 1 + 1, 0, none⟩, 5, 5, exL4⟩, rfl, ⟨rfl, by dsimp only; omega, by dsimp only; omega, rdI_blk (l := [0, 1]) HK.out.2.1, rfl, by dsimp only; omega, by dsimp only; omega, rdI_blk (l := [1]) HK.out.2.2.1, rfl, by dsimp only; omega, by dsimp only; omega, rdX_blk (l := exL4.ed) HK.out.2.2.2.1⟩, rfl, HK.out.2.2.2.2⟩
set_option maxRecDepth 100000 in
set_option maxHeartbeats 1600000 in
theorem law_example28 (w : World) : Calls Try.prog 79 #[] w fun e w' => ∃ z : PB, e = .returned (.agg (pbc z).toArray) ∧ z.ok w' w'.heap.size ∧ z.m = exP8 ∧ Below w.heap.size w w' := by
  have hk := exW8_ok w
  have Z0 := Lib.hid (hk.1.cell (j := 0) rfl)
  have Z1 := Lib.hid (hk.1.cell (j := 1) rfl)
  have Z2 := Lib.hid (hk.1.cell (j := 2) rfl)
  have Z3 := Lib.hid (hk.1.cell (j := 3) rfl)
  have Z4 := Lib.hid (hk.1.cell (j := 4) rfl)
  have Z5 := Lib.hid (hk.1.cell (j := 5) rfl)
  have HK := Lib.hid hk
  clear hk
  go_enter Try.func79, Try.ntmps79
  go_wp2
  rw [show (((((w.alloc (.cells #[.slice (some ⟨w.heap.size + 1, 0, none⟩) 4 4, .int .i64 4, .slice (some ⟨w.heap.size + 1 + 1, 0, none⟩) 1 1, .slice (some ⟨w.heap.size + 1 + 1 + 1, 0, none⟩) 4 4, .slice (some ⟨w.heap.size + 1 + 1 + 1 + 1, 0, none⟩) 1 1, .slice (some ⟨w.heap.size + 1 + 1 + 1 + 1 + 1, 0, none⟩) 1 1] 34)).alloc (.cells #[.int .i64 0, .int .i64 1, .int .i64 2, .int .i64 3] 3)).alloc (.cells #[.int .i64 0] 3)).alloc (.cells #[.int .i64 0, .int .i64 0, .int .i64 1, .int .i64 0, .int .i64 1, .int .i64 3, .int .i64 1, .int .i64 3, .int .i64 2, .int .i64 3, .int .i64 2, .int .i64 0] 67)).alloc (.cells #[.int .i64 3] 3)).alloc (.cells #[.int .i64 2] 3) = exW8 w from rfl]
  refine bodyPost_ret (v := .agg #[.slice (some ⟨w.heap.size + 1, 0, none⟩) 4 4, .int .i64 4, .slice (some ⟨w.heap.size + 1 + 1, 0, none⟩) 1 1, .slice (some ⟨w.heap.size + 1 + 1 + 1, 0, none⟩) 4 4, .slice (some ⟨w.heap.size + 1 + 1 + 1 + 1, 0, none⟩) 1 1, .slice (some ⟨w.heap.size + 1 + 1 + 1 + 1 + 1, 0, none⟩) 1 1]) (by simp [results, Try.results79, go_sem, Z0.out, Z1.out, Z2.out, Z3.out, Z4.out, Z5.out]) rfl ?_
  exact ⟨⟨⟨some ⟨w.heap.size + 1, 0, none⟩, 4, 4, some ⟨w.heap.size + 1 + 1, 0, none⟩, 1, 1, some ⟨w.heap.size + 1 + 1 + 1, 0, none⟩, 4, 4, exP8.a⟩, ⟨some ⟨w.heap.size + 1 + 1 + 1 + 1, 0, none⟩, 1, 1, [3]⟩, ⟨some ⟨w.heap.size + 1 + 1 + 1 + 1 + 1, 0, none⟩, 1, 1, [2]⟩⟩, rfl, ⟨⟨rfl, by dsimp only; omega, by dsimp only; omega, rdI_blk (l := [0, 1, 2, 3]) HK.out.2.1, rfl, by dsimp only; omega, by dsimp only; omega, rdI_blk (l := [0]) HK.out.2.2.1, rfl, by dsimp only; omega, by dsimp only; omega, rdX_blk (l := exP8.a.ed) HK.out.2.2.2.1⟩, ⟨rfl, by dsimp only; omega, by dsimp only; omega, rdI_blk (l := [3]) HK.out.2.2.2.2.1⟩, ⟨rfl, by dsimp only; omega, by dsimp only; omega, rdI_blk (l := [2]) HK.out.2.2.2.2.2.1⟩⟩, rfl, HK.out.2.2.2.2.2.2⟩
end Go.Proofs.Ytdnmpndnpfklcaa
