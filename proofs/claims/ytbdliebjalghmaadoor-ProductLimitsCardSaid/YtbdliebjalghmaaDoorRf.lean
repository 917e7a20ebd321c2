/- Walks: ref01.Union. -/
import Derived.Test.YtbdliebjalghmaaDoorSd
import Derived.Test.YtbdliebjalghmaaDoorQd
namespace Go.Proofs.YtbdliebjalghmaaDoor
open Go.RowKit Go


set_option maxRecDepth 100000 in
set_option maxHeartbeats 3200000 in
theorem ref_Union (A B : Option Addr) (na nb ca cb : Nat) (a b : List Int) (w : World) (hla : a.length = na) (ha : RdI w w.heap.size A a) (ha1 : na ≤ ca) (ha2 : ca ≤ 9223372036854775807) (hlb : b.length = nb) (hb : RdI w w.heap.size B b) (hb1 : nb ≤ cb) (_hb2 : cb ≤ 9223372036854775807) (hn : na + nb ≤ 1000000) :
    Calls Tryd.prog 57 #[.slice A na ca, .slice B nb cb] w (RetO 3 (mrg a b) w) := by
  have hm0 : mrg a b = [] ++ mrgN (na + nb) (a.drop 0) (b.drop 0) := by subst hla hlb; rfl
  have HM0 := Lib.hid hm0; clear hm0
  have HLA := Lib.hid hla; clear hla
  have HLB := Lib.hid hlb; clear hlb
  go_enter Tryd.func57, Tryd.ntmps57
  go_wp2
  go_loopw [5, 6, 7] (fun so si sk wr => ∃ (i k N m : Nat) (acc : List Int), si = .int .i64 i ∧ sk = .int .i64 k ∧ i ≤ na ∧ k ≤ nb ∧ Hid (acc.length = m) ∧ m ≤ i + k ∧ (na - i) + (nb - k) ≤ N ∧ Hid (mrg a b = acc ++ mrgN N (a.drop i) (b.drop k)) ∧ Hid (wr.ownsRow w.heap.size 3 1 so m (iv acc)) ∧ Hid (Below w.heap.size w wr)) (fun _ si sk _ => (na - (intOf si).toNat) + (nb - (intOf sk).toNat))
  case atStart => exact ⟨0, 0, na + nb, 0, [], rfl, rfl, Nat.zero_le _, Nat.zero_le _, Lib.hid rfl, by omega, by omega, HM0, Lib.hid (World.ownsRow_nil _ _ _ _), Lib.hid (Below.refl _ _)⟩
  case round =>
    clear HM0
    obtain ⟨i, k, N, m, acc, rfl, rfl, hi, hk, HACC, hmn, hN, HM, HO, HB⟩ := hrel
    have hsz := HB.out.size
    by_cases h0 : i < na
    · obtain ⟨ad, x, rfl, hba, hx, hcx⟩ := ((ha.below HB.out).more hsz).at_ (k := i) (by have := HLA.out; omega)
      obtain ⟨N, rfl⟩ : ∃ N', N = N' + 1 := ⟨N - 1, by omega⟩
      have b1 : (i : Int) < (na : Int) := by omega
      by_cases h1 : k < nb
      · obtain ⟨bd, y, rfl, hbb, hy, hcy⟩ := ((hb.below HB.out).more hsz).at_ (k := k) (by have := HLB.out; omega)
        have b2 : (k : Int) < (nb : Int) := by omega
        have b3 : ((k : Int) == (nb : Int)) = false := by rw [beq_eq_false_iff_ne]; omega
        by_cases hlt : x < y
        · have HM2 := Lib.hid (show mrg a b = (acc ++ [x]) ++ mrgN N (a.drop (i + 1)) (b.drop k) by rw [HM.out, mrgN_lt hx hy hlt, List.append_assoc]; rfl)
          have c1 : decide (x ≤ y) = true := decide_eq_true (by omega)
          have c2 : (x == y) = false := by rw [beq_eq_false_iff_ne]; omega
          have HX := Lib.hid hx; clear hx
          have HY := Lib.hid hy; clear hy
          clear hlt
          go_wp2
          go_quiet (fail)
          go_wp2
          go_quiet (fail)
          go_wp2_with (at_builtin; refine wpList_push _ (.int .i64 x) rfl (.tmp 56) (.tmp 61) 26 rfl w.heap.size 3 (.int .i64 0) 8 Tryd.underlying26 int_info rfl u5 m _ rfl (own_drewN HO.out _) rfl rfl (by omega) (by omega) hsz ?_; intro v' w' ho' hg' hb1)
          go_roundw
          case rel =>
            exact ⟨i + 1, k, N, m + 1, acc ++ [x], by go_num, rfl, by omega, by omega, Lib.hid (by rw [List.length_append, HACC.out]; rfl), by omega, by omega, HM2, Lib.hid (by rw [iv_append]; exact ho'), Lib.hid (own_below_of (own_drewN HO.out _) (below_drewN HB.out _) hg' hsz)⟩
          case measure => simp [intOf]; omega
        · by_cases heq : x = y
          · have HM2 := Lib.hid (show mrg a b = (acc ++ [x]) ++ mrgN N (a.drop (i + 1)) (b.drop (k + 1)) by subst heq; rw [HM.out, mrgN_eq hx hy, List.append_assoc]; rfl)
            have c1 : decide (x ≤ y) = true := decide_eq_true (by omega)
            have c2 : (x == y) = true := by rw [beq_iff_eq]; exact heq
            have HX := Lib.hid hx; clear hx
            have HY := Lib.hid hy; clear hy
            clear hlt heq
            go_wp2
            go_quiet (fail)
            go_wp2
            go_quiet (fail)
            go_wp2_with (at_builtin; refine wpList_push _ (.int .i64 x) rfl (.tmp 56) (.tmp 61) 26 rfl w.heap.size 3 (.int .i64 0) 8 Tryd.underlying26 int_info rfl u5 m _ rfl (own_drewN HO.out _) rfl rfl (by omega) (by omega) hsz ?_; intro v' w' ho' hg' hb1)
            go_roundw
            case rel =>
              exact ⟨i + 1, k + 1, N, m + 1, acc ++ [x], by go_num, by go_num, by omega, by omega, Lib.hid (by rw [List.length_append, HACC.out]; rfl), by omega, by omega, HM2, Lib.hid (by rw [iv_append]; exact ho'), Lib.hid (own_below_of (own_drewN HO.out _) (below_drewN HB.out _) hg' hsz)⟩
            case measure => simp [intOf]; omega
          · have HM2 := Lib.hid (show mrg a b = (acc ++ [y]) ++ mrgN N (a.drop i) (b.drop (k + 1)) by rw [HM.out, mrgN_gt hx hy (by omega), List.append_assoc]; rfl)
            have c1 : decide (x ≤ y) = false := decide_eq_false (by omega)
            have HX := Lib.hid hx; clear hx
            have HY := Lib.hid hy; clear hy
            clear hlt heq
            go_wp2
            go_quiet (fail)
            go_wp2_with (at_builtin; refine wpList_push _ (.int .i64 y) rfl (.tmp 65) (.tmp 70) 26 rfl w.heap.size 3 (.int .i64 0) 8 Tryd.underlying26 int_info rfl u5 m _ rfl (own_drewN HO.out _) rfl rfl (by omega) (by omega) hsz ?_; intro v' w' ho' hg' hb1)
            go_roundw
            case rel =>
              exact ⟨i, k + 1, N, m + 1, acc ++ [y], rfl, by go_num, by omega, by omega, Lib.hid (by rw [List.length_append, HACC.out]; rfl), by omega, by omega, HM2, Lib.hid (by rw [iv_append]; exact ho'), Lib.hid (own_below_of (own_drewN HO.out _) (below_drewN HB.out _) hg' hsz)⟩
            case measure => simp [intOf]; omega
      · obtain rfl : k = nb := by omega
        have HM2 := Lib.hid (show mrg a b = (acc ++ [x]) ++ mrgN N (a.drop (i + 1)) (b.drop k) by rw [HM.out, mrgN_a hx (by have := HLB.out; omega), List.append_assoc]; rfl)
        have HX := Lib.hid hx; clear hx
        clear h1
        go_wp2
        go_quiet (fail)
        go_wp2
        go_quiet (fail)
        go_wp2_with (at_builtin; refine wpList_push _ (.int .i64 x) rfl (.tmp 56) (.tmp 61) 26 rfl w.heap.size 3 (.int .i64 0) 8 Tryd.underlying26 int_info rfl u5 m _ rfl (own_drewN HO.out _) rfl rfl (by omega) (by omega) hsz ?_; intro v' w' ho' hg' hb1)
        go_roundw
        case rel =>
          exact ⟨i + 1, k, N, m + 1, acc ++ [x], by go_num, rfl, by omega, by omega, Lib.hid (by rw [List.length_append, HACC.out]; rfl), by omega, by omega, HM2, Lib.hid (by rw [iv_append]; exact ho'), Lib.hid (own_below_of (own_drewN HO.out _) (below_drewN HB.out _) hg' hsz)⟩
        case measure => simp [intOf]; omega
    · obtain rfl : i = na := by omega
      by_cases h1 : k < nb
      · obtain ⟨bd, y, rfl, hbb, hy, hcy⟩ := ((hb.below HB.out).more hsz).at_ (k := k) (by have := HLB.out; omega)
        obtain ⟨N, rfl⟩ : ∃ N', N = N' + 1 := ⟨N - 1, by omega⟩
        have b2 : (k : Int) < (nb : Int) := by omega
        have b3 : ((k : Int) == (nb : Int)) = false := by rw [beq_eq_false_iff_ne]; omega
        have HM2 := Lib.hid (show mrg a b = (acc ++ [y]) ++ mrgN N (a.drop i) (b.drop (k + 1)) by rw [HM.out, mrgN_b (by have := HLA.out; omega) hy, List.append_assoc]; rfl)
        have HY := Lib.hid hy; clear hy
        clear h0
        go_wp2
        go_quiet (fail)
        go_wp2_with (at_builtin; refine wpList_push _ (.int .i64 y) rfl (.tmp 65) (.tmp 70) 26 rfl w.heap.size 3 (.int .i64 0) 8 Tryd.underlying26 int_info rfl u5 m _ rfl (own_drewN HO.out _) rfl rfl (by omega) (by omega) hsz ?_; intro v' w' ho' hg' hb1)
        go_roundw
        case rel =>
          exact ⟨i, k + 1, N, m + 1, acc ++ [y], rfl, by go_num, by omega, by omega, Lib.hid (by rw [List.length_append, HACC.out]; rfl), by omega, by omega, HM2, Lib.hid (by rw [iv_append]; exact ho'), Lib.hid (own_below_of (own_drewN HO.out _) (below_drewN HB.out _) hg' hsz)⟩
        case measure => simp [intOf]; omega
      · have hfin : mrg a b = acc := by rw [HM.out, mrgN_end (by have := HLA.out; omega) (by have := HLB.out; omega), List.append_nil]
        have HFIN := Lib.hid hfin; clear hfin
        go_wp2
        go_ret
        rw [HFIN.out]
        exact ⟨_, rfl, by rw [HACC.out]; exact HO.out, HB.out⟩
end Go.Proofs.YtbdliebjalghmaaDoor
