/- Walks: alphabet.merge for Union; product.events, Check, Alphabet. -/
import Derived.Test.YtbdliebjalghmaaDoorSc
import Derived.Test.YtbdliebjalghmaaDoorQd
import Derived.Shelf.Abstract
namespace Go.Proofs.YtbdliebjalghmaaDoor
open Go.RowKit Go

def lnV : Value → Nat | .slice _ n _ => n | _ => 0
theorem Union_1 (x y z : Bool) (h : (x || y) = z) (w : World) : Calls Tryd.prog 96 #[.bool x, .bool y] w fun e w' => e = .returned (.bool z) ∧ w = w' := by
  cases x with
  | true =>
    have hz : z = true := by rw [← h]; rfl
    subst hz
    clear h
    go_enter Tryd.func96, Tryd.ntmps96
    go_wp2
    go_ret
    exact ⟨rfl, rfl⟩
  | false =>
    have hz : z = y := by rw [← h]; rfl
    subst hz
    clear h
    go_enter Tryd.func96, Tryd.ntmps96
    go_wp2
    go_ret
    exact ⟨rfl, rfl⟩

theorem own_drewN {w : World} {base : Nat} {e : TypeId} {size n : Nat} {v : Value} {xs : List Value} (h : w.ownsRow base e size v n xs) (k : Nat) : (w.drewN k).ownsRow base e size v n xs := h

set_option maxRecDepth 100000 in
set_option maxHeartbeats 3200000 in
theorem alphabet_merge (A B : Option Addr) (na nb ca cb : Nat) (a b : List Int) (w : World) (hla : a.length = na) (ha : RdI w w.heap.size A a) (ha1 : na ≤ ca) (ha2 : ca ≤ 9223372036854775807) (hlb : b.length = nb) (hb : RdI w w.heap.size B b) (hb1 : nb ≤ cb) (hb2 : cb ≤ 9223372036854775807) (hn : na + nb ≤ 1000000) :
    Calls Tryd.prog 95 #[.slice A na ca, .slice B nb cb, .func (.func 96) #[] #[]] w (RetO 3 (mrg a b) w) := by
  have eg : ∀ args w, (callFunc 96 args).run Tryd.prog w = .ok (.enter 96 args) w := enters_of Tryd.func96 (by kernel_rfl) rfl
  have hm0 : mrg a b = [] ++ mrgN (na + nb) a b := by subst hla hlb; rfl
  have HM0 := Lib.hid hm0; clear hm0
  have HLA := Lib.hid hla; clear hla
  have HLB := Lib.hid hlb; clear hlb
  go_enter Tryd.func95, Tryd.ntmps95
  go_wp2
  go_loopw [0, 1, 7] (fun sa sb so wr => ∃ (A' B' : Option Addr) (p q kp kq N m : Nat) (l r acc : List Int), sa = .slice A' p kp ∧ sb = .slice B' q kq ∧ Hid (l.length = p) ∧ Hid (r.length = q) ∧ p ≤ kp ∧ kp ≤ 9223372036854775807 ∧ q ≤ kq ∧ kq ≤ 9223372036854775807 ∧
      RdI w w.heap.size A' l ∧ RdI w w.heap.size B' r ∧ Hid (acc.length = m) ∧ m + (p + q) ≤ 1000000 ∧ p + q ≤ N ∧ Hid (mrg a b = acc ++ mrgN N l r) ∧ Hid (wr.ownsRow w.heap.size 3 1 so m (iv acc)) ∧ Below w.heap.size w wr) (fun sa sb _ _ => lnV sa + lnV sb)
  case atStart => exact ⟨A, B, na, nb, ca, cb, na + nb, 0, a, b, [], rfl, rfl, HLA, HLB, ha1, ha2, hb1, hb2, ha, hb, Lib.hid rfl, by omega, Nat.le_refl _, HM0, World.ownsRow_nil _ _ _ _, Below.refl _ _⟩
  case round =>
    clear ha ha1 ha2 hb hb1 hb2 HLA HLB HM0
    obtain ⟨A', B', p, q, kp, kq, N, m, l, r, acc, rfl, rfl, HL, HR, hp, hkp, hq, hkq, hrl, hrr, HACC, hmn, hN, HM, HO, hbel⟩ := hrel
    have hsz := hbel.size
    by_cases h0 : p = 0
    · subst h0
      by_cases h1 : q = 0
      · subst h1
        have hfin : mrg a b = acc := by
          rw [HM.out, List.eq_nil_of_length_eq_zero HL.out, List.eq_nil_of_length_eq_zero HR.out]
          cases N <;> simp [mrgN]
        have HFIN := Lib.hid hfin; clear hfin
        go_wp2
        go_ret
        rw [HFIN.out]
        exact ⟨_, rfl, by rw [HACC.out]; exact HO.out, hbel⟩
      · obtain ⟨M, rfl⟩ : ∃ M, N = M + 1 := ⟨N - 1, by omega⟩
        obtain ⟨bd, y, rfl, hbd, hy, hcy⟩ := hrr.at_ (k := 0) (by have := HR.out; omega)
        rw [add_zero'] at hcy
        have hcy' := (hbel.cell (p := bd) hbd).trans hcy
        obtain ⟨B1, hsb, hrb⟩ := slice_tail (P := Tryd.prog) 26 3 Tryd.underlying26 (by kernel_rfl) w w.heap.size (some bd) r q kq HR.out (by omega) hq hrr
        have b4 : (0 : Int) < (q : Int) := by omega
        have b5 : (1 : Int) ≤ (q : Int) := by omega
        have b6 : 0 < q := by omega
        clear hcy hrr h1
        have HX := Lib.hid (show mrg a b = (acc ++ [y]) ++ mrgN M l (r.drop 1) by
          rw [HM.out]
          have := mrgN_b (a := l) (b := r) (i := 0) (j := 0) (n := M) (by rw [HL.out]; omega) hy
          simp only [List.drop_zero] at this
          rw [this]; simp)
        have HL2 := Lib.hid (show (r.drop 1).length = q - 1 by rw [List.length_drop, HR.out])
        have HGY := Lib.hid hy; clear hy
        go_wp2
        go_quiet (fail)
        go_wp2
        go_quiet (fail)
        go_wp2
        go_quiet (fail)
        go_wp2_with fail
        refine (Union_1 false true true rfl _).mono ?_
        rintro e w' ⟨rfl, rfl⟩
        go_wp2_with (at_builtin; refine wpList_push _ (.int .i64 y) rfl (.tmp 69) (.tmp 71) 26 rfl w.heap.size 3 (.int .i64 0) 8 Tryd.underlying26 int_info rfl u7 m _ rfl (own_drewN HO.out _) rfl rfl (by omega) (by omega) hsz ?_; intro v' w' ho' hg' hb1)
        go_roundw
        case rel => exact ⟨A', B1, 0, q - 1, kp, kq - 1, M, m + 1, l, r.drop 1, acc ++ [y], rfl, rfl, HL, HL2, hp, hkp, by omega, by omega, hrl, hrb, Lib.hid (by rw [List.length_append, HACC.out]; rfl), by omega, by omega, HX, Lib.hid (by rw [iv_append]; exact ho'), hbel.trans (below_undrewN hb1)⟩
        case measure => simp [lnV]; omega
    · obtain ⟨M, rfl⟩ : ∃ M, N = M + 1 := ⟨N - 1, by omega⟩
      obtain ⟨ad, x, rfl, had, hx, hcx⟩ := hrl.at_ (k := 0) (by have := HL.out; omega)
      rw [add_zero'] at hcx
      have hcx' := (hbel.cell (p := ad) had).trans hcx
      obtain ⟨A1, hsa, hra⟩ := slice_tail (P := Tryd.prog) 26 3 Tryd.underlying26 (by kernel_rfl) w w.heap.size (some ad) l p kp HL.out (by omega) hp hrl
      have b1 : (0 : Int) < (p : Int) := by omega
      have b2 : (1 : Int) ≤ (p : Int) := by omega
      have b3 : 0 < p := by omega
      have HL1 := Lib.hid (show (l.drop 1).length = p - 1 by rw [List.length_drop, HL.out])
      clear hcx h0
      by_cases h1 : q = 0
      · subst h1
        clear hrl
        have HX := Lib.hid (show mrg a b = (acc ++ [x]) ++ mrgN M (l.drop 1) r by
          rw [HM.out]
          have := mrgN_a (a := l) (b := r) (i := 0) (j := 0) (n := M) hx (by rw [HR.out]; omega)
          simp only [List.drop_zero] at this
          rw [this]; simp)
        have HGX := Lib.hid hx; clear hx
        go_wp2
        go_quiet (fail)
        go_wp2
        go_quiet (fail)
        go_wp2
        go_quiet (fail)
        go_wp2_with fail
        refine (Union_1 true false true rfl _).mono ?_
        rintro e w' ⟨rfl, rfl⟩
        go_wp2_with (at_builtin; refine wpList_push _ (.int .i64 x) rfl (.tmp 69) (.tmp 71) 26 rfl w.heap.size 3 (.int .i64 0) 8 Tryd.underlying26 int_info rfl u7 m _ rfl (own_drewN HO.out _) rfl rfl (by omega) (by omega) hsz ?_; intro v' w' ho' hg' hb1)
        go_roundw
        case rel => exact ⟨A1, B', p - 1, 0, kp - 1, kq, M, m + 1, l.drop 1, r, acc ++ [x], rfl, rfl, HL1, HR, by omega, by omega, hq, hkq, hra, hrr, Lib.hid (by rw [List.length_append, HACC.out]; rfl), by omega, by omega, HX, Lib.hid (by rw [iv_append]; exact ho'), hbel.trans (below_undrewN hb1)⟩
        case measure => simp [lnV]; omega
      · obtain ⟨bd, y, rfl, hbd, hy, hcy⟩ := hrr.at_ (k := 0) (by have := HR.out; omega)
        rw [add_zero'] at hcy
        have hcy' := (hbel.cell (p := bd) hbd).trans hcy
        obtain ⟨B1, hsb, hrb⟩ := slice_tail (P := Tryd.prog) 26 3 Tryd.underlying26 (by kernel_rfl) w w.heap.size (some bd) r q kq HR.out (by omega) hq hrr
        have b4 : (0 : Int) < (q : Int) := by omega
        have b5 : (1 : Int) ≤ (q : Int) := by omega
        have b6 : 0 < q := by omega
        have b7 : ((p : Int) == 0) = false := by rw [beq_eq_false_iff_ne]; omega
        have b8 : ((q : Int) == 0) = false := by rw [beq_eq_false_iff_ne]; omega
        have HL2 := Lib.hid (show (r.drop 1).length = q - 1 by rw [List.length_drop, HR.out])
        clear hcy h1
        rcases Int.lt_trichotomy x y with hxy | hxy | hxy
        · have HX := Lib.hid (show mrg a b = (acc ++ [x]) ++ mrgN M (l.drop 1) r by
            rw [HM.out]
            have := mrgN_lt (a := l) (b := r) (i := 0) (j := 0) (n := M) hx hy hxy
            simp only [List.drop_zero] at this
            rw [this]; simp)
          have d1 : decide (x ≤ y) = true := decide_eq_true (by omega)
          have d2 : decide (y ≤ x) = false := decide_eq_false (by omega)
          have HGX := Lib.hid hx; clear hx
          have HGY := Lib.hid hy; clear hy
          clear hrl
          go_wp2
          go_quiet (fail)
          go_wp2
          go_quiet (fail)
          go_wp2
          go_quiet (fail)
          go_wp2_with fail
          refine (Union_1 true false true rfl _).mono ?_
          rintro e w' ⟨rfl, rfl⟩
          go_wp2_with (at_builtin; refine wpList_push _ (.int .i64 x) rfl (.tmp 69) (.tmp 71) 26 rfl w.heap.size 3 (.int .i64 0) 8 Tryd.underlying26 int_info rfl u7 m _ rfl (own_drewN HO.out _) rfl rfl (by omega) (by omega) hsz ?_; intro v' w' ho' hg' hb1)
          go_roundw
          case rel => exact ⟨A1, some bd, p - 1, q, kp - 1, kq, M, m + 1, l.drop 1, r, acc ++ [x], rfl, rfl, HL1, HR, by omega, by omega, hq, hkq, hra, hrr, Lib.hid (by rw [List.length_append, HACC.out]; rfl), by omega, by omega, HX, Lib.hid (by rw [iv_append]; exact ho'), hbel.trans (below_undrewN hb1)⟩
          case measure => simp [lnV]; omega
        · subst hxy
          have HX := Lib.hid (show mrg a b = (acc ++ [x]) ++ mrgN M (l.drop 1) (r.drop 1) by
            rw [HM.out]
            have := mrgN_eq (a := l) (b := r) (i := 0) (j := 0) (n := M) hx hy
            simp only [List.drop_zero] at this
            rw [this]; simp)
          have HGX := Lib.hid hx; clear hx
          have HGY := Lib.hid hy; clear hy
          clear hrl hrr
          go_wp2
          go_quiet (fail)
          go_wp2
          go_quiet (fail)
          go_wp2
          go_quiet (fail)
          go_wp2
          go_quiet (fail)
          go_wp2_with fail
          refine (Union_1 true true true rfl _).mono ?_
          rintro e w' ⟨rfl, rfl⟩
          go_wp2_with (at_builtin; refine wpList_push _ (.int .i64 x) rfl (.tmp 69) (.tmp 71) 26 rfl w.heap.size 3 (.int .i64 0) 8 Tryd.underlying26 int_info rfl u7 m _ rfl (own_drewN HO.out _) rfl rfl (by omega) (by omega) hsz ?_; intro v' w' ho' hg' hb1)
          go_roundw
          case rel => exact ⟨A1, B1, p - 1, q - 1, kp - 1, kq - 1, M, m + 1, l.drop 1, r.drop 1, acc ++ [x], rfl, rfl, HL1, HL2, by omega, by omega, by omega, by omega, hra, hrb, Lib.hid (by rw [List.length_append, HACC.out]; rfl), by omega, by omega, HX, Lib.hid (by rw [iv_append]; exact ho'), hbel.trans (below_undrewN hb1)⟩
          case measure => simp [lnV]; omega
        · have HX := Lib.hid (show mrg a b = (acc ++ [y]) ++ mrgN M l (r.drop 1) by
            rw [HM.out]
            have := mrgN_gt (a := l) (b := r) (i := 0) (j := 0) (n := M) hx hy hxy
            simp only [List.drop_zero] at this
            rw [this]; simp)
          have d1 : decide (x ≤ y) = false := decide_eq_false (by omega)
          have d2 : decide (y ≤ x) = true := decide_eq_true (by omega)
          have HGX := Lib.hid hx; clear hx
          have HGY := Lib.hid hy; clear hy
          clear hrr
          go_wp2
          go_quiet (fail)
          go_wp2
          go_quiet (fail)
          go_wp2
          go_quiet (fail)
          go_wp2_with fail
          refine (Union_1 false true true rfl _).mono ?_
          rintro e w' ⟨rfl, rfl⟩
          go_wp2_with (at_builtin; refine wpList_push _ (.int .i64 y) rfl (.tmp 69) (.tmp 71) 26 rfl w.heap.size 3 (.int .i64 0) 8 Tryd.underlying26 int_info rfl u7 m _ rfl (own_drewN HO.out _) rfl rfl (by omega) (by omega) hsz ?_; intro v' w' ho' hg' hb1)
          go_roundw
          case rel => exact ⟨some ad, B1, p, q - 1, kp, kq - 1, M, m + 1, l, r.drop 1, acc ++ [y], rfl, rfl, HL, HL2, hp, hkp, by omega, by omega, hrl, hrb, Lib.hid (by rw [List.length_append, HACC.out]; rfl), by omega, by omega, HX, Lib.hid (by rw [iv_append]; exact ho'), hbel.trans (below_undrewN hb1)⟩
          case measure => simp [lnV]; omega
end Go.Proofs.YtbdliebjalghmaaDoor
