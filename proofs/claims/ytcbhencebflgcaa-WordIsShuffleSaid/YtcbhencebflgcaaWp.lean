/- Walks: the reference's IsShuffle (it calls itself). -/
import Derived.Test.YtcbhencebflgcaaWn
import Derived.Test.YtcbhencebflgcaaPr
namespace Go.Proofs.Ytcbhencebflgcaa
open Go.RowKit Go

theorem quiet_one {P : Program} {f : FuncId} {args : Array Value} {w : World} {n : Nat} {v : Value} (h : Calls P f args (w.drewN n) fun e w' => e = .returned v ∧ ∃ m, w' = (w.drewN n).drewN m) :
    Calls P f args (w.drewN n) fun e w' => e = .returned v ∧ ∃ m, w' = w.drewN m :=
  h.mono fun _ _ ⟨he, m, hm⟩ => ⟨he, n + m, by rw [hm, World.drewN_drewN]⟩

/-- the two halves of the question -/
def byL (w a b : List Int) : Bool := match w[0]?, a[0]? with | some c, some x => (c == x) && shB (w.drop 1) (a.drop 1) b | _, _ => false
theorem shB_by {w a b : List Int} (h : 0 < w.length) : shB w a b = (byL w a b || byL w b a) := by
  cases w with
  | nil => simp at h
  | cons c w =>
    unfold byL
    cases a <;> cases b <;> simp [shB, shB_swap]
theorem byL_no {w a b : List Int} (h : a.length = 0) : byL w a b = false := by
  obtain rfl := List.eq_nil_of_length_eq_zero h
  unfold byL; cases w[0]? <;> rfl
theorem byL_ne {w a b : List Int} {c x : Int} (hw : w[0]? = some c) (ha : a[0]? = some x) (h : (c == x) = false) : byL w a b = false := by
  unfold byL; rw [hw, ha]; simp [h]
theorem byL_eq {w a b : List Int} {c : Int} {q : Bool} (hw : w[0]? = some c) (ha : a[0]? = some c) (h : shB (w.drop 1) (a.drop 1) b = q) : byL w a b = q := by
  unfold byL; rw [hw, ha]; simp only [beq_self_eq_true, Bool.true_and]; exact h


theorem ref_IsShuffle_len (W A B : Option Addr) (nw na nb cw ca cb : Nat) (wd : World) (h : nw ≠ na + nb) (h1 : na ≤ 1000000) (h2 : nb ≤ 1000000) :
    Calls Try.prog 36 #[.slice W nw cw, .slice A na ca, .slice B nb cb] wd fun e w' => e = .returned (.bool false) ∧ ∃ n, w' = wd.drewN n := by
  have hne : ((nw : Int) != (na : Int) + (nb : Int)) = true := by rw [bne_iff_ne]; omega
  clear h
  go_enter Try.func36, Try.ntmps36
  go_wp2
  go_ret
  exact ⟨rfl, (by first | exact dr00 _ | exact dr0 _ _ | exact dr1 _ _ _ | exact dr2 _ _ _ _ | exact dr3 _ _ _ _ _)⟩
theorem ref_IsShuffle_0 (W A B : Option Addr) (cw ca cb : Nat) (wd : World) :
    Calls Try.prog 36 #[.slice W 0 cw, .slice A 0 ca, .slice B 0 cb] wd fun e w' => e = .returned (.bool true) ∧ ∃ n, w' = wd.drewN n := by
  go_enter Try.func36, Try.ntmps36
  go_wp2
  go_ret
  exact ⟨rfl, (by first | exact dr00 _ | exact dr0 _ _ | exact dr1 _ _ _ | exact dr2 _ _ _ _ | exact dr3 _ _ _ _ _)⟩

set_option maxHeartbeats 6400000 in
theorem ref_IsShuffle : ∀ (n : Nat) (W A B : Option Addr) (nw na nb cw ca cb : Nat) (w a b : List Int) (r : Bool) (wd : World), w.length = nw → a.length = na → b.length = nb → nw ≤ n → shB w a b = r →
    RdI wd wd.heap.size W w → nw ≤ cw → cw ≤ 9223372036854775807 → RdI wd wd.heap.size A a → na ≤ ca → ca ≤ 9223372036854775807 → na ≤ 1000000 → RdI wd wd.heap.size B b → nb ≤ cb → cb ≤ 9223372036854775807 → nb ≤ 1000000 →
    Calls Try.prog 36 #[.slice W nw cw, .slice A na ca, .slice B nb cb] wd fun e w' => e = .returned (.bool r) ∧ ∃ n, w' = wd.drewN n := by
  intro n
  induction n with
  | zero =>
    intro W A B nw na nb cw ca cb w a b r wd hw ha' hb' hn hr hrW hw1 hw2 ha ha1 ha2 ha3 hb hb1 hb2 hb3
    obtain rfl : nw = 0 := by omega
    by_cases h0 : 0 = na + nb
    · obtain rfl : na = 0 := by omega
      obtain rfl : nb = 0 := by omega
      obtain rfl := List.eq_nil_of_length_eq_zero hw
      obtain rfl := List.eq_nil_of_length_eq_zero ha'
      obtain rfl := List.eq_nil_of_length_eq_zero hb'
      rw [shB_nil] at hr
      subst hr
      exact ref_IsShuffle_0 W A B cw ca cb wd
    · rw [shB_len (by rw [hw, ha', hb']; exact h0)] at hr
      subst hr
      exact ref_IsShuffle_len W A B 0 na nb cw ca cb wd h0 ha3 hb3
  | succ n ih =>
    intro W A B nw na nb cw ca cb w a b r wd hw ha' hb' hn hr hrW hw1 hw2 ha ha1 ha2 ha3 hb hb1 hb2 hb3
    by_cases h0 : nw = na + nb
    · by_cases h1 : nw = 0
      · obtain rfl : na = 0 := by omega
        obtain rfl : nb = 0 := by omega
        subst h1
        obtain rfl := List.eq_nil_of_length_eq_zero hw
        obtain rfl := List.eq_nil_of_length_eq_zero ha'
        obtain rfl := List.eq_nil_of_length_eq_zero hb'
        rw [shB_nil] at hr
        subst hr
        exact ref_IsShuffle_0 W A B cw ca cb wd
      · have hne : ((nw : Int) != (na : Int) + (nb : Int)) = false := by rw [bne_eq_false_iff_eq]; omega
        have hn0 : ((nw : Int) == 0) = false := by rw [beq_eq_false_iff_ne]; omega
        have hfin : r = (byL w a b || byL w b a) := by rw [← hr]; exact shB_by (by omega)
        obtain ⟨wa, c, rfl, _, hc, hcw⟩ := hrW.at_ (k := 0) (by omega)
        rw [add_zero'] at hcw
        obtain ⟨W1, hsw, hrw⟩ := slice_tail (P := Try.prog) 22 3 Try.underlying22 (by kernel_rfl) wd wd.heap.size (some wa) w nw cw hw (by omega) hw1 hrW
        have w2 : (0 : Int) < (nw : Int) := by omega
        have w3 : (1 : Int) ≤ (nw : Int) := by omega
        have w5 : 0 < nw := by omega
        have w4 : nw ≤ n + 1 := hn
        have IH := Lib.hid ih
        have HW := Lib.hid hw; clear hw
        have HA := Lib.hid ha'; clear ha'
        have HB := Lib.hid hb'; clear hb'
        have HW0 := Lib.hid hc; clear hc
        have FIN := Lib.hid hfin; clear hfin
        have N0 := Lib.hid h0; clear h0
        clear ih hr h1 hn
        by_cases ha0 : na = 0
        · have LA := Lib.hid (show byL w a b = false from byL_no (by rw [HA.out]; exact ha0))
          subst ha0
          have nb0 : nb ≠ 0 := by have := N0.out; omega
          obtain ⟨bd, y, rfl, _, hy, hcy⟩ := hb.at_ (k := 0) (by have := HB.out; omega)
          rw [add_zero'] at hcy
          have b2 : (0 : Int) < (nb : Int) := by omega
          have b3 : (1 : Int) ≤ (nb : Int) := by omega
          have b4 : 0 < nb := by omega
          cases hcy' : (c == y) with
          | false =>
            have LB := Lib.hid (byL_ne (b := a) HW0.out hy hcy')
            go_enter Try.func36, Try.ntmps36
            go_wp2
            go_quiet (fail)
            go_wp2
            go_quiet (fail)
            go_wp2
            go_ret
            exact ⟨by rw [FIN.out, LA.out, LB.out]; rfl, (by first | exact dr00 _ | exact dr0 _ _ | exact dr1 _ _ _ | exact dr2 _ _ _ _ | exact dr3 _ _ _ _ _)⟩
          | true =>
            obtain rfl : c = y := by simpa using hcy'
            clear hcy'
            obtain ⟨B1, hsb, hrb⟩ := slice_tail (P := Try.prog) 22 3 Try.underlying22 (by kernel_rfl) wd wd.heap.size (some bd) b nb cb HB.out (by omega) hb1 hb
            cases hq : shB (w.drop 1) (b.drop 1) a with
            | true =>
              have LB := Lib.hid (byL_eq HW0.out hy hq)
              have hq2 : shB (w.drop 1) a (b.drop 1) = true := by rw [shB_swap]; exact hq
              have HQ2 := Lib.hid hq2; clear hq2
              clear hq hy
              go_enter Try.func36, Try.ntmps36
              go_wp2
              go_quiet (fail)
              go_wp2
              go_quiet ((go_at_call 36; (refine quiet_add (IH.out W1 A B1 (nw - 1) _ (nb - 1) (cw - 1) ca (cb - 1) (w.drop 1) a (b.drop 1) true _ (by rw [List.length_drop, HW.out]) HA.out (by rw [List.length_drop, HB.out]) (by omega) HQ2.out (by exact hrw) (by omega) (by omega) (by exact ha) (by omega) (by omega) (by omega) (by exact hrb) (by omega) (by omega) (by omega)))))
              go_wp2
              go_ret
              exact ⟨by rw [FIN.out, LA.out, LB.out]; rfl, (by first | exact dr00 _ | exact dr0 _ _ | exact dr1 _ _ _ | exact dr2 _ _ _ _ | exact dr3 _ _ _ _ _)⟩
            | false =>
              have LB := Lib.hid (byL_eq HW0.out hy hq)
              have hq2 : shB (w.drop 1) a (b.drop 1) = false := by rw [shB_swap]; exact hq
              have HQ2 := Lib.hid hq2; clear hq2
              clear hq hy
              go_enter Try.func36, Try.ntmps36
              go_wp2
              go_quiet (fail)
              go_wp2
              go_quiet ((go_at_call 36; (refine quiet_add (IH.out W1 A B1 (nw - 1) _ (nb - 1) (cw - 1) ca (cb - 1) (w.drop 1) a (b.drop 1) false _ (by rw [List.length_drop, HW.out]) HA.out (by rw [List.length_drop, HB.out]) (by omega) HQ2.out (by exact hrw) (by omega) (by omega) (by exact ha) (by omega) (by omega) (by omega) (by exact hrb) (by omega) (by omega) (by omega)))))
              go_wp2
              go_ret
              exact ⟨by rw [FIN.out, LA.out, LB.out]; rfl, (by first | exact dr00 _ | exact dr0 _ _ | exact dr1 _ _ _ | exact dr2 _ _ _ _ | exact dr3 _ _ _ _ _)⟩
        · obtain ⟨ad, x, rfl, _, hx, hcx⟩ := ha.at_ (k := 0) (by have := HA.out; omega)
          rw [add_zero'] at hcx
          have a2 : (0 : Int) < (na : Int) := by omega
          have a3 : (1 : Int) ≤ (na : Int) := by omega
          have a4 : 0 < na := by omega
          cases hcx' : (c == x) with
          | false =>
            have LA := Lib.hid (show byL w a b = false from byL_ne HW0.out hx hcx')
            clear hx
            by_cases hb0 : nb = 0
            · skip
              subst hb0
              have LB := Lib.hid (byL_no (w := w) (a := b) (b := a) HB.out)
              go_enter Try.func36, Try.ntmps36
              go_wp2
              go_quiet (fail)
              go_wp2
              go_quiet (fail)
              go_wp2
              go_ret
              exact ⟨by rw [FIN.out, LA.out, LB.out]; rfl, (by first | exact dr00 _ | exact dr0 _ _ | exact dr1 _ _ _ | exact dr2 _ _ _ _ | exact dr3 _ _ _ _ _)⟩
            · obtain ⟨bd, y, rfl, _, hy, hcy⟩ := hb.at_ (k := 0) (by have := HB.out; omega)
              rw [add_zero'] at hcy
              have b2 : (0 : Int) < (nb : Int) := by omega
              have b3 : (1 : Int) ≤ (nb : Int) := by omega
              have b4 : 0 < nb := by omega
              cases hcy' : (c == y) with
              | false =>
                have LB := Lib.hid (byL_ne (b := a) HW0.out hy hcy')
                go_enter Try.func36, Try.ntmps36
                go_wp2
                go_quiet (fail)
                go_wp2
                go_quiet (fail)
                go_wp2
                go_ret
                exact ⟨by rw [FIN.out, LA.out, LB.out]; rfl, (by first | exact dr00 _ | exact dr0 _ _ | exact dr1 _ _ _ | exact dr2 _ _ _ _ | exact dr3 _ _ _ _ _)⟩
              | true =>
                obtain rfl : c = y := by simpa using hcy'
                clear hcy'
                obtain ⟨B1, hsb, hrb⟩ := slice_tail (P := Try.prog) 22 3 Try.underlying22 (by kernel_rfl) wd wd.heap.size (some bd) b nb cb HB.out (by omega) hb1 hb
                cases hq : shB (w.drop 1) (b.drop 1) a with
                | true =>
                  have LB := Lib.hid (byL_eq HW0.out hy hq)
                  have hq2 : shB (w.drop 1) a (b.drop 1) = true := by rw [shB_swap]; exact hq
                  have HQ2 := Lib.hid hq2; clear hq2
                  clear hq hy
                  go_enter Try.func36, Try.ntmps36
                  go_wp2
                  go_quiet (fail)
                  go_wp2
                  go_quiet ((go_at_call 36; (refine quiet_add (IH.out W1 (some ad) B1 (nw - 1) _ (nb - 1) (cw - 1) ca (cb - 1) (w.drop 1) a (b.drop 1) true _ (by rw [List.length_drop, HW.out]) HA.out (by rw [List.length_drop, HB.out]) (by omega) HQ2.out (by exact hrw) (by omega) (by omega) (by exact ha) (by omega) (by omega) (by omega) (by exact hrb) (by omega) (by omega) (by omega)))))
                  go_wp2
                  go_ret
                  exact ⟨by rw [FIN.out, LA.out, LB.out]; rfl, (by first | exact dr00 _ | exact dr0 _ _ | exact dr1 _ _ _ | exact dr2 _ _ _ _ | exact dr3 _ _ _ _ _)⟩
                | false =>
                  have LB := Lib.hid (byL_eq HW0.out hy hq)
                  have hq2 : shB (w.drop 1) a (b.drop 1) = false := by rw [shB_swap]; exact hq
                  have HQ2 := Lib.hid hq2; clear hq2
                  clear hq hy
                  go_enter Try.func36, Try.ntmps36
                  go_wp2
                  go_quiet (fail)
                  go_wp2
                  go_quiet ((go_at_call 36; (refine quiet_add (IH.out W1 (some ad) B1 (nw - 1) _ (nb - 1) (cw - 1) ca (cb - 1) (w.drop 1) a (b.drop 1) false _ (by rw [List.length_drop, HW.out]) HA.out (by rw [List.length_drop, HB.out]) (by omega) HQ2.out (by exact hrw) (by omega) (by omega) (by exact ha) (by omega) (by omega) (by omega) (by exact hrb) (by omega) (by omega) (by omega)))))
                  go_wp2
                  go_ret
                  exact ⟨by rw [FIN.out, LA.out, LB.out]; rfl, (by first | exact dr00 _ | exact dr0 _ _ | exact dr1 _ _ _ | exact dr2 _ _ _ _ | exact dr3 _ _ _ _ _)⟩
          | true =>
            obtain rfl : c = x := by simpa using hcx'
            clear hcx'
            obtain ⟨A1, hsa, hra⟩ := slice_tail (P := Try.prog) 22 3 Try.underlying22 (by kernel_rfl) wd wd.heap.size (some ad) a na ca HA.out (by omega) ha1 ha
            cases hq : shB (w.drop 1) (a.drop 1) b with
            | true =>
              have LA := Lib.hid (show byL w a b = true from byL_eq HW0.out hx hq)
              have HQ := Lib.hid hq; clear hq
              clear hx
              go_enter Try.func36, Try.ntmps36
              go_wp2
              go_quiet ((go_at_call 36; refine quiet_one (IH.out W1 A1 B (nw - 1) (na - 1) nb (cw - 1) (ca - 1) cb (w.drop 1) (a.drop 1) b true _ (by rw [List.length_drop, HW.out]) (by rw [List.length_drop, HA.out]) HB.out (by omega) HQ.out (by exact hrw) (by omega) (by omega) (by exact hra) (by omega) (by omega) (by omega) (by exact hb) (by omega) (by omega) (by omega))))
              go_wp2
              go_ret
              exact ⟨by rw [FIN.out, LA.out]; rfl, (by first | exact dr00 _ | exact dr0 _ _ | exact dr1 _ _ _ | exact dr2 _ _ _ _ | exact dr3 _ _ _ _ _)⟩
            | false =>
              have LA := Lib.hid (show byL w a b = false from byL_eq HW0.out hx hq)
              have HQA := Lib.hid hq; clear hq
              clear hx
              by_cases hb0 : nb = 0
              · skip
                subst hb0
                have LB := Lib.hid (byL_no (w := w) (a := b) (b := a) HB.out)
                go_enter Try.func36, Try.ntmps36
                go_wp2
                go_quiet ((go_at_call 36; refine quiet_one (IH.out W1 A1 _ (nw-1) (na-1) _ (cw-1) (ca-1) cb (w.drop 1) (a.drop 1) b false _ (by rw [List.length_drop, HW.out]) (by rw [List.length_drop, HA.out]) HB.out (by omega) HQA.out (by exact hrw) (by omega) (by omega) (by exact hra) (by omega) (by omega) (by omega) (by exact hb) (by omega) (by omega) (by omega))))
                go_wp2
                go_quiet (fail)
                go_wp2
                go_ret
                exact ⟨by rw [FIN.out, LA.out, LB.out]; rfl, (by first | exact dr00 _ | exact dr0 _ _ | exact dr1 _ _ _ | exact dr2 _ _ _ _ | exact dr3 _ _ _ _ _)⟩
              · obtain ⟨bd, y, rfl, _, hy, hcy⟩ := hb.at_ (k := 0) (by have := HB.out; omega)
                rw [add_zero'] at hcy
                have b2 : (0 : Int) < (nb : Int) := by omega
                have b3 : (1 : Int) ≤ (nb : Int) := by omega
                have b4 : 0 < nb := by omega
                cases hcy' : (c == y) with
                | false =>
                  have LB := Lib.hid (byL_ne (b := a) HW0.out hy hcy')
                  go_enter Try.func36, Try.ntmps36
                  go_wp2
                  go_quiet ((go_at_call 36; refine quiet_one (IH.out W1 A1 _ (nw-1) (na-1) _ (cw-1) (ca-1) cb (w.drop 1) (a.drop 1) b false _ (by rw [List.length_drop, HW.out]) (by rw [List.length_drop, HA.out]) HB.out (by omega) HQA.out (by exact hrw) (by omega) (by omega) (by exact hra) (by omega) (by omega) (by omega) (by exact hb) (by omega) (by omega) (by omega))))
                  go_wp2
                  go_quiet (fail)
                  go_wp2
                  go_ret
                  exact ⟨by rw [FIN.out, LA.out, LB.out]; rfl, (by first | exact dr00 _ | exact dr0 _ _ | exact dr1 _ _ _ | exact dr2 _ _ _ _ | exact dr3 _ _ _ _ _)⟩
                | true =>
                  obtain rfl : c = y := by simpa using hcy'
                  clear hcy'
                  obtain ⟨B1, hsb, hrb⟩ := slice_tail (P := Try.prog) 22 3 Try.underlying22 (by kernel_rfl) wd wd.heap.size (some bd) b nb cb HB.out (by omega) hb1 hb
                  cases hq : shB (w.drop 1) (b.drop 1) a with
                  | true =>
                    have LB := Lib.hid (byL_eq HW0.out hy hq)
                    have hq2 : shB (w.drop 1) a (b.drop 1) = true := by rw [shB_swap]; exact hq
                    have HQ2 := Lib.hid hq2; clear hq2
                    clear hq hy
                    go_enter Try.func36, Try.ntmps36
                    go_wp2
                    go_quiet ((go_at_call 36; refine quiet_one (IH.out W1 A1 _ (nw-1) (na-1) _ (cw-1) (ca-1) cb (w.drop 1) (a.drop 1) b false _ (by rw [List.length_drop, HW.out]) (by rw [List.length_drop, HA.out]) HB.out (by omega) HQA.out (by exact hrw) (by omega) (by omega) (by exact hra) (by omega) (by omega) (by omega) (by exact hb) (by omega) (by omega) (by omega))))
                    go_wp2
                    go_quiet ((go_at_call 36; (refine quiet_add (IH.out W1 (some ad) B1 (nw - 1) _ (nb - 1) (cw - 1) ca (cb - 1) (w.drop 1) a (b.drop 1) true _ (by rw [List.length_drop, HW.out]) HA.out (by rw [List.length_drop, HB.out]) (by omega) HQ2.out (by exact hrw) (by omega) (by omega) (by exact ha) (by omega) (by omega) (by omega) (by exact hrb) (by omega) (by omega) (by omega)))))
                    go_wp2
                    go_ret
                    exact ⟨by rw [FIN.out, LA.out, LB.out]; rfl, (by first | exact dr00 _ | exact dr0 _ _ | exact dr1 _ _ _ | exact dr2 _ _ _ _ | exact dr3 _ _ _ _ _)⟩
                  | false =>
                    have LB := Lib.hid (byL_eq HW0.out hy hq)
                    have hq2 : shB (w.drop 1) a (b.drop 1) = false := by rw [shB_swap]; exact hq
                    have HQ2 := Lib.hid hq2; clear hq2
                    clear hq hy
                    go_enter Try.func36, Try.ntmps36
                    go_wp2
                    go_quiet ((go_at_call 36; refine quiet_one (IH.out W1 A1 _ (nw-1) (na-1) _ (cw-1) (ca-1) cb (w.drop 1) (a.drop 1) b false _ (by rw [List.length_drop, HW.out]) (by rw [List.length_drop, HA.out]) HB.out (by omega) HQA.out (by exact hrw) (by omega) (by omega) (by exact hra) (by omega) (by omega) (by omega) (by exact hb) (by omega) (by omega) (by omega))))
                    go_wp2
                    go_quiet ((go_at_call 36; (refine quiet_add (IH.out W1 (some ad) B1 (nw - 1) _ (nb - 1) (cw - 1) ca (cb - 1) (w.drop 1) a (b.drop 1) false _ (by rw [List.length_drop, HW.out]) HA.out (by rw [List.length_drop, HB.out]) (by omega) HQ2.out (by exact hrw) (by omega) (by omega) (by exact ha) (by omega) (by omega) (by omega) (by exact hrb) (by omega) (by omega) (by omega)))))
                    go_wp2
                    go_ret
                    exact ⟨by rw [FIN.out, LA.out, LB.out]; rfl, (by first | exact dr00 _ | exact dr0 _ _ | exact dr1 _ _ _ | exact dr2 _ _ _ _ | exact dr3 _ _ _ _ _)⟩
    · rw [shB_len (by rw [hw, ha', hb']; exact h0)] at hr
      subst hr
      exact ref_IsShuffle_len W A B nw na nb cw ca cb wd h0 ha3 hb3
end Go.Proofs.Ytcbhencebflgcaa
