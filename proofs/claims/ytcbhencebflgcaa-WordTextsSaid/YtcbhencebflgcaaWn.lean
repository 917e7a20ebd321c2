/- Walks: prefixes and what two words have in common at their heads. -/
import Derived.Test.YtcbhencebflgcaaWg
import Derived.Test.YtcbhencebflgcaaPp
namespace Go.Proofs.Ytcbhencebflgcaa
open Go.RowKit Go

theorem slices_Equal_n (A B : Option Addr) (c d na nb : Nat) (a b : List Int) (q : Bool) (w : World) (hna : a.length = na) (hnb : b.length = nb) (hq : eqB a b = q) (ha : RdI w w.heap.size A a) (hac : na ≤ c) (hc : c ≤ 9223372036854775807)
    (hb : RdI w w.heap.size B b) : Calls Try.prog 49 #[.slice A na c, .slice B nb d] w fun e w' => e = .returned (.bool q) ∧ ∃ n, w' = w.drewN n := by
  subst hna hnb hq; exact slices_Equal A B c d a b w ha hac hc hb
theorem ref_Compare_n (A B : Option Addr) (c d na nb : Nat) (a b : List Int) (q : Int) (w : World) (hna : a.length = na) (hnb : b.length = nb) (hq : cmpW a b = q) (ha : RdI w w.heap.size A a) (hac : na ≤ c) (hc : c ≤ 9223372036854775807)
    (hb : RdI w w.heap.size B b) : Calls Try.prog 25 #[.slice A na c, .slice B nb d] w fun e w' => e = .returned (.int .i64 q) ∧ ∃ n, w' = w.drewN n := by
  subst hna hnb hq; exact ref_Compare A B c d a b w ha hac hc hb
theorem law_same_n (A B : Option Addr) (c d na nb : Nat) (a b : List Int) (q : Bool) (w : World) (hna : a.length = na) (hnb : b.length = nb) (hq : eqB a b = q) (ha : RdI w w.heap.size A a) (hac : na ≤ c) (hc : c ≤ 9223372036854775807)
    (hb : RdI w w.heap.size B b) : Calls Try.prog 20 #[.slice A na c, .slice B nb d] w fun e w' => e = .returned (.bool q) ∧ ∃ n, w' = w.drewN n := by
  subst hna hnb hq; exact law_same A B c d a b w ha hac hc hb
theorem slices_Clone_n (A : Option Addr) (c n : Nat) (l : List Int) (w : World) (hl : l.length = n) (ha : RdI w w.heap.size A l) (hac : n ≤ 17592186044416) :
    Calls Try.prog 54 #[.slice A n c] w (RetO 3 l w) := by
  subst hl; exact slices_Clone A c l w ha hac

set_option maxHeartbeats 400000 in
theorem word_IsPrefix (A B : Option Addr) (c d na nb : Nat) (a b : List Int) (q : Bool) (w : World) (hna : a.length = na) (hnb : b.length = nb) (hq : prefB a b = q) (ha : RdI w w.heap.size A a) (hac : na ≤ c) (hc : c ≤ 9223372036854775807)
    (hb : RdI w w.heap.size B b) (hbd : nb ≤ d) :
    Calls Try.prog 29 #[.slice A na c, .slice B nb d] w fun e w' => e = .returned (.bool q) ∧ ∃ n, w' = w.drewN n := by
  by_cases hl : na ≤ nb
  · have hl' : na ≤ d := by omega
    have hq2 : eqB a (b.take na) = q := by
      subst hna hnb
      rw [← hq]; unfold prefB; simp [hl]
    have hln : (b.take na).length = na := by rw [List.length_take]; omega
    have HNA := Lib.hid hna; clear hna
    have HNB := Lib.hid hnb; clear hnb
    have HLN := Lib.hid hln; clear hln
    have HQ := Lib.hid hq2; clear hq2
    clear hq
    go_enter Try.func29, Try.ntmps29
    go_wp2_with fail
    refine (slices_Equal_n A B c d na na a (b.take na) q w HNA.out HLN.out HQ.out ha hac hc (RdI.take hb na)).mono ?_
    rintro e w' ⟨rfl, n, rfl⟩
    go_wp2
    go_ret
    exact ⟨rfl, (by first | exact dr00 _ | exact dr0 _ _ | exact dr1 _ _ _ | exact dr2 _ _ _ _ | exact dr3 _ _ _ _ _)⟩
  · have hq2 : q = false := by
      subst hna hnb
      rw [← hq]; exact prefB_long hl
    subst hq2
    clear hna hnb hq
    go_enter Try.func29, Try.ntmps29
    go_wp2
    go_ret
    exact ⟨rfl, (by first | exact dr00 _ | exact dr0 _ _ | exact dr1 _ _ _ | exact dr2 _ _ _ _ | exact dr3 _ _ _ _ _)⟩

set_option maxHeartbeats 400000 in
theorem ref_Prefix (A B : Option Addr) (c d na nb : Nat) (a b : List Int) (q : Bool) (w : World) (hna : a.length = na) (hnb : b.length = nb) (hq : prefB a b = q) (ha : RdI w w.heap.size A a) (hac : na ≤ c) (hc : c ≤ 9223372036854775807)
    (hb : RdI w w.heap.size B b) (hbd : nb ≤ d) :
    Calls Try.prog 30 #[.slice A na c, .slice B nb d] w fun e w' => e = .returned (.bool q) ∧ ∃ n, w' = w.drewN n := by
  by_cases hl : na ≤ nb
  · have hl' : na ≤ d := by omega
    have hq2 : (cmpW a (b.take na) == 0) = q := by
      subst hna hnb
      rw [← hq, cmpW_zero]; unfold prefB; simp [hl]
    have hln : (b.take na).length = na := by rw [List.length_take]; omega
    generalize hz : cmpW a (b.take na) = z at hq2
    have HZ := Lib.hid hz; clear hz
    have HNA := Lib.hid hna; clear hna
    have HNB := Lib.hid hnb; clear hnb
    have HLN := Lib.hid hln; clear hln
    clear hq
    subst hq2
    go_enter Try.func30, Try.ntmps30
    go_wp2_with fail
    refine (ref_Compare_n A B c d na na a (b.take na) z w HNA.out HLN.out HZ.out ha hac hc (RdI.take hb na)).mono ?_
    rintro e w' ⟨rfl, n, rfl⟩
    go_wp2
    go_ret
    exact ⟨rfl, (by first | exact dr00 _ | exact dr0 _ _ | exact dr1 _ _ _ | exact dr2 _ _ _ _ | exact dr3 _ _ _ _ _)⟩
  · have hq2 : q = false := by
      subst hna hnb
      rw [← hq]; exact prefB_long hl
    subst hq2
    clear hna hnb hq
    go_enter Try.func30, Try.ntmps30
    go_wp2
    go_ret
    exact ⟨rfl, (by first | exact dr00 _ | exact dr0 _ _ | exact dr1 _ _ _ | exact dr2 _ _ _ _ | exact dr3 _ _ _ _ _)⟩

set_option maxHeartbeats 800000 in
theorem word_Common (A B : Option Addr) (c d na nb : Nat) (a b : List Int) (w : World) (hna : a.length = na) (hnb : b.length = nb) (ha : RdI w w.heap.size A a) (hac : na ≤ c) (hn : na ≤ 1000000)
    (hb : RdI w w.heap.size B b) (hbn : nb ≤ 1000000) :
    Calls Try.prog 31 #[.slice A na c, .slice B nb d] w (RetO 3 (a.take (cmnN a b)) w) := by
  have HNA := Lib.hid hna; clear hna
  have HNB := Lib.hid hnb; clear hnb
  go_enter Try.func31, Try.ntmps31
  go_wp2
  go_loopw [5] (fun i wr => ∃ k : Nat, k ≤ na ∧ k ≤ nb ∧ i = .int .i64 k ∧ Hid (cmnN a b = k + cmnN (a.drop k) (b.drop k)) ∧ ∃ n, wr = w.drewN n) (fun i _ => na - (intOf i).toNat)
  case atStart => exact ⟨0, Nat.zero_le _, Nat.zero_le _, rfl, Lib.hid (by simp), (by first | exact dr00 _ | exact dr0 _ _ | exact dr1 _ _ _ | exact dr2 _ _ _ _ | exact dr3 _ _ _ _ _)⟩
  case round =>
    obtain ⟨k, hk, hk2, rfl, HX, n, rfl⟩ := hrel
    have fin : cmnN (a.drop k) (b.drop k) = 0 → cmnN a b = k := fun h => by have := HX.out; omega
    have FIN := Lib.hid fin
    clear fin
    have hkc : k ≤ c := by omega
    by_cases h1 : k < na
    · by_cases h2 : k < nb
      · obtain ⟨ad, x, rfl, _, hx, hcx⟩ := ha.at_ (k := k) (by have := HNA.out; omega)
        obtain ⟨bd, y, rfl, _, hy, hcy⟩ := hb.at_ (k := k) (by have := HNB.out; omega)
        have b1 : (k : Int) < (na : Int) := by omega
        have b2 : (k : Int) < (nb : Int) := by omega
        by_cases hxy : x = y
        · subst hxy
          have HXX := Lib.hid hx; clear hx
          have HYY := Lib.hid hy; clear hy
          go_wp2
          go_quiet (fail)
          go_wp2
          go_roundw
          case rel => exact ⟨k + 1, by omega, by omega, by go_num, Lib.hid (by rw [HX.out, cmnN_go HXX.out HYY.out]; omega), (by first | exact dr00 _ | exact dr0 _ _ | exact dr1 _ _ _ | exact dr2 _ _ _ _ | exact dr3 _ _ _ _ _)⟩
          case measure => simp [intOf]; omega
        · have he : (x == y) = false := by simpa using hxy
          have hf := FIN.out (cmnN_stop hx hy hxy)
          have HF := Lib.hid hf; clear hf
          have HXX := Lib.hid hx; clear hx
          have HYY := Lib.hid hy; clear hy
          clear HX FIN
          have hln : (a.take k).length = k := by rw [List.length_take, HNA.out]; omega
          have HLN := Lib.hid hln; clear hln
          go_wp2
          go_quiet (fail)
          go_wp2_with fail
          refine (slices_Clone_n (some ad) c k (a.take k) _ HLN.out (by exact RdI.take ha k) (by omega)).mono ?_
          rintro e w' ⟨v, rfl, ho, hb'⟩
          go_wp2
          go_ret
          rw [HF.out]
          exact ⟨v, rfl, ho, by first | exact below_undrewN hb' | exact below_undrewN (below_undrewN hb')⟩
      · have b1 : (k : Int) < (na : Int) := by omega
        have b2 : decide (k < nb) = false := by simpa using h2
        have b3 : decide ((k : Int) < (nb : Int)) = false := by simp; omega
        have hf := FIN.out (cmnN_end_b (by have := HNB.out; omega))
        have HF := Lib.hid hf; clear hf
        clear HX FIN
        have hln : (a.take k).length = k := by rw [List.length_take, HNA.out]; omega
        have HLN := Lib.hid hln; clear hln
        go_wp2
        go_quiet (fail)
        go_wp2_with fail
        refine (slices_Clone_n A c k (a.take k) _ HLN.out (by exact RdI.take ha k) (by omega)).mono ?_
        rintro e w' ⟨v, rfl, ho, hb'⟩
        go_wp2
        go_ret
        rw [HF.out]
        exact ⟨v, rfl, ho, by first | exact below_undrewN hb' | exact below_undrewN (below_undrewN hb')⟩
    · have b2 : decide (k < na) = false := by simpa using h1
      have b3 : decide ((k : Int) < (na : Int)) = false := by simp; omega
      have hf := FIN.out (cmnN_end_a (by have := HNA.out; omega))
      have HF := Lib.hid hf; clear hf
      clear HX FIN
      have hln : (a.take k).length = k := by rw [List.length_take, HNA.out]; omega
      have HLN := Lib.hid hln; clear hln
      go_wp2
      go_quiet (fail)
      go_wp2_with fail
      refine (slices_Clone_n A c k (a.take k) _ HLN.out (by exact RdI.take ha k) (by omega)).mono ?_
      rintro e w' ⟨v, rfl, ho, hb'⟩
      go_wp2
      go_ret
      rw [HF.out]
      exact ⟨v, rfl, ho, by first | exact below_undrewN hb' | exact below_undrewN (below_undrewN hb')⟩

/-- What a call hands back that makes a slice of words. -/
def RetL (L : List (List Int)) (w : World) (e : Ending) (w' : World) : Prop :=
  ∃ (A : Option Addr) (c : Nat) (ys : List SlV), e = .returned (.slice A ys.length c) ∧ RdS w' w'.heap.size A ys ∧ ys.length ≤ c ∧ c ≤ 9223372036854775807 ∧ ys.map SlV.l = L ∧ Below w.heap.size w w'
theorem own_nib {w : World} {base : Nat} {v : Value} {n : Nat} {vs : List Value} (h : w.ownsRow base 22 1 v n vs) : ∀ k, v.ownBlock = some k → ¬ IntBlk 3 w k := fun k hk => by
  rintro ⟨cs, fz, he⟩
  rcases h.2 with ⟨hv, _⟩ | ⟨g', cap', cur, hv, _, hgg, _⟩
  · subst hv; cases hk
  · subst hv
    simp [Value.ownBlock] at hk
    subst hk
    rw [hgg] at he
    cases he
theorem own_sls {w : World} {base B : Nat} {v : Value} {n : Nat} {xs : List SlV} (h : w.ownsRow base 22 1 v n (xs.map SlV.v)) (hx : xs.length = n) (hk : okK B w xs) :
    ∃ A c, v = .slice A xs.length c ∧ xs.length ≤ c ∧ c ≤ 9223372036854775807 ∧ RdS w w.heap.size A xs := by
  subst hx
  rcases h.2 with ⟨rfl, h0⟩ | ⟨g, cap, cur, rfl, _, _, hnc, hcm, _⟩
  · have hl : xs = [] := List.eq_nil_of_length_eq_zero h0
    subst hl
    exact ⟨none, 0, rfl, Nat.le_refl _, by omega, RdS.nil⟩
  · exact ⟨_, _, rfl, hnc, by simpa [maxLen] using hcm, RdV.of_own h, fun s hs => ⟨(hk s hs).1.rd, (hk s hs).2⟩⟩

set_option maxHeartbeats 1600000 in
theorem word_Prefixes (A : Option Addr) (c na : Nat) (a : List Int) (w : World) (hna : a.length = na) (ha : RdI w w.heap.size A a) (hac : na ≤ c) (hc : c ≤ 9223372036854775807) (hn : na ≤ 1000000) :
    Calls Try.prog 28 #[.slice A na c] w (RetL (pfx a (na + 1)) w) := by
  have HNA := Lib.hid hna; clear hna
  go_enter Try.func28, Try.ntmps28
  go_wp2
  go_loopw [3, 8] (fun o i wr => ∃ (k : Nat) (xs : List SlV), k ≤ na + 1 ∧ i = .int .i64 k ∧ Hid (xs.length = k) ∧ Hid (xs.map SlV.l = pfx a k) ∧ Hid (wr.ownsRow w.heap.size 22 1 o k (xs.map SlV.v)) ∧ Hid (okK w.heap.size wr xs) ∧ Fr 3 w.heap.size w wr) (fun _ i _ => na + 1 - (intOf i).toNat)
  case atStart => exact ⟨0, [], Nat.zero_le _, rfl, rfl, rfl, World.ownsRow_nil _ _ _ _, (fun s hs => by simp at hs), Fr.refl _ _ _⟩
  case round =>
    obtain ⟨k, xs, hk, rfl, HL, HP, HO, HK, hfr⟩ := hrel
    have hbel := hfr.below
    have hsz := hbel.size
    by_cases hlt : k < na + 1
    · have hkc : k ≤ c := by omega
      have hln : (a.take k).length = k := by rw [List.length_take, HNA.out]; omega
      have HLN := Lib.hid hln; clear hln
      go_wp2_with fail
      refine (slices_Clone_n A c k (a.take k) wr HLN.out (by exact ((RdI.take ha k).below hbel).more hsz) (by omega)).mono ?_
      rintro e w1 ⟨v, rfl, ho, hb'⟩
      obtain ⟨A1, c1, rfl, g1, g2, r1⟩ := own_slI ho
      have HO1 := Lib.hid (own_below HO.out hb')
      have f1 : Fr 3 w.heap.size wr w1 := Fr.of_below hb' hsz
      have z1 := hb'.size
      have rk : RdK 3 w.heap.size w1 A1 (a.take k) := RdK.of_own ho
      have HRK := Lib.hid rk
      clear rk ho r1
      have g1' : k ≤ c1 := by have := HLN.out; omega
      rw [HLN.out]
      go_wp2_with (at_builtin; refine wpList_push w1 (.slice A1 k c1) rfl (.tmp 11) (.tmp 16) 45 rfl w.heap.size 22 (.slice none 0 0) 24 Try.underlying45 ints_info rfl u3 k _ rfl HO1.out rfl rfl (by omega) (by omega) (by omega) ?_; intro v' w' ho' hg' hb1)
      have f2 : Fr 3 w.heap.size w1 w' := Fr.grown hg' (fun g hg => ⟨(HO1.out.lt g hg).1, own_nib HO1.out g hg⟩) (by omega)
      go_roundw
      case rel =>
        refine ⟨k + 1, xs ++ [⟨A1, c1, a.take k⟩], by omega, by go_num, Lib.hid (by simp [HL.out]), Lib.hid (by rw [List.map_append, HP.out]; rfl), ?_, ?_, hfr.trans (f1.trans f2)⟩
        · rw [List.map_append]
          have hv : (SlV.v ⟨A1, c1, a.take k⟩) = .slice A1 k c1 := by unfold SlV.v; rw [HLN.out]
          rw [List.map_cons, List.map_nil, hv]
          exact ho'
        · intro s hs
          rcases List.mem_append.1 hs with hs | hs
          · exact ⟨((HK.out s hs).1.fr f1).fr f2, (HK.out s hs).2⟩
          · simp at hs
            subst hs
            exact ⟨HRK.out.fr f2, by show (a.take k).length ≤ c1; rw [HLN.out]; exact g1', g2⟩
      case measure => simp [intOf]; omega
    · have hk1 : k = na + 1 := by omega
      subst hk1
      obtain ⟨A5, c5, rfl, g1, g2, r5⟩ := own_sls HO.out HL.out HK.out
      go_wp2
      go_ret
      exact ⟨A5, c5, xs, rfl, r5, g1, g2, HP.out, hbel⟩
end Go.Proofs.Ytcbhencebflgcaa
