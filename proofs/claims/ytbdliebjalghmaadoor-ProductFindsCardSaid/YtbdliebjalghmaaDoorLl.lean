/- The law ProductFinds: its walk. -/
import Derived.Test.YtbdliebjalghmaaDoorMo
namespace Go.Proofs.YtbdliebjalghmaaDoor
open Go.RowKit Go Go.Maps

/-- the first place from k on, or -1 -/
def wnt (l : List (List Int)) (t : List Int) (k : Nat) (x : Int) : Prop :=
  (x = -1 ∧ ∀ j, k ≤ j → l[j]? ≠ some t) ∨ ∃ j : Nat, x = j ∧ k ≤ j ∧ l[j]? = some t ∧ ∀ i, k ≤ i → i < j → l[i]? ≠ some t
theorem wnt_hit {l : List (List Int)} {t : List Int} {k : Nat} (h : l[k]? = some t) : wnt l t k k := .inr ⟨k, rfl, Nat.le_refl _, h, fun i h1 h2 => by omega⟩
theorem wnt_go {l : List (List Int)} {t : List Int} {k : Nat} {x : Int} (hw : wnt l t (k + 1) x) (h : l[k]? ≠ some t) : wnt l t k x := by
  rcases hw with ⟨e, h1⟩ | ⟨j, e, h1, h2, h3⟩
  · refine .inl ⟨e, fun j hj => ?_⟩
    rcases Nat.lt_or_ge k j with h4 | h4
    · exact h1 j h4
    · obtain rfl : j = k := by omega
      exact h
  · refine .inr ⟨j, e, by omega, h2, fun i h4 h5 => ?_⟩
    rcases Nat.lt_or_ge k i with h6 | h6
    · exact h3 i h6 h5
    · obtain rfl : i = k := by omega
      exact h
theorem wnt_end {l : List (List Int)} {t : List Int} {x : Int} (hw : wnt l t 0 x) : idx l t = x := by
  rcases hw with ⟨rfl, h1⟩ | ⟨j, rfl, _, h2, h3⟩
  · exact idx_none fun j _ => h1 j (Nat.zero_le _)
  · exact idx_first h2 fun i hi => h3 i (Nat.zero_le _) hi

set_option maxRecDepth 100000 in
set_option maxHeartbeats 3200000 in
theorem finds_walk (L T : Option Addr) (c n nt ct : Nat) (xs : List SlV) (t : List Int) (w : World) (hl : xs.length = n) (h : RdS w w.heap.size L xs) (hc1 : n ≤ c) (hc2 : c ≤ 9223372036854775807) (hnt : t.length = nt) (ht : RdI w w.heap.size T t) (_ : nt ≤ ct) (_ : ct ≤ 9223372036854775807) :
    Calls Tryd.prog 7 #[.slice L n c, .slice T nt ct] w fun e w' => e = .returned (.bool true) ∧ Below w.heap.size w w' := by
  have HK := Lib.hid (law_known w)
  have HL := Lib.hid hl; clear hl
  have HNT := Lib.hid hnt; clear hnt
  have HX := Lib.hid h; clear h
  have HT := Lib.hid ht; clear ht
  by_cases h10 : 10 < n
  · have b1 : (10 : Int) < (n : Int) := by omega
    clear h10
    go_enter Tryd.func7, Tryd.ntmps7
    go_wp2_with fail
    refine HK.out.mono ?_
    rintro e w1 ⟨rfl, hb1⟩
    have HK1 := Lib.hid (law_known w1)
    have HB1 := Lib.hid hb1; clear hb1
    go_wp2_with fail
    refine HK1.out.mono ?_
    rintro e w2 ⟨rfl, hb2⟩
    go_wp2
    go_ret
    exact ⟨rfl, HB1.out.trans (hb2.mono HB1.out.size)⟩
  by_cases h5 : 5 < nt
  · have b1 : ¬ (10 : Int) < (n : Int) := by omega
    have b2 : (5 : Int) < (nt : Int) := by omega
    clear h10 h5
    go_enter Tryd.func7, Tryd.ntmps7
    go_wp2_with fail
    refine HK.out.mono ?_
    rintro e w1 ⟨rfl, hb1⟩
    have HK1 := Lib.hid (law_known w1)
    have HB1 := Lib.hid hb1; clear hb1
    go_wp2_with fail
    refine HK1.out.mono ?_
    rintro e w2 ⟨rfl, hb2⟩
    go_wp2
    go_ret
    exact ⟨rfl, HB1.out.trans (hb2.mono HB1.out.size)⟩
  have b1 : ¬ (10 : Int) < (n : Int) := by omega
  have b2 : ¬ (5 : Int) < (nt : Int) := by omega
  go_enter Tryd.func7, Tryd.ntmps7
  go_wp2_with fail
  refine HK.out.mono ?_
  rintro e w1 ⟨rfl, hb1⟩
  have hx1 := (HX.out.below hb1).more hb1.size
  have ht3 := (HT.out.below hb1).more hb1.size
  have HB1 := Lib.hid hb1; clear hb1
  have HX1 := Lib.hid hx1; clear hx1
  have HT1 := Lib.hid ht3; clear ht3
  clear HX HT HK
  go_wp2
  go_loopw [5, 6] (fun v5 v6 wr => ∃ (k : Nat) (x : Int), k ≤ n ∧ v6 = .int .i64 ((k : Int) - 1) ∧ v5 = .int .i64 x ∧ -1 ≤ x ∧ x ≤ 10 ∧ Hid (wnt (xs.map SlV.l) t k x) ∧ ∃ m, wr = w1.drewN m) (fun _ v6 _ => (intOf v6 + 1).toNat)
  case atStart => exact ⟨n, -1, Nat.le_refl _, rfl, rfl, by omega, by omega, Lib.hid (.inl ⟨rfl, fun j hj => by rw [List.getElem?_eq_none (by rw [List.length_map, HL.out]; exact hj)]; simp⟩), (by first | exact dr00 _ | exact dr0 _ _ | exact dr1 _ _ _ | exact dr2 _ _ _ _ | exact dr3 _ _ _ _ _)⟩
  case round =>
    obtain ⟨k, x, hk, rfl, rfl, hx0, hx9, HW, m, rfl⟩ := hrel
    cases k with
    | zero =>
      have hR := wnt_end HW.out
      have HC := Lib.hid (product_Find L T c n nt ct xs t (w1.drewN m) HL.out HX1.out hc1 hc2 HNT.out HT1.out)
      rw [hR] at HC
      clear hR
      have e0 : ((0 : Nat) : Int) - 1 = -1 := by omega
      rw [e0]
      have hB := HB1.out
      by_cases hneg : x < 0
      · obtain rfl : x = -1 := by omega
        rw [show (if (-1 : Int) < 0 then (0 : Int) else -1) = 0 from rfl, show decide ((0 : Int) ≤ -1) = false from rfl] at HC
        clear hneg hB
        go_wp2_with fail
        refine HC.out.mono ?_
        rintro e w2 ⟨rfl, hb2⟩
        go_wp2
        go_ret
        exact ⟨rfl, HB1.out.trans ((below_undrewN hb2).mono HB1.out.size)⟩
      · rw [if_neg hneg, decide_eq_true (show 0 ≤ x by omega)] at HC
        have g1 : decide ((0 : Int) ≤ x) = true := decide_eq_true (by omega)
        have g2 : (0 : Int) ≤ x := by omega
        clear hneg hB
        go_wp2_with fail
        refine HC.out.mono ?_
        rintro e w2 ⟨rfl, hb2⟩
        go_wp2
        go_ret
        exact ⟨rfl, HB1.out.trans ((below_undrewN hb2).mono HB1.out.size)⟩
    | succ k =>
      have e0 : ((k + 1 : Nat) : Int) - 1 = (k : Int) := by omega
      rw [e0]
      obtain ⟨ad, s, rfl, _, hs, hcs, hrs, hs1, hs2⟩ := HX1.out.at_ (k := k) (by have := HL.out; omega)
      have d1 : (k : Int) < (n : Int) := by omega
      have d0 : (0 : Int) ≤ (k : Int) := by omega
      obtain ⟨ns, hns⟩ : ∃ ns, s.l.length = ns := ⟨_, rfl⟩
      rw [hns] at hcs hs1
      have hsm : (xs.map SlV.l)[k]? = some s.l := by rw [List.getElem?_map, hs]; rfl
      obtain ⟨q, hq⟩ : ∃ q, eqB s.l t = q := ⟨_, rfl⟩
      have HC := Lib.hid (law_same_n s.A T s.c ct ns nt s.l t q (w1.drewN m) hns HNT.out hq hrs hs1 hs2 HT1.out)
      have HQ := Lib.hid hq; clear hq
      have HSM := Lib.hid hsm; clear hsm
      have HS := Lib.hid hs; clear hs
      have HNS := Lib.hid hns; clear hns
      clear hrs
      by_cases h6 : 5 < ns
      · have b3 : (5 : Int) < (ns : Int) := by omega
        go_wp2
        go_ret
        exact ⟨rfl, below_drewN HB1.out _⟩
      · have b3 : ¬ (5 : Int) < (ns : Int) := by omega
        go_wp2_with fail
        refine HC.out.mono ?_
        rintro e w' ⟨rfl, m2, rfl⟩
        cases q with
        | true =>
          have hx := eqB_eq HQ.out
          have HW2 := Lib.hid (wnt_hit (t := t) (by rw [HSM.out, hx]) : wnt (xs.map SlV.l) t k (k : Int))
          clear hx
          go_wp2
          go_roundw
          case rel => exact ⟨k, (k : Int), by omega, by go_num, rfl, by omega, by omega, HW2, (by first | exact dr00 _ | exact dr0 _ _ | exact dr1 _ _ _ | exact dr2 _ _ _ _ | exact dr3 _ _ _ _ _)⟩
          case measure => simp [intOf]
        | false =>
          have HW2 := Lib.hid (wnt_go HW.out (by rw [HSM.out]; intro e; injection e with e; exact eqB_ne HQ.out e))
          go_wp2
          go_roundw
          case rel => exact ⟨k, x, by omega, by go_num, rfl, hx0, hx9, HW2, (by first | exact dr00 _ | exact dr0 _ _ | exact dr1 _ _ _ | exact dr2 _ _ _ _ | exact dr3 _ _ _ _ _)⟩
          case measure => simp [intOf]
end Go.Proofs.YtbdliebjalghmaaDoor
