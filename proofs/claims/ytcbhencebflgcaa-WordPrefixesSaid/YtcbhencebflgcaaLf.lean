/- The law WordPrefixes: its walk. -/
import Derived.Test.YtcbhencebflgcaaWk
import Derived.Test.YtcbhencebflgcaaWn
namespace Go.Proofs.Ytcbhencebflgcaa
open Go.RowKit Go

theorem pfx_at {a : List Int} {ys : List SlV} {k : Nat} {s : SlV} (h : ys.map SlV.l = pfx a (a.length + 1)) (hs : ys[k]? = some s) : s.l = a.take k ∧ k ≤ a.length := by
  have h1 : (ys.map SlV.l)[k]? = some s.l := by rw [List.getElem?_map, hs]; rfl
  have hk : k < ys.length := get_lt hs
  have hl : ys.length = a.length + 1 := by rw [← List.length_map (f := SlV.l), h, pfx_len]
  rw [h, pfx_get a _ k (by omega)] at h1
  injection h1 with h1
  exact ⟨h1.symm, by omega⟩

/-- a slice of n ints that a call made -/
def RetN (l : List Int) (n : Nat) (w : World) (e : Ending) (w' : World) : Prop :=
  ∃ A c, e = .returned (.slice A n c) ∧ n ≤ c ∧ c ≤ 9223372036854775807 ∧ RdI w' w'.heap.size A l ∧ Below w.heap.size w w'
theorem word_Common_k (A B : Option Addr) (c d na nb k : Nat) (a b : List Int) (w : World) (hna : a.length = na) (hnb : b.length = nb) (hk : cmnN a b = k) (hl : (a.take k).length = k) (ha : RdI w w.heap.size A a) (hac : na ≤ c) (hn : na ≤ 1000000)
    (hb : RdI w w.heap.size B b) (hbn : nb ≤ 1000000) :
    Calls Try.prog 31 #[.slice A na c, .slice B nb d] w (RetN (a.take k) k w) := by
  subst hk
  refine (word_Common A B c d na nb a b w hna hnb ha hac hn hb hbn).mono ?_
  rintro e w' ⟨v, rfl, ho, hb⟩
  obtain ⟨A, c, rfl, g1, g2, r⟩ := own_slI ho
  rw [hl] at g1 ⊢
  exact ⟨A, c, rfl, g1, g2, r, hb⟩


set_option maxRecDepth 100000 in
set_option maxHeartbeats 3200000 in
theorem prefixes_walk (A C : Option Addr) (ca cb na nb : Nat) (a b : List Int) (w : World) (hna : a.length = na) (hnb : b.length = nb) (ha : RdI w w.heap.size A a) (ha1 : na ≤ ca) (ha2 : ca ≤ 9223372036854775807)
    (hb : RdI w w.heap.size C b) (hb1 : nb ≤ cb) :
    Calls Try.prog 9 #[.slice A na ca, .slice C nb cb] w fun e w' => e = .returned (.bool true) ∧ Below w.heap.size w w' := by
  by_cases hl : na ≤ 20 ∧ nb ≤ 20
  · obtain ⟨l1, l2⟩ := hl
    have HNA := Lib.hid hna; clear hna
    have HNB := Lib.hid hnb; clear hnb
    generalize hq : prefB a b = q
    have HQ := Lib.hid hq; clear hq
    go_enter Try.func9, Try.ntmps9
    go_wp2_with fail
    refine (known_any _).mono ?_
    rintro e w1 ⟨rfl, B1⟩
    have z1 := B1.size
    go_wp2_with fail
    refine (word_Prefixes A ca na a w1 HNA.out ((ha.below B1).more z1) ha1 ha2 (by omega)).mono ?_
    rintro e w2 ⟨A2, c2, ys, rfl, r2, g1, g2, hy, hb'⟩
    have B2 := B1.trans (hb'.mono z1)
    have z2 := B2.size
    have hyl : ys.length = na + 1 := by rw [← List.length_map (f := SlV.l), hy, pfx_len]
    have hy' : ys.map SlV.l = pfx a (a.length + 1) := by rw [HNA.out]; exact hy
    have HY := Lib.hid hy'; clear hy'
    clear hy hb' B1 z1
    rw [hyl]
    have g1' : na + 1 ≤ c2 := by omega
    have HYL := Lib.hid hyl; clear hyl
    have t1 : ((((na + 1 : Nat) : Int)) != (na : Int) + 1) = false := by rw [bne_eq_false_iff_eq]; omega
    clear g1
    go_wp2_with fail
    refine (word_IsPrefix A C ca cb na nb a b q w2 HNA.out HNB.out HQ.out ((ha.below B2).more z2) ha1 ha2 ((hb.below B2).more z2) hb1).mono ?_
    rintro e w3 ⟨rfl, n3, rfl⟩
    go_wp2_with fail
    refine (ref_Prefix A C ca cb na nb a b q _ HNA.out HNB.out HQ.out (by exact (ha.below B2).more z2) ha1 ha2 (by exact (hb.below B2).more z2) hb1).mono ?_
    rintro e w4 ⟨rfl, n4, rfl⟩
    go_wp2
    go_loopw [6] (fun i wr => ∃ k : Nat, k ≤ na + 1 ∧ i = .int .i64 k ∧ ∃ n, wr = w2.drewN n) (fun i _ => na + 1 - (intOf i).toNat)
    case atStart => exact ⟨0, Nat.zero_le _, rfl, (by first | exact dr00 _ | exact dr0 _ _ | exact dr1 _ _ _ | exact dr2 _ _ _ _ | exact dr3 _ _ _ _ _)⟩
    case round =>
      obtain ⟨k, hk, rfl, n, rfl⟩ := hrel
      by_cases hlt : k < na + 1
      · obtain ⟨ad, s, rfl, _, hs, hcs, rs, gs1, gs2⟩ := r2.at_ (k := k) (by have := HYL.out; omega)
        obtain ⟨hsl, _⟩ := pfx_at HY.out hs
        have hsn : s.l.length = k := by rw [hsl, List.length_take, HNA.out]; omega
        have hln : (a.take k).length = k := by rw [List.length_take, HNA.out]; omega
        rw [hsn] at hcs gs1
        have e1 : eqB s.l (a.take k) = true := eqB_of hsl
        have e2 : prefB s.l a = true := by rw [hsl]; exact prefB_take a k
        have HSN := Lib.hid hsn; clear hsn
        have HLN := Lib.hid hln; clear hln
        have E1 := Lib.hid e1; clear e1
        have E2 := Lib.hid e2; clear e2
        clear hs hsl
        have b1 : (k : Int) < ((na + 1 : Nat) : Int) := by omega
        have b2 : k ≤ ca := by omega
        have rd2 : RdI w2 w2.heap.size A a := (ha.below B2).more z2
        have rk2 := RdI.take rd2 k
        go_wp2
        go_quiet (first | (go_at_call 20; refine quiet_add (law_same_n s.A A s.c ca k k s.l (a.take k) true _ HSN.out HLN.out E1.out (by exact rs) gs1 gs2 (by exact rk2))) | (go_at_call 29; refine quiet_add (word_IsPrefix s.A A s.c ca k na s.l a true _ HSN.out HNA.out E2.out (by exact rs) gs1 gs2 (by exact rd2) ha1)))
        go_wp2
        go_roundw
        case rel => exact ⟨k + 1, by omega, by go_num, (by first | exact dr00 _ | exact dr0 _ _ | exact dr1 _ _ _ | exact dr2 _ _ _ _ | exact dr3 _ _ _ _ _)⟩
        case measure => simp [intOf]; omega
      · go_wp2
        go_loopw [7] (fun i wr => ∃ k : Nat, k ≤ na ∧ k ≤ nb ∧ i = .int .i64 k ∧ Hid (cmnN a b = k + cmnN (a.drop k) (b.drop k)) ∧ ∃ n, wr = w2.drewN n) (fun i _ => na - (intOf i).toNat)
        case atStart => exact ⟨0, Nat.zero_le _, Nat.zero_le _, rfl, Lib.hid (by simp), (by first | exact dr00 _ | exact dr0 _ _ | exact dr1 _ _ _ | exact dr2 _ _ _ _ | exact dr3 _ _ _ _ _)⟩
        case round =>
          obtain ⟨k, hk, hk2, rfl, HX, n, rfl⟩ := hrel
          have fin : cmnN (a.drop k) (b.drop k) = 0 → cmnN a b = k := fun h => by have := HX.out; omega
          have FIN := Lib.hid fin
          clear fin
          have hkc : k ≤ ca := by omega
          by_cases h1 : k < na
          · by_cases h2 : k < nb
            · obtain ⟨ad, x, rfl, _, hx, hcx⟩ := (ha.below B2).at_ (k := k) (by have := HNA.out; omega)
              obtain ⟨bd, y, rfl, _, hy, hcy⟩ := (hb.below B2).at_ (k := k) (by have := HNB.out; omega)
              have b1 : (k : Int) < (na : Int) := by omega
              have b2 : (k : Int) < (nb : Int) := by omega
              by_cases hxy : x = y
              · subst hxy
                have HXX := Lib.hid hx; clear hx
                have HYY := Lib.hid hy; clear hy
                go_wp2
                go_quiet (fail)
                go_wp2
                go_roundw
                case rel => exact ⟨k + 1, by omega, by omega, by go_num, Lib.hid (by rw [HX.out, cmnN_go HXX.out HYY.out]; omega), (by first | exact dr00 _ | exact dr0 _ _ | exact dr1 _ _ _ | exact dr2 _ _ _ _ | exact dr3 _ _ _ _ _)⟩
                case measure => simp [intOf]; omega
              · have he : (x == y) = false := by simpa using hxy
                have FN2 := Lib.hid (FIN.out (cmnN_stop hx hy hxy))
                have HXX := Lib.hid hx; clear hx
                have HYY := Lib.hid hy; clear hy
                clear FIN
                have FE := Lib.hid ((FN2.out : cmnN a b = k))
                have hln : (a.take k).length = k := by rw [List.length_take, HNA.out]; omega
                have FE2 : Hid (cmnN b a = k) := Lib.hid (by rw [cmnN_comm]; exact FE.out)
                have hln2 : (b.take k).length = k := by have := (cmnN_le b a).1; have h2 := FE2.out; rw [List.length_take]; omega
                have e2 : eqB (b.take k) (a.take k) = true := eqB_of (by have := cmn_same a b; rw [FE.out, FE2.out] at this; exact this)
                have e1 : eqB (a.take k) (a.take k) = true := eqB_of rfl
                have HLM := Lib.hid hln2; clear hln2
                have HLN := Lib.hid hln; clear hln
                have E1 := Lib.hid e1; clear e1
                have E2 := Lib.hid e2; clear e2
                clear HX FN2
                have rd2 : RdI w2 w2.heap.size (some ad) a := (ha.below B2).more z2
                have rb2 : RdI w2 w2.heap.size (some bd) b := (hb.below B2).more z2
                go_wp2
                go_quiet (fail)
                go_wp2_with fail
                go_region_held3 (fun _ => True) (trivial) (first
                  | (go_at_call 31; (with_reducible refine (word_Common_k (some ad) (some bd) ca cb na nb k a b _ HNA.out HNB.out FE.out HLN.out ?_ ha1 ?_ ?_ ?_).mono ?_); exact rd2; omega; exact rb2; omega; rintro e w3 ⟨A3, c3, rfl, g1, g2, r3, hb3⟩; have B3' : Below w2.heap.size w2 w3 := ⟨hb3.os, hb3.tape, hb3.output, hb3.size, hb3.block⟩; have B3 := B2.trans (B3'.mono z2); have z3 := B3.size; have rd3 := (rd2.below B3').more B3'.size; have rb3 := (rb2.below B3').more B3'.size; clear hb3 rd2 rb2)
                  | (go_at_call 20; (with_reducible refine (law_same_n A3 (some ad) c3 ca k k (a.take k) (a.take k) true _ HLN.out HLN.out E1.out ?_ g1 g2 ?_).mono ?_); exact r3; exact RdI.take rd3 k; rintro e w4 ⟨rfl, n4, rfl⟩)
                  | (go_at_call 31; (with_reducible refine (word_Common_k (some bd) (some ad) cb ca nb na k b a _ HNB.out HNA.out FE2.out HLM.out ?_ hb1 ?_ ?_ ?_).mono ?_); exact rb3; omega; exact rd3; omega; rintro e w5 ⟨A5, c5, rfl, g3, g4, r5, hb5⟩; have B5' : Below w3.heap.size w3 w5 := ⟨hb5.os, hb5.tape, hb5.output, hb5.size, hb5.block⟩; have B5 := B3.trans (B5'.mono z3); have rd5 := (rd3.below B5').more B5'.size; clear hb5 rd3 rb3)
                  | (go_at_call 20; (with_reducible refine (law_same_n A5 (some ad) c5 ca k k (b.take k) (a.take k) true _ HLM.out HLN.out E2.out ?_ g3 g4 ?_).mono ?_); exact r5; exact RdI.take rd5 k; rintro e w6 ⟨rfl, n6, rfl⟩) | fail)
                go_wp2
                go_ret
                exact ⟨rfl, below_drewN B5 _⟩
            · have b1 : (k : Int) < (na : Int) := by omega
              have b2 : decide (k < nb) = false := by simpa using h2
              have b3 : decide ((k : Int) < (nb : Int)) = false := by simp; omega
              have FN2 := Lib.hid (FIN.out (cmnN_end_b (by have := HNB.out; omega)))
              clear FIN
              have FE := Lib.hid ((FN2.out : cmnN a b = k))
              have hln : (a.take k).length = k := by rw [List.length_take, HNA.out]; omega
              have FE2 : Hid (cmnN b a = k) := Lib.hid (by rw [cmnN_comm]; exact FE.out)
              have hln2 : (b.take k).length = k := by have := (cmnN_le b a).1; have h2 := FE2.out; rw [List.length_take]; omega
              have e2 : eqB (b.take k) (a.take k) = true := eqB_of (by have := cmn_same a b; rw [FE.out, FE2.out] at this; exact this)
              have e1 : eqB (a.take k) (a.take k) = true := eqB_of rfl
              have HLM := Lib.hid hln2; clear hln2
              have HLN := Lib.hid hln; clear hln
              have E1 := Lib.hid e1; clear e1
              have E2 := Lib.hid e2; clear e2
              clear HX FN2
              have rd2 : RdI w2 w2.heap.size A a := (ha.below B2).more z2
              have rb2 : RdI w2 w2.heap.size C b := (hb.below B2).more z2
              go_wp2
              go_quiet (fail)
              go_wp2_with fail
              go_region_held3 (fun _ => True) (trivial) (first
                | (go_at_call 31; (with_reducible refine (word_Common_k A C ca cb na nb k a b _ HNA.out HNB.out FE.out HLN.out ?_ ha1 ?_ ?_ ?_).mono ?_); exact rd2; omega; exact rb2; omega; rintro e w3 ⟨A3, c3, rfl, g1, g2, r3, hb3⟩; have B3' : Below w2.heap.size w2 w3 := ⟨hb3.os, hb3.tape, hb3.output, hb3.size, hb3.block⟩; have B3 := B2.trans (B3'.mono z2); have z3 := B3.size; have rd3 := (rd2.below B3').more B3'.size; have rb3 := (rb2.below B3').more B3'.size; clear hb3 rd2 rb2)
                | (go_at_call 20; (with_reducible refine (law_same_n A3 A c3 ca k k (a.take k) (a.take k) true _ HLN.out HLN.out E1.out ?_ g1 g2 ?_).mono ?_); exact r3; exact RdI.take rd3 k; rintro e w4 ⟨rfl, n4, rfl⟩)
                | (go_at_call 31; (with_reducible refine (word_Common_k C A cb ca nb na k b a _ HNB.out HNA.out FE2.out HLM.out ?_ hb1 ?_ ?_ ?_).mono ?_); exact rb3; omega; exact rd3; omega; rintro e w5 ⟨A5, c5, rfl, g3, g4, r5, hb5⟩; have B5' : Below w3.heap.size w3 w5 := ⟨hb5.os, hb5.tape, hb5.output, hb5.size, hb5.block⟩; have B5 := B3.trans (B5'.mono z3); have rd5 := (rd3.below B5').more B5'.size; clear hb5 rd3 rb3)
                | (go_at_call 20; (with_reducible refine (law_same_n A5 A c5 ca k k (b.take k) (a.take k) true _ HLM.out HLN.out E2.out ?_ g3 g4 ?_).mono ?_); exact r5; exact RdI.take rd5 k; rintro e w6 ⟨rfl, n6, rfl⟩) | fail)
              go_wp2
              go_ret
              exact ⟨rfl, below_drewN B5 _⟩
          · have b2 : decide (k < na) = false := by simpa using h1
            have b3 : decide ((k : Int) < (na : Int)) = false := by simp; omega
            have FN2 := Lib.hid (FIN.out (cmnN_end_a (by have := HNA.out; omega)))
            clear FIN
            have FE := Lib.hid ((FN2.out : cmnN a b = k))
            have hln : (a.take k).length = k := by rw [List.length_take, HNA.out]; omega
            have FE2 : Hid (cmnN b a = k) := Lib.hid (by rw [cmnN_comm]; exact FE.out)
            have hln2 : (b.take k).length = k := by have := (cmnN_le b a).1; have h2 := FE2.out; rw [List.length_take]; omega
            have e2 : eqB (b.take k) (a.take k) = true := eqB_of (by have := cmn_same a b; rw [FE.out, FE2.out] at this; exact this)
            have e1 : eqB (a.take k) (a.take k) = true := eqB_of rfl
            have HLM := Lib.hid hln2; clear hln2
            have HLN := Lib.hid hln; clear hln
            have E1 := Lib.hid e1; clear e1
            have E2 := Lib.hid e2; clear e2
            clear HX FN2
            have rd2 : RdI w2 w2.heap.size A a := (ha.below B2).more z2
            have rb2 : RdI w2 w2.heap.size C b := (hb.below B2).more z2
            go_wp2
            go_quiet (fail)
            go_wp2_with fail
            go_region_held3 (fun _ => True) (trivial) (first
              | (go_at_call 31; (with_reducible refine (word_Common_k A C ca cb na nb k a b _ HNA.out HNB.out FE.out HLN.out ?_ ha1 ?_ ?_ ?_).mono ?_); exact rd2; omega; exact rb2; omega; rintro e w3 ⟨A3, c3, rfl, g1, g2, r3, hb3⟩; have B3' : Below w2.heap.size w2 w3 := ⟨hb3.os, hb3.tape, hb3.output, hb3.size, hb3.block⟩; have B3 := B2.trans (B3'.mono z2); have z3 := B3.size; have rd3 := (rd2.below B3').more B3'.size; have rb3 := (rb2.below B3').more B3'.size; clear hb3 rd2 rb2)
              | (go_at_call 20; (with_reducible refine (law_same_n A3 A c3 ca k k (a.take k) (a.take k) true _ HLN.out HLN.out E1.out ?_ g1 g2 ?_).mono ?_); exact r3; exact RdI.take rd3 k; rintro e w4 ⟨rfl, n4, rfl⟩)
              | (go_at_call 31; (with_reducible refine (word_Common_k C A cb ca nb na k b a _ HNB.out HNA.out FE2.out HLM.out ?_ hb1 ?_ ?_ ?_).mono ?_); exact rb3; omega; exact rd3; omega; rintro e w5 ⟨A5, c5, rfl, g3, g4, r5, hb5⟩; have B5' : Below w3.heap.size w3 w5 := ⟨hb5.os, hb5.tape, hb5.output, hb5.size, hb5.block⟩; have B5 := B3.trans (B5'.mono z3); have rd5 := (rd3.below B5').more B5'.size; clear hb5 rd3 rb3)
              | (go_at_call 20; (with_reducible refine (law_same_n A5 A c5 ca k k (b.take k) (a.take k) true _ HLM.out HLN.out E2.out ?_ g3 g4 ?_).mono ?_); exact r5; exact RdI.take rd5 k; rintro e w6 ⟨rfl, n6, rfl⟩) | fail)
            go_wp2
            go_ret
            exact ⟨rfl, below_drewN B5 _⟩
  · clear hna hnb
    by_cases h1 : 20 < na
    · skip
      clear hl
      go_enter Try.func9, Try.ntmps9
      go_wp2_with fail
      refine (known_any _).mono ?_
      rintro e w1 ⟨rfl, B1⟩
      go_wp2_with fail
      refine (known_any _).mono ?_
      rintro e w2 ⟨rfl, B2⟩
      go_wp2
      go_ret
      exact ⟨rfl, B1.trans (B2.mono B1.size)⟩
    · have h2 : 20 < nb := by omega
      clear hl
      go_enter Try.func9, Try.ntmps9
      go_wp2_with fail
      refine (known_any _).mono ?_
      rintro e w1 ⟨rfl, B1⟩
      go_wp2_with fail
      refine (known_any _).mono ?_
      rintro e w2 ⟨rfl, B2⟩
      go_wp2
      go_ret
      exact ⟨rfl, B1.trans (B2.mono B1.size)⟩
end Go.Proofs.Ytcbhencebflgcaa
