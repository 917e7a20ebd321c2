/- The law WordCompares: its walk. -/
import Derived.Test.YtcbhencebflgcaaWk
namespace Go.Proofs.Ytcbhencebflgcaa
open Go.RowKit Go

set_option maxHeartbeats 1600000 in
theorem compares_walk (A B C : Option Addr) (ca cb cc : Nat) (a b c : List Int) (w : World) (ha : RdI w w.heap.size A a) (ha1 : a.length ≤ ca) (ha2 : ca ≤ 9223372036854775807)
    (hb : RdI w w.heap.size B b) (hb1 : b.length ≤ cb) (hb2 : cb ≤ 9223372036854775807) (hc : RdI w w.heap.size C c) (hc1 : c.length ≤ cc) (hc2 : cc ≤ 9223372036854775807) :
    Calls Try.prog 7 #[.slice A a.length ca, .slice B b.length cb, .slice C c.length cc] w fun e w' => e = .returned (.bool true) ∧ Below w.heap.size w w' := by
  by_cases hl : a.length ≤ 20 ∧ b.length ≤ 20 ∧ c.length ≤ 20
  · obtain ⟨l1, l2, l3⟩ := hl
    have hr := cmpW_range a b
    have hn := cmpW_neg a b
    have hz := cmpW_zero a b
    have hs := cmpW_self a
    have htr := @cmpW_le_trans a b c
    generalize hN : cmpW a b = n at hr hn hz htr
    have HN := Lib.hid hN; clear hN
    have HNG := Lib.hid hn; clear hn
    have HZ := Lib.hid hz; clear hz
    have HS := Lib.hid hs; clear hs
    have HT := Lib.hid htr; clear htr
    obtain ⟨r1, r2⟩ := hr
    go_enter Try.func7, Try.ntmps7
    go_wp2_with fail
    refine (known_any _).mono ?_
    rintro e w1 ⟨rfl, B1⟩
    have z1 := B1.size
    go_wp2_with fail
    have hcon := word_Compare A B ca cb a b w1 ((ha.below B1).more z1) (by omega) ((hb.below B1).more z1)
    rw [HN.out] at hcon
    refine hcon.mono ?_
    rintro e w2 ⟨rfl, hb'⟩
    have B2 : Below w.heap.size w w2 := B1.trans (hb'.mono z1)
    have z2 := B2.size
    clear hcon hb' B1 z1
    go_wp2_with fail
    have hcon := ref_Compare A B ca cb a b w2 ((ha.below B2).more z2) ha1 ha2 ((hb.below B2).more z2)
    rw [HN.out] at hcon
    refine hcon.mono ?_
    rintro e w3 ⟨rfl, hd⟩
    have B3 : Below w.heap.size w w3 := by obtain ⟨m, rfl⟩ := hd; exact below_drewN B2 _
    have z3 := B3.size
    clear hcon hd B2 z2
    go_wp2_with fail
    have hcon := word_Compare B A cb ca b a w3 ((hb.below B3).more z3) (by omega) ((ha.below B3).more z3)
    rw [HNG.out] at hcon
    refine hcon.mono ?_
    rintro e w4 ⟨rfl, hb'⟩
    have B4 : Below w.heap.size w w4 := B3.trans (hb'.mono z3)
    have z4 := B4.size
    clear hcon hb' B3 z3
    go_wp2_with fail
    have hcon := word_Compare A A ca ca a a w4 ((ha.below B4).more z4) (by omega) ((ha.below B4).more z4)
    rw [HS.out] at hcon
    refine hcon.mono ?_
    rintro e w5 ⟨rfl, hb'⟩
    have B5 : Below w.heap.size w w5 := B4.trans (hb'.mono z4)
    have z5 := B5.size
    clear hcon hb' B4 z4
    go_wp2_with fail
    have hcon := word_Equal A B ca cb a b w5 ((ha.below B5).more z5) ha1 ha2 ((hb.below B5).more z5)
    rw [← HZ.out] at hcon
    refine hcon.mono ?_
    rintro e w6 ⟨rfl, hd⟩
    have B6 : Below w.heap.size w w6 := by obtain ⟨m, rfl⟩ := hd; exact below_drewN B5 _
    have z6 := B6.size
    clear hcon hd B5 z5
    by_cases hn0 : 0 < n
    · go_wp2
      go_ret
      exact ⟨rfl, B6⟩
    · go_wp2_with fail
      refine (word_Compare B C cb cc b c w6 ((hb.below B6).more z6) (by omega) ((hc.below B6).more z6)).mono ?_
      rintro e w7 ⟨rfl, hb'⟩
      have B7 : Below w.heap.size w w7 := B6.trans (hb'.mono z6)
      have z7 := B7.size
      clear hb' B6 z6
      have HT2 := Lib.hid (HT.out (by omega))
      generalize cmpW b c = q at HT2 ⊢
      by_cases hq : 0 < q
      · go_wp2
        go_ret
        exact ⟨rfl, B7⟩
      · have ht := HT2.out (by omega)
        go_wp2_with fail
        refine (word_Compare A C ca cc a c w7 ((ha.below B7).more z7) (by omega) ((hc.below B7).more z7)).mono ?_
        rintro e w8 ⟨rfl, hb'⟩
        have B8 : Below w.heap.size w w8 := B7.trans (hb'.mono z7)
        go_wp2
        go_ret
        exact ⟨rfl, B8⟩
  · by_cases h1 : 20 < a.length
    · clear hl
      go_enter Try.func7, Try.ntmps7
      go_wp2_with fail
      refine (known_any _).mono ?_
      rintro e w1 ⟨rfl, B1⟩
      go_wp2_with fail
      refine (known_any _).mono ?_
      rintro e w2 ⟨rfl, B2⟩
      go_wp2
      go_ret
      exact ⟨rfl, B1.trans (B2.mono B1.size)⟩
    · by_cases h2 : 20 < b.length
      · clear hl
        go_enter Try.func7, Try.ntmps7
        go_wp2_with fail
        refine (known_any _).mono ?_
        rintro e w1 ⟨rfl, B1⟩
        go_wp2_with fail
        refine (known_any _).mono ?_
        rintro e w2 ⟨rfl, B2⟩
        go_wp2
        go_ret
        exact ⟨rfl, B1.trans (B2.mono B1.size)⟩
      · have h3 : 20 < c.length := by omega
        clear hl
        go_enter Try.func7, Try.ntmps7
        go_wp2_with fail
        refine (known_any _).mono ?_
        rintro e w1 ⟨rfl, B1⟩
        go_wp2_with fail
        refine (known_any _).mono ?_
        rintro e w2 ⟨rfl, B2⟩
        go_wp2
        go_ret
        exact ⟨rfl, B1.trans (B2.mono B1.size)⟩
end Go.Proofs.Ytcbhencebflgcaa
