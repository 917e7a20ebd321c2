/- The law WordTexts: its walk. -/
import Derived.Test.YtcbhencebflgcaaEn
import Derived.Test.YtcbhencebflgcaaEd
import Derived.Test.YtcbhencebflgcaaWk
import Derived.Test.YtcbhencebflgcaaWn
import Derived.Deep.OwnRows
namespace Go.Proofs.Ytcbhencebflgcaa
open Go.RowKit Go


set_option maxRecDepth 100000 in
set_option maxHeartbeats 6400000 in
theorem texts_walk (A B : Option Addr) (c d n m : Nat) (l : List Ev) (ws : List Int) (w : World) (hl : l.length = n) (h : RdE w w.heap.size A l) (hc1 : n ≤ c) (hc2 : c ≤ 9223372036854775807) (hm : ws.length = m) (hB : RdI w w.heap.size B ws) (hd1 : m ≤ d) (hd2 : d ≤ 9223372036854775807) :
    Calls Try.prog 13 #[.slice A n c, .slice B m d] w fun e w' => e = .returned (.bool true) ∧ Below w.heap.size w w' := by
  have HL := Lib.hid hl; clear hl
  have HM := Lib.hid hm; clear hm
  cases hsh : shortB l with
  | false =>
    have HS := Lib.hid hsh; clear hsh
    go_enter Try.func13, Try.ntmps13
    go_wp2_with fail
    refine (known_any _).mono ?_
    rintro e w1 ⟨rfl, F⟩
    go_wp2_with fail
    have hcs := law_short A c n l w1 HL.out ((h.below F).more F.size)
    rw [HS.out] at hcs
    refine hcs.mono ?_
    rintro e w' ⟨rfl, rfl⟩
    clear hcs
    go_wp2_with fail
    refine (known_any _).mono ?_
    rintro e w2 ⟨rfl, B2⟩
    go_wp2
    go_ret
    exact ⟨rfl, F.trans (B2.mono F.size)⟩
  | true =>
    by_cases h4 : 20 < m
    · have h5 : (20 : Int) < (m : Int) := by omega
      have HS := Lib.hid hsh; clear hsh
      go_enter Try.func13, Try.ntmps13
      go_wp2_with fail
      refine (known_any _).mono ?_
      rintro e w1 ⟨rfl, F⟩
      go_wp2_with fail
      have hcs := law_short A c n l w1 HL.out ((h.below F).more F.size)
      rw [HS.out] at hcs
      refine hcs.mono ?_
      rintro e w' ⟨rfl, rfl⟩
      clear hcs
      go_wp2_with fail
      refine (known_any _).mono ?_
      rintro e w2 ⟨rfl, B2⟩
      go_wp2
      go_ret
      exact ⟨rfl, F.trans (B2.mono F.size)⟩
    · have h5 : decide ((20 : Int) < (m : Int)) = false := decide_eq_false (by omega)
      have h6 : decide (20 < m) = false := decide_eq_false h4
      by_cases hz : chkE l = 0
      · have HZ := Lib.hid hz; clear hz
        have HS := Lib.hid hsh; clear hsh
        go_enter Try.func13, Try.ntmps13
        go_wp2_with fail
        refine (known_any _).mono ?_
        rintro e w1 ⟨rfl, F⟩
        go_wp2_with fail
        have hcs := law_short A c n l w1 HL.out ((h.below F).more F.size)
        rw [HS.out] at hcs
        refine hcs.mono ?_
        rintro e w' ⟨rfl, rfl⟩
        clear hcs
        go_wp2_with fail
        have he := ref02_Events A c n l w1 HL.out ((h.below F).more F.size) hc1 hc2
        rw [HZ.out] at he
        refine he.mono ?_
        rintro e w2 ⟨rfl, b⟩
        clear he
        replace F := F.trans (b.mono F.size)
        clear b
        go_wp2
        go_loop [5, 6] (fun s5 s6 => ∃ k : Nat, k ≤ m ∧ s6 = .int .i64 k ∧ ((s5 = .int .i64 0 ∧ Hid (okT n (ws.take k) = true)) ∨ (s5 = .int .i64 2 ∧ Hid (okT n ws = false)))) (fun _ s6 => m - (intOf s6).toNat)
        case atStart => exact ⟨0, Nat.zero_le _, rfl, .inl ⟨rfl, Lib.hid rfl⟩⟩
        case round =>
          obtain ⟨k, hk, rfl, hw⟩ := hrel
          rcases hw with ⟨rfl, HK⟩ | ⟨rfl, HK⟩
          · by_cases hlt : k < m
            · have b1 : (k : Int) < (m : Int) := by omega
              obtain ⟨bd, x, rfl, hbB, hx, hcx⟩ := ((hB.below F).more F.size).at_ (k := k) (by have := HM.out; omega)
              cases hox : okX n x with
              | false =>
                have hno := okT_no hx hox
                have hbad : x < 0 ∨ (n : Int) ≤ x := by
                  unfold okX at hox
                  by_cases h0 : 0 ≤ x
                  · right
                    by_cases h1 : x < (n : Int)
                    · simp [h0, h1] at hox
                    · omega
                  · left; omega
                have HGX := Lib.hid hx; clear hx
                have HOX := Lib.hid hox; clear hox
                have HNO := Lib.hid hno; clear hno
                rcases hbad with h0 | h0
                · go_wp2
                  go_round
                  case rel => exact ⟨k + 1, by omega, by go_num, .inr ⟨rfl, HNO⟩⟩
                  case measure => simp [intOf]; omega
                · by_cases h1 : x < 0
                  · omega
                  · have h2 : decide (x < 0) = false := decide_eq_false h1
                    clear h1
                    go_wp2
                    go_round
                    case rel => exact ⟨k + 1, by omega, by go_num, .inr ⟨rfl, HNO⟩⟩
                    case measure => simp [intOf]; omega
              | true =>
                have hstep := okT_step HK.out hx hox
                have hox' : 0 ≤ x ∧ x < (n : Int) := by simpa [okX] using hox
                obtain ⟨h0, h1⟩ := hox'
                have h2 : decide (x < 0) = false := decide_eq_false (by omega)
                have h3 : decide ((n : Int) ≤ x) = false := decide_eq_false (by omega)
                have HGX := Lib.hid hx; clear hx
                have HOX := Lib.hid hox; clear hox
                have HST := Lib.hid hstep; clear hstep
                go_wp2
                go_round
                case rel => exact ⟨k + 1, by omega, by go_num, .inl ⟨rfl, HST⟩⟩
                case measure => simp [intOf]; omega
            · obtain rfl : k = m := by omega
              have hok := okT_end HK.out (by have := HM.out; omega)
              obtain ⟨nz, hnz⟩ : ∃ n : Nat, n = 4097 := ⟨_, rfl⟩
              have kz : ∀ W : World, (Instr.makeSlice 22 (.int .i64 4097) (.int .i64 4097)).run Try.prog W = .ok (.slice (some ⟨W.heap.size, 0, none⟩) nz nz) (W.alloc (.cells (madeCells #[.int .i64 0] nz) 3)) := fun W => by
                subst hnz
                exact run_make_row' 22 3 (.int .i64 0) 8 Try.underlying22 int_info rfl .i64 .i64 4097 (by omega) (by omega) W
              have z1 : 4096 < nz := by omega
              have z2 : nz ≤ 9223372036854775807 := by omega
              have hts := txt_size HZ.out ws
              rw [HM.out] at hts
              have hback := txt_back HZ.out (HL.out.symm ▸ hok)
              have hq := eqB_of (rfl : ws = ws)
              obtain ⟨tx, htx⟩ : ∃ tx, txt l ws = tx := ⟨_, rfl⟩
              rw [htx] at hts hback
              have hts2 : tx.size ≤ 4000 := by omega
              have hself : (tx.toList == tx.toList) = true := by simp
              clear hnz hts
              have HTX := Lib.hid htx; clear htx
              have HOKT := Lib.hid hok; clear hok
              have HBK := Lib.hid hback; clear hback
              have HQ := Lib.hid hq; clear hq
              clear HK
              go_wp2_with fail
              have ht := text_ok A B c d n k l ws w2 HL.out ((h.below F).more F.size) hc1 hc2 HM.out ((hB.below F).more F.size) hd1 hd2 HZ.out (by omega)
              rw [(tx_yes HOKT.out).1, (tx_yes (l := l) HOKT.out).2, HTX.out] at ht
              refine ht.mono ?_
              rintro e w3 ⟨rfl, b⟩
              clear ht
              replace F := F.trans (b.mono F.size)
              clear b
              go_wp2_with fail
              have hp := parse_ok A c n l tx w3 HL.out ((h.below F).more F.size) hc1 hc2 HZ.out hts2
              rw [HBK.out] at hp
              refine hp.mono ?_
              rintro e w4 ⟨A4, c4, n4, rfl, hn4, g1, g2, r4, b⟩
              clear hp
              replace F := F.trans (b.mono F.size)
              clear b
              have HN4 := Lib.hid hn4; clear hn4
              go_wp2_with fail
              have Fa := F.alloc F.size (.cells (madeCells #[.int .i64 0] nz) 3)
              have Ba : Below w4.heap.size w4 (w4.alloc (.cells (madeCells #[.int .i64 0] nz) 3)) := (Below.refl _ _).alloc (Nat.le_refl _) _
              refine (text_long A (some ⟨w4.heap.size, 0, none⟩) c nz n nz l _ HL.out ((h.below Fa).more Fa.size) HZ.out z1 z2).mono ?_
              rintro e w5 ⟨rfl, b⟩
              have b5 := Ba.trans (b.mono Ba.size)
              replace r4 := (r4.below b5).more b5.size
              replace F := F.trans (b5.mono F.size)
              clear b b5 Fa Ba
              go_wp2_with fail
              have hr := ref_Text A B c d n k l ws w5 HL.out ((h.below F).more F.size) hc1 hc2 HM.out ((hB.below F).more F.size) hd1 hd2 HZ.out HOKT.out (by omega)
              rw [HTX.out] at hr
              refine hr.mono ?_
              rintro e w' ⟨rfl, rfl⟩
              clear hr
              go_wp2_with fail
              refine (law_same_n A4 B c4 d n4 k ws ws true w5 HN4.out HM.out HQ.out r4 g1 g2 ((hB.below F).more F.size)).mono ?_
              rintro e w6 ⟨rfl, n6, rfl⟩
              go_wp2
              go_ret
              exact ⟨rfl, below_drewN F _⟩
          · have hno := tx_no (l := l) HK.out
            by_cases hlt : k < m
            all_goals
              have hlt2 : decide (k < m) = _ := rfl
              clear hlt2
              have HNO := Lib.hid hno; clear hno
              clear HK
              go_wp2_with fail
              have ht := text_ok A B c d n m l ws w2 HL.out ((h.below F).more F.size) hc1 hc2 HM.out ((hB.below F).more F.size) hd1 hd2 HZ.out (by omega)
              rw [HNO.out.1, HNO.out.2] at ht
              refine ht.mono ?_
              rintro e w3 ⟨rfl, b⟩
              clear ht
              replace F := F.trans (b.mono F.size)
              clear b
              go_wp2
              go_ret
              exact ⟨rfl, F⟩
      · have q1 : (chkE l != 0) = true := by simpa using hz
        have HS := Lib.hid hsh; clear hsh
        go_enter Try.func13, Try.ntmps13
        go_wp2_with fail
        refine (known_any _).mono ?_
        rintro e w1 ⟨rfl, F⟩
        go_wp2_with fail
        have hcs := law_short A c n l w1 HL.out ((h.below F).more F.size)
        rw [HS.out] at hcs
        refine hcs.mono ?_
        rintro e w' ⟨rfl, rfl⟩
        clear hcs
        go_wp2_with fail
        refine (ref02_Events A c n l w1 HL.out ((h.below F).more F.size) hc1 hc2).mono ?_
        rintro e w2 ⟨rfl, b⟩
        replace F := F.trans (b.mono F.size)
        clear b
        have HT := Lib.hid (fun (W : World) (hW : RdE W W.heap.size A l) => text_err A B c d n m l W HL.out hW hz)
        have q2 : (chkE l == 0) = false := by simpa using hz
        generalize chkE l = z at *
        clear hz
        go_wp2
        go_loop [5, 6] (fun s5 s6 => s5 = .int .i64 z ∧ s6 = .int .i64 0) (fun _ s6 => 0)
        case atStart => exact ⟨rfl, rfl⟩
        case round =>
          obtain ⟨rfl, rfl⟩ := hrel
          by_cases hm0 : 0 < m
          all_goals
            go_wp2_with fail
            refine (HT.out w2 ((h.below F).more F.size)).mono ?_
            rintro e w3 ⟨rfl, b⟩
            replace F := F.trans (b.mono F.size)
            clear b
            go_wp2
            go_ret
            exact ⟨rfl, F⟩
end Go.Proofs.Ytcbhencebflgcaa
