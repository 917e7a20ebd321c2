/- The law WordParses: its walk. -/
import Derived.Test.YtcbhencebflgcaaEl
import Derived.Test.YtcbhencebflgcaaEd
import Derived.Test.YtcbhencebflgcaaWk
import Derived.Test.YtcbhencebflgcaaWn
import Derived.Deep.OwnRows
import Derived.Laws.BytesArg
namespace Go.Proofs.Ytcbhencebflgcaa
open Go.RowKit Go

theorem byte_info : (Try.prog.info? 5).map (fun i => (i.zero, i.size, i.bytes)) = some (some (.int .u8 0), 1, 1) := by kernel_rfl

set_option maxRecDepth 100000 in
set_option maxHeartbeats 6400000 in
theorem parses_walk (A : Option Addr) (c n : Nat) (l : List Ev) (s : ByteArray) (w : World) (hl : l.length = n) (h : RdE w w.heap.size A l) (hc1 : n ≤ c) (hc2 : c ≤ 9223372036854775807) (hs0 : s.size ≤ 9223372036854775807) :
    Calls Try.prog 12 #[.slice A n c, .string s] w fun e w' => e = .returned (.bool true) ∧ Below w.heap.size w w' := by
  have HL := Lib.hid hl; clear hl
  cases hsh : shortB l with
  | false =>
    have HS := Lib.hid hsh; clear hsh
    go_enter Try.func12, Try.ntmps12
    go_wp2_with fail
    refine (known_any _).mono ?_
    rintro e w1 ⟨rfl, F⟩
    go_wp2_with fail
    have hcs := law_short A c n l w1 HL.out ((h.below F).more F.size)
    rw [HS.out] at hcs
    refine hcs.mono ?_
    rintro e w' ⟨rfl, rfl⟩
    clear hcs
    go_wp2_with fail
    refine (known_any _).mono ?_
    rintro e w2 ⟨rfl, B2⟩
    go_wp2
    go_ret
    exact ⟨rfl, F.trans (B2.mono F.size)⟩
  | true =>
    by_cases h4 : 400 < s.size
    · have h5 : (400 : Int) < (s.size : Int) := by omega
      have HS := Lib.hid hsh; clear hsh
      go_enter Try.func12, Try.ntmps12
      go_wp2_with fail
      refine (known_any _).mono ?_
      rintro e w1 ⟨rfl, F⟩
      go_wp2_with fail
      have hcs := law_short A c n l w1 HL.out ((h.below F).more F.size)
      rw [HS.out] at hcs
      refine hcs.mono ?_
      rintro e w' ⟨rfl, rfl⟩
      clear hcs
      go_wp2_with fail
      refine (known_any _).mono ?_
      rintro e w2 ⟨rfl, B2⟩
      go_wp2
      go_ret
      exact ⟨rfl, F.trans (B2.mono F.size)⟩
    · have h5 : decide ((400 : Int) < (s.size : Int)) = false := decide_eq_false (by omega)
      have h6 : decide (400 < s.size) = false := decide_eq_false h4
      by_cases hz : chkE l = 0
      · obtain ⟨nz, hnz⟩ : ∃ n : Nat, n = 65537 := ⟨_, rfl⟩
        have kz : ∀ W : World, (Instr.makeSlice 27 (.int .i64 65537) (.int .i64 65537)).run Try.prog W = .ok (.slice (some ⟨W.heap.size, 0, none⟩) nz nz) (W.alloc (.cells (madeCells #[.int .u8 0] nz) 5)) := fun W => by
          subst hnz
          exact run_make_row' 27 5 (.int .u8 0) 1 Try.underlying27 byte_info rfl .i64 .i64 65537 (by omega) (by omega) W
        obtain ⟨zs, hzs⟩ : ∃ zs, zs = strOfNums (List.replicate nz 0) := ⟨_, rfl⟩
        have cz : ∀ W : World, (convert 27 9 (.slice (some ⟨W.heap.size, 0, none⟩) nz nz)).run Try.prog (W.alloc (.cells (madeCells #[.int .u8 0] nz) 5)) = .ok (.string zs) (W.alloc (.cells (madeCells #[.int .u8 0] nz) 5)) := fun W => by
          rw [hzs]
          refine run_convert_bytes_arg (P := Try.prog) _ 27 5 Try.underlying27 Try.underlying5 W.heap.size 0 nz nz (List.replicate nz 0) (by simp) (fun i hi => ?_) 9 Try.underlying9
          rw [Nat.zero_add, cell_of_row _ W.heap.size i (madeCells #[.int .u8 0] nz) 5 (0, 0) (heap_alloc_new W _)]
          simp [madeCells, hi, List.getD, Nat.mod_one]
        have hzl : zs.size = nz := by
          rw [hzs]
          simp [strOfNums, ByteArray.size]
        have z1 : 65536 < zs.size := by omega
        have z2 : zs.size ≤ 9223372036854775807 := by omega
        clear hzs hzl hnz
        have HZ := Lib.hid hz; clear hz
        have HS := Lib.hid hsh; clear hsh
        generalize hres : prs (l.map Ev.nm) s.size s.data.toList 0 [] = res
        obtain ⟨ra, rp, re⟩ := res
        have hq := eqB_of (rfl : ra = ra)
        have HRES := Lib.hid hres; clear hres
        have HQ := Lib.hid hq; clear hq
        go_enter Try.func12, Try.ntmps12
        go_wp2_with fail
        refine (known_any _).mono ?_
        rintro e w1 ⟨rfl, F⟩
        go_wp2_with fail
        have hcs := law_short A c n l w1 HL.out ((h.below F).more F.size)
        rw [HS.out] at hcs
        refine hcs.mono ?_
        rintro e w' ⟨rfl, rfl⟩
        clear hcs
        go_wp2_with fail
        have hp := parse_ok A c n l s w1 HL.out ((h.below F).more F.size) hc1 hc2 HZ.out (by omega)
        rw [HRES.out] at hp
        refine hp.mono ?_
        rintro e w2 ⟨A4, c4, n4, rfl, hn4, g1, g2, r4, b⟩
        clear hp
        replace F := F.trans (b.mono F.size)
        clear b
        have HN4 := Lib.hid hn4; clear hn4
        go_wp2_with fail
        have he := ref02_Events A c n l w2 HL.out ((h.below F).more F.size) hc1 hc2
        rw [HZ.out] at he
        refine he.mono ?_
        rintro e w3 ⟨rfl, b⟩
        clear he
        replace r4 := (r4.below b).more b.size
        replace F := F.trans (b.mono F.size)
        clear b
        go_wp2_with fail
        have hp := ref_Parse A c n l s w3 HL.out ((h.below F).more F.size) hc1 hc2 (by omega)
        rw [HRES.out] at hp
        refine hp.mono ?_
        rintro e w4 ⟨A5, c5, n5, rfl, hn5, g3, g4, r5, b⟩
        clear hp
        replace r4 := (r4.below b).more b.size
        replace F := F.trans (b.mono F.size)
        clear b
        have HN5 := Lib.hid hn5; clear hn5
        go_wp2_with fail
        have Fa := F.alloc F.size (.cells (madeCells #[.int .u8 0] nz) 5)
        have Ba : Below w4.heap.size w4 (w4.alloc (.cells (madeCells #[.int .u8 0] nz) 5)) := (Below.refl _ _).alloc (Nat.le_refl _) _
        refine (parse_long A c n l zs _ HL.out ((h.below Fa).more Fa.size) HZ.out z1 z2).mono ?_
        rintro e w5 ⟨A6, c6, n6, rfl, hn6, g5, g6, r6, b⟩
        have b5 := Ba.trans (b.mono Ba.size)
        replace r4 := (r4.below b5).more b5.size
        replace r5 := (r5.below b5).more b5.size
        replace F := F.trans (b5.mono F.size)
        clear b b5 hn6 r6 Fa Ba
        go_wp2_with fail
        refine (law_same_n A4 A5 c4 c5 n4 n5 ra ra true w5 HN4.out HN5.out HQ.out r4 g1 g2 r5).mono ?_
        rintro e w6 ⟨rfl, n6, rfl⟩
        go_wp2
        go_ret
        exact ⟨rfl, below_drewN F _⟩
      · have q1 : (chkE l != 0) = true := by simpa using hz
        have HS := Lib.hid hsh; clear hsh
        go_enter Try.func12, Try.ntmps12
        go_wp2_with fail
        refine (known_any _).mono ?_
        rintro e w1 ⟨rfl, F⟩
        go_wp2_with fail
        have hcs := law_short A c n l w1 HL.out ((h.below F).more F.size)
        rw [HS.out] at hcs
        refine hcs.mono ?_
        rintro e w' ⟨rfl, rfl⟩
        clear hcs
        go_wp2_with fail
        refine (parse_err A c n l s _ HL.out ((h.below F).more F.size) hz).mono ?_
        rintro e w2 ⟨A4, c4, n4, rfl, hn4, g1, g2, r4, b⟩
        obtain rfl : n4 = 0 := hn4.symm
        replace F := F.trans (b.mono F.size)
        clear b
        go_wp2_with fail
        refine (ref02_Events A c n l _ HL.out ((h.below F).more F.size) hc1 hc2).mono ?_
        rintro e w3 ⟨rfl, b⟩
        replace F := F.trans (b.mono F.size)
        clear b
        go_wp2
        go_ret
        exact ⟨rfl, F⟩
end Go.Proofs.Ytcbhencebflgcaa
