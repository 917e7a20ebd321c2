/- The law WordChecks: its walk. -/
import Derived.Test.YtcbhencebflgcaaWk
import Derived.Deep.OwnRows
namespace Go.Proofs.Ytcbhencebflgcaa
open Go.RowKit Go

theorem made_ints (n : Nat) : madeCells #[.int .i64 0] n = (iv (List.replicate n 0)).toArray := by
  apply Array.ext
  · simp [madeCells, iv]
  · intro i h1 h2
    simp [madeCells, iv, Nat.mod_one]
theorem rd_made (w : World) (n : Nat) (e : TypeId) : RdI (w.alloc (.cells (madeCells #[.int .i64 0] n) e)) (w.heap.size + 1) (some ⟨w.heap.size, 0, none⟩) (List.replicate n 0) := by
  rw [made_ints]; exact rd_lit w _ e
theorem chk_made : chkW (List.replicate 4096 0) [0] = 0 := by
  refine chkW_ok (by decide) (by rw [List.length_replicate]; omega) ?_
  unfold badB
  rw [List.any_eq_false]
  intro x hx
  obtain rfl := List.eq_of_mem_replicate hx
  decide
theorem check_made (n : Nat) (r : Int) (A B : Option Addr) (w : World) (hn : n ≤ 17592186044416) (hr : chkW (List.replicate n 0) [0] = r) (ha : RdI w w.heap.size A (List.replicate n 0)) (hb : RdI w w.heap.size B [0]) :
    Calls Try.prog 15 #[.slice A n n, .slice B 1 1] w fun e w' => e = .returned (.int .i64 r) ∧ Below w.heap.size w w' := by
  have h := word_Check A B n 1 (List.replicate n 0) [0] w ha (by rw [List.length_replicate]; omega) hb (by decide) (by decide) (by decide)
  rw [hr, List.length_replicate] at h
  exact h
theorem chk_made_more : chkW (List.replicate 4097 0) [0] = 3 := chkW_long (by decide) (by rw [List.length_replicate]; omega)

set_option maxHeartbeats 1600000 in
theorem checks_walk (A B : Option Addr) (ca cb : Nat) (a b : List Int) (w : World) (ha : RdI w w.heap.size A a) (_ha1 : a.length ≤ ca) (_ha2 : ca ≤ 9223372036854775807)
    (hb : RdI w w.heap.size B b) (hb1 : b.length ≤ cb) (hb2 : cb ≤ 9223372036854775807) :
    Calls Try.prog 3 #[.slice A a.length ca, .slice B b.length cb] w fun e w' => e = .returned (.bool true) ∧ Below w.heap.size w w' := by
  by_cases h1 : 40 < a.length
  · go_enter Try.func3, Try.ntmps3
    go_wp2_with fail
    refine (known_any _).mono ?_
    rintro e w1 ⟨rfl, B1⟩
    go_wp2_with fail
    refine (known_any _).mono ?_
    rintro e w2 ⟨rfl, B2⟩
    go_wp2
    go_ret
    exact ⟨rfl, B1.trans (B2.mono B1.size)⟩
  by_cases h2 : 40 < b.length
  · go_enter Try.func3, Try.ntmps3
    go_wp2_with fail
    refine (known_any _).mono ?_
    rintro e w1 ⟨rfl, B1⟩
    go_wp2_with fail
    refine (known_any _).mono ?_
    rintro e w2 ⟨rfl, B2⟩
    go_wp2
    go_ret
    exact ⟨rfl, B1.trans (B2.mono B1.size)⟩
  go_enter Try.func3, Try.ntmps3
  go_wp2_with fail
  refine (known_any _).mono ?_
  rintro e w1 ⟨rfl, B1⟩
  have z1 := B1.size
  go_wp2_with fail
  refine (word_Check A B ca cb a b w1 ((ha.below B1).more z1) (by omega) ((hb.below B1).more z1) hb1 hb2 (by omega)).mono ?_
  rintro e w2 ⟨rfl, hb'⟩
  have B2 : Below w.heap.size w w2 := B1.trans (hb'.mono z1)
  have z2 := B2.size
  clear hb' B1 z1
  go_wp2_with fail
  refine (ref_Check A B ca cb a b w2 ((ha.below B2).more z2) (by omega) ((hb.below B2).more z2) hb1 hb2).mono ?_
  rintro e w3 ⟨rfl, hd⟩
  have B3 : Below w.heap.size w w3 := by obtain ⟨m, rfl⟩ := hd; exact below_drewN B2 _
  have z3 := B3.size
  clear hd B2 z2
  obtain ⟨n4, hn4⟩ : ∃ n : Nat, n = 4096 := ⟨_, rfl⟩
  obtain ⟨n5, hn5⟩ : ∃ n : Nat, n = 4097 := ⟨_, rfl⟩
  have hm4 : ∀ W : World, (Instr.makeSlice 22 (.int .i64 4096) (.int .i64 4096)).run Try.prog W = .ok (.slice (some ⟨W.heap.size, 0, none⟩) n4 n4) (W.alloc (.cells (madeCells #[.int .i64 0] n4) 3)) := fun W => by
    subst hn4
    exact run_make_row' 22 3 (.int .i64 0) 8 Try.underlying22 int_info rfl .i64 .i64 4096 (by omega) (by omega) W
  have hm5 : ∀ W : World, (Instr.makeSlice 22 (.int .i64 4097) (.int .i64 4097)).run Try.prog W = .ok (.slice (some ⟨W.heap.size, 0, none⟩) n5 n5) (W.alloc (.cells (madeCells #[.int .i64 0] n5) 3)) := fun W => by
    subst hn5
    exact run_make_row' 22 3 (.int .i64 0) 8 Try.underlying22 int_info rfl .i64 .i64 4097 (by omega) (by omega) W
  have k4 := chk_made
  have k5 := chk_made_more
  rw [← hn4] at k4
  rw [← hn5] at k5
  have K4 := Lib.hid k4; clear k4
  have K5 := Lib.hid k5; clear k5
  have l4 : n4 ≤ 17592186044416 := by omega
  have l5 : n5 ≤ 17592186044416 := by omega
  clear hn4 hn5
  go_wp2_with fail
  refine (check_made n4 0 _ _ _ l4 K4.out (((rd_made w3 n4 3).alloc (by simp) _).more (by simp)) ?_).mono ?_
  · have hx := rd_lit (w3.alloc (.cells (madeCells #[.int .i64 0] n4) 3)) [0] 3
    rw [show (w3.alloc (.cells (madeCells #[.int .i64 0] n4) 3)).heap.size = w3.heap.size + 1 from by simp] at hx
    exact hx.more (by simp)
  rintro e w5 ⟨rfl, hb5⟩
  have B5 : Below w.heap.size w w5 := ((B3.alloc z3 _).alloc (by simp; omega) _).trans (hb5.mono (by simp; omega))
  have z5 := B5.size
  clear hb5 B3 z3
  go_wp2_with fail
  refine (check_made n5 3 _ _ _ l5 K5.out (((rd_made w5 n5 3).alloc (by simp) _).more (by simp)) ?_).mono ?_
  · have hx := rd_lit (w5.alloc (.cells (madeCells #[.int .i64 0] n5) 3)) [0] 3
    rw [show (w5.alloc (.cells (madeCells #[.int .i64 0] n5) 3)).heap.size = w5.heap.size + 1 from by simp] at hx
    exact hx.more (by simp)
  rintro e w7 ⟨rfl, hb7⟩
  have B7 : Below w.heap.size w w7 := ((B5.alloc z5 _).alloc (by simp; omega) _).trans (hb7.mono (by simp; omega))
  go_wp2
  go_ret
  exact ⟨rfl, B7⟩
end Go.Proofs.Ytcbhencebflgcaa
