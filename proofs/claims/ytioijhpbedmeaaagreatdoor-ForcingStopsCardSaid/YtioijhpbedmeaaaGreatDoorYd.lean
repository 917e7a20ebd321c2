/- Walks: slices.Index and slices.Equal at pairs, slices.EqualFunc at lists of ints. -/
import Derived.Test.YtioijhpbedmeaaaGreatDoorMi
import Derived.Test.YtioijhpbedmeaaaGreatDoorGa
import Derived.Test.YtioijhpbedmeaaaGreatDoorTu
import Derived.Deep.Cut
import Derived.ChangeKeysEq
namespace Go.Proofs.YtioijhpbedmeaaaGreatDoor
open Go.RowKit Go

theorem pair_eql (w : World) (a b c d : Int) : (binOp .eql 45 (.agg #[.int .i64 a, .int .i64 b]) (.agg #[.int .i64 c, .int .i64 d])).run Tryz.prog w = .ok (.bool (decide ((a, b) = (c, d)))) w := by
 obtain ⟨i, hi, _⟩ := info_parts int_info
 have hc : Tryz.prog.cellsOf 3 = 1 := by kernel_rfl
 have hu := Tryz.underlying45
 have hv := Tryz.underlying3
 simp only [binOp]
 simp only [Op.equal, Op.maxDepth, Sem.run_bind, run_equalIn_array w 9999 _ _ hu hi, hc]
 simp [Op.eqItems, List.range, List.range.loop, part]
 rw [run_equalIn_int w 9998 3 .i64 .i64 a c hv]
 by_cases h1 : a = c
 ·subst h1
  simp [run_equalIn_int w 9998 3 .i64 .i64 b d hv]
  by_cases h2 : b = d <;> simp [h2]
 ·simp [h1]
theorem two_of {x : List Int} (h : x.length = 2) : ∃ a b, x = [a, b] := by
 match x, h with
 | [a, b], _ => exact ⟨a, b, rfl⟩
set_option maxHeartbeats 800000 in
theorem slices_IndexP (B : Option Addr) (cb nb : Nat) (T : List (List Int)) (a b : Int) (w : World) (tl : T.length = nb) (hT : RdR 2 iv w w.heap.size B T) (h2 : ∀ x ∈ T, x.length = 2) (hc1 : nb ≤ cb) (hc2 : cb ≤ 9223372036854775807) :
  Calls Tryz.prog 49 #[.slice B nb cb, .agg #[.int .i64 a, .int .i64 b]] w fun e w' => e = .returned (.int .i64 (idx T [a, b])) ∧ Below w.heap.size w w' := by
 have hb1 := box_below w (.cells #[.int .i64 a, .int .i64 b] 45)
 have k1 : Blk (w.alloc (.cells #[.int .i64 a, .int .i64 b] 45)) w.heap.size 45 [.int .i64 a, .int .i64 b] := Blk.new _ _ [_, _]
 have hT1 := (hT.below hb1).more hb1.size
 have HL := Lib.hid tl; clear tl
 have H2 := Lib.hid h2; clear h2
 clear hT
 go_enter Tryz.func49, Tryz.ntmps49
 go_upto_region 1 with fail
 generalize w.alloc (.cells #[.int .i64 a, .int .i64 b] 45) = w1 at hb1 k1 hT1 ⊢
 have HB1 := Lib.hid hb1
 have c0 := k1.cell (j := 0) rfl
 have c1 := k1.cell (j := 1) rfl
 clear hb1 k1
 go_wp2
 go_loopw [5, 8] (fun s5 s8 wr => ∃ (k : Nat) (v5 : Value), k ≤ nb ∧ s5 = v5 ∧ s8 = .int .i64 k ∧ Hid ([a, b] ∉ T.take k) ∧ ∃ n, wr = w1.drewN n) (fun _ s8 _ => nb - (intOf s8).toNat)
 case atStart => exact ⟨0, _, Nat.zero_le _, rfl, rfl, Lib.hid (by simp), (by first | exact dr00 _ | exact dr0 _ _ | exact dr1 _ _ _ | exact dr2 _ _ _ _ | exact dr3 _ _ _ _ _)⟩
 case round =>
  obtain ⟨k, v5, hk, rfl, rfl, HN, n, rfl⟩ := hrel
  by_cases hlt : k < nb
  ·obtain ⟨ad, t, rfl, hab, ht, hcell⟩ := hT1.get (k := k) (by have := HL.out; omega)
   obtain ⟨x, y, rfl⟩ := two_of (H2.out t (List.mem_of_getElem? ht))
   have q0 : w1.cell? (ad.add (k * 2)) = some (.int .i64 x) := hcell 0 _ rfl
   have q1 := st_cells (j := 0) (show w1.cell? (ad.add (k * 2 + 1)) = some (.int .i64 y) from hcell 1 _ rfl)
   simp only [Nat.zero_add] at q1
   have b1 : (k : Int) < (nb : Int) := by omega
   clear hab hcell
   by_cases hxy : (a, b) = (x, y)
   ·have hpe := fun W => (pair_eql W a b x y).trans (by rw [decide_eq_true hxy])
    have hf := idx_hit (x := [a, b]) (by rw [ht]; simp only [Prod.mk.injEq] at hxy; rw [hxy.1, hxy.2]) HN.out
    have HF := Lib.hid hf; clear hf
    have HY := Lib.hid ht; clear ht
    clear hxy
    go_wp2
    go_quiet (fail)
    go_wp2
    go_ret
    exact ⟨ret_int HF.out.symm, HB1.out.trans ((below_drewN (below_drewN (Below.refl _ _) _) _).mono HB1.out.size)⟩
   ·have hpe := fun W => (pair_eql W a b x y).trans (by rw [decide_eq_false hxy])
    have HS := Lib.hid (not_take_succ ht HN.out (fun e => hxy (by injection e with e1 e2; injection e2 with e2; rw [e1, e2])))
    have HY := Lib.hid ht; clear ht
    clear hxy
    go_wp2
    go_quiet (fail)
    go_wp2
    go_roundw
    case rel => exact ⟨k + 1, _, by omega, rfl, by go_num, HS, (by first | exact dr00 _ | exact dr0 _ _ | exact dr1 _ _ _ | exact dr2 _ _ _ _ | exact dr3 _ _ _ _ _)⟩
    case measure => simp [intOf]; omega
  ·have hf : idx T [a, b] = -1 := idx_end HN.out (by have := HL.out; omega)
   have HF := Lib.hid hf; clear hf
   go_wp2
   go_ret
   exact ⟨ret_int HF.out.symm, HB1.out.trans ((below_drewN (Below.refl _ _) _).mono HB1.out.size)⟩
end Go.Proofs.YtioijhpbedmeaaaGreatDoor
