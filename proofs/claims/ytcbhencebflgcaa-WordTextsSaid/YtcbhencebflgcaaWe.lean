/- Walks: slices.Grow at nil, slices.Concat, word.Concat. -/
import Derived.Test.YtcbhencebflgcaaWd
import Derived.Lib.AppendZeros
namespace Go.Proofs.Ytcbhencebflgcaa
open Go.RowKit Go

set_option maxHeartbeats 800000 in
theorem slices_Grow (n : Nat) (w : World) (hn : n ≤ 17592186044416) :
    Calls Try.prog 71 #[.slice none 0 0, .int .i64 n] w fun e w' => ∃ v, e = .returned v ∧ w'.ownsRow w.heap.size 3 1 v 0 [] ∧ Below w.heap.size w w' := by
  by_cases h0 : n = 0
  · subst h0
    go_enter Try.func71, Try.ntmps71
    go_wp2
    go_ret
    exact ⟨_, rfl, World.ownsRow_nil _ _ _ _, Below.refl _ _⟩
  · have h1 : 0 < n := by omega
    obtain ⟨i0, hi, hz, hs, hb⟩ := info_parts int_info
    have hr := fun ty => Lib.run_append_nil_zeros (P := Try.prog) w 22 3 ty 3 i0 (.int .i64 0) .i64 .i64 Try.underlying22 Try.underlying3 hi hz n h1 (by omega) (by omega) (by rw [hb]; omega)
    have hge := grownCap_ge w n 0 3
    have hle := grownCap_le_maxLen w n 0 3 (by unfold maxLen; omega)
    have HR := Lib.hid hr; clear hr
    clear h0
    generalize hC : grownCap w n 0 3 = C at *
    have HC := Lib.hid hC; clear hC
    have hle' : C ≤ 9223372036854775807 := by simpa [maxLen] using hle
    clear hle hi hz hs hb
    go_enter Try.func71, Try.ntmps71
    go_wp2_with (at_builtin; refine Lib.wpList_append_run _ rfl (.tmp 20) (.tmp 21) 22 3 rfl _ _ rfl rfl _ _ (HR.out _) ?_)
    go_ret
    refine ⟨_, rfl, ?_, (Below.refl _ _).drew.alloc (by simp) _⟩
    exact World.ownsRow_made w.drew _ C (by simp) (by simpa [maxLen] using hle') (by simp [Builtin.zeroCells]; omega)

def catS (xs : List SlV) : List Int := xs.flatMap SlV.l
theorem catS_snoc {xs : List SlV} {k : Nat} {s : SlV} (h : xs[k]? = some s) : catS (xs.take (k + 1)) = catS (xs.take k) ++ s.l := flat_snoc SlV.l h
theorem catS_step {xs : List SlV} {k : Nat} {s : SlV} (h : xs[k]? = some s) : (catS (xs.take k)).length + s.l.length ≤ (catS xs).length := flat_step_le SlV.l h
theorem catS_len {xs : List SlV} {k : Nat} {s : SlV} (h : xs[k]? = some s) : (catS (xs.take (k + 1))).length = (catS (xs.take k)).length + s.l.length := by rw [catS_snoc h, List.length_append]

set_option maxHeartbeats 1600000 in
theorem slices_Concat (A : Option Addr) (c : Nat) (xs : List SlV) (w : World) (h : RdS w w.heap.size A xs) (hn : xs.length ≤ 9223372036854775807) (htot : (catS xs).length ≤ 17592186044416) :
    Calls Try.prog 53 #[.slice A xs.length c] w (RetO 3 (catS xs) w) := by
  go_enter Try.func53, Try.ntmps53
  go_wp2
  go_loop [3, 11] (fun sz i => ∃ k : Nat, k ≤ xs.length ∧ i = .int .i64 k ∧ sz = .int .i64 (catS (xs.take k)).length) (fun _ i => xs.length - (intOf i).toNat)
  case atStart => exact ⟨0, Nat.zero_le _, rfl, rfl⟩
  case round =>
    obtain ⟨k, hk, rfl, rfl⟩ := hrel
    by_cases hlt : k < xs.length
    · obtain ⟨ad, s, rfl, _, hs, hcs, _, _, hsc⟩ := h.at_ hlt
      have hle := catS_step hs
      have hsn := catS_snoc hs
      have HS := Lib.hid hs; clear hs
      have HN := Lib.hid hsn; clear hsn
      go_wp2
      go_round
      case rel => exact ⟨k + 1, by omega, by go_num, by rw [HN.out, List.length_append]; go_num⟩
      case measure => simp [intOf]; omega
    · have hall : xs.take k = xs := take_all' hlt
      rw [hall]
      obtain rfl : k = xs.length := by omega
      have HA := Lib.hid hall; clear hall
      go_wp2_with (go_at_call 71; refine (slices_Grow _ _ htot).mono ?_; rintro e w1 ⟨v1, rfl, ho1, hb1⟩)
      have hsz1 := hb1.size
      go_loopw [6, 27] (fun o i wr => ∃ k : Nat, k ≤ xs.length ∧ i = .int .i64 k ∧ Hid (wr.ownsRow w.heap.size 3 1 o (catS (xs.take k)).length (iv (catS (xs.take k)))) ∧ Below w.heap.size w wr) (fun _ i _ => xs.length - (intOf i).toNat)
      case atStart => exact ⟨0, Nat.zero_le _, rfl, ho1, hb1⟩
      case round =>
        obtain ⟨k, hk, rfl, HO, hbel⟩ := hrel
        have hsz := hbel.size
        by_cases hlt : k < xs.length
        · obtain ⟨ad, s, rfl, _, hs, hcs, hrd, hsl, hsc⟩ := (h.below hbel).at_ hlt
          have hle := catS_step hs
          have hsn := catS_snoc hs
          have HS := Lib.hid hs; clear hs
          have HN := Lib.hid hsn; clear hsn
          go_wp2_with (at_builtin; refine wpList_app _ rfl (.tmp 31) (.tmp 32) 22 rfl w.heap.size 3 (.int .i64 0) 8 Try.underlying22 int_info rfl u6 _ _ rfl HO.out w.heap.size s.A s.l.length s.c (iv s.l) (iv_length _) rfl hrd (iv_one _) (by omega) (by omega) hsz ?_; intro v' w' ho' hg' hb2 hnn)
          go_roundw
          case rel => exact ⟨k + 1, by omega, by go_num, (by rw [HN.out, iv_append, List.length_append]; exact ho'), hbel.trans hb2⟩
          case measure => simp [intOf]; omega
        · go_wp2
          go_ret
          have := HO.out
          rw [take_all' hlt] at this
          exact ⟨_, rfl, this, hbel⟩

set_option maxHeartbeats 400000 in
theorem word_Concat (A : Option Addr) (c : Nat) (xs : List SlV) (w : World) (h : RdS w w.heap.size A xs) (hn : xs.length ≤ 9223372036854775807) (htot : (catS xs).length ≤ 17592186044416) :
    Calls Try.prog 27 #[.slice A xs.length c] w (RetO 3 (catS xs) w) := by
  go_enter Try.func27, Try.ntmps27
  go_wp2_with (go_at_call 53; refine (slices_Concat _ _ _ _ h hn htot).mono ?_; rintro e w1 ⟨v1, rfl, ho1, hb1⟩)
  go_ret
  exact ⟨_, rfl, ho1, hb1⟩
end Go.Proofs.Ytcbhencebflgcaa
