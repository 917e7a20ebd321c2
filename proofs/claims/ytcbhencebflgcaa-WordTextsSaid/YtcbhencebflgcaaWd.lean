/- Walks: the reference's projection; Word and Set (the decoding); Clone, Common, the prefixes. -/
import Derived.Test.YtcbhencebflgcaaWc
import Derived.Deep.Cut
import Derived.Deep.CutBlock
import Derived.Deep.DeepCutAuto
namespace Go.Proofs.Ytcbhencebflgcaa
open Go.RowKit Go

set_option maxHeartbeats 800000 in
theorem ref_Project (A B : Option Addr) (c d : Nat) (v set : List Int) (w : World) (ha : RdI w w.heap.size A v) (hac : v.length ≤ 17592186044416)
    (hb : RdI w w.heap.size B set) (hbd : set.length ≤ d) (hd : d ≤ 9223372036854775807) :
    Calls Try.prog 21 #[.slice A v.length c, .slice B set.length d] w (RetI (projW v set) w) := by
  go_enter Try.func21, Try.ntmps21
  go_wp2
  go_loopw [5, 6] (fun o i wr => ∃ k : Nat, k ≤ v.length ∧ i = .int .i64 k ∧ Hid (wr.ownsRow w.heap.size 3 1 o (projW (v.take k) set).length (iv (projW (v.take k) set))) ∧ Below w.heap.size w wr) (fun _ i _ => v.length - (intOf i).toNat)
  case atStart => exact ⟨0, Nat.zero_le _, rfl, World.ownsRow_nil _ _ _ _, Below.refl _ _⟩
  case round =>
    obtain ⟨k, hk, rfl, HO, hbel⟩ := hrel
    have hsz := hbel.size
    by_cases hlt : k < v.length
    · obtain ⟨ad, x, rfl, _, hx, hcx⟩ := (ha.below hbel).at_ hlt
      have HX := Lib.hid hx; clear hx
      have hb' : RdI wr wr.heap.size B set := (hb.below hbel).more hsz
      have hle := projW_le v set k
      cases hq : hasB set x with
      | true =>
        go_wp2_with (first | (go_at_call 48; refine (ref_Has _ _ _ _ _ hb' hbd hd).mono ?_; rintro e w' ⟨rfl, rfl⟩) | (at_builtin; refine wpList_push wr (.int .i64 x) rfl (.tmp 19) (.tmp 24) 22 rfl w.heap.size 3 (.int .i64 0) 8 Try.underlying22 int_info rfl u5 (projW (v.take k) set).length _ rfl HO.out rfl rfl (by omega) (by omega) hsz ?_; intro v' w' ho' hg' hb1))
        go_roundw
        case rel => exact ⟨k + 1, by omega, by go_num, (by rw [projW_keep HX.out hq, iv_append, List.length_append]; exact ho'), hbel.trans hb1⟩
        case measure => simp [intOf]; omega
      | false =>
        go_wp2_with (go_at_call 48; refine (ref_Has _ _ _ _ _ hb' hbd hd).mono ?_; rintro e w' ⟨rfl, rfl⟩)
        go_roundw
        case rel => exact ⟨k + 1, by omega, by go_num, (by rw [projW_drop HX.out hq]; exact HO.out), hbel⟩
        case measure => simp [intOf]; omega
    · go_wp2
      go_ret
      have := HO.out
      rw [projW_end hlt] at this
      exact own_ret this hbel

set_option maxHeartbeats 800000 in
theorem law_Word (A : Option Addr) (c n : Nat) (l : List Int) (w : World) (ha : RdB w w.heap.size A l) (hac : l.length ≤ 9223372036854775807) (hr : ∀ (k : Nat) (x : Int), l[k]? = some x → 0 ≤ x ∧ x ≤ 255) (hn : n ≤ 65536) :
    Calls Try.prog 17 #[.slice A l.length c, .int .i64 n] w (RetI (wordB l n) w) := by
  have HR := Lib.hid hr; clear hr
  go_enter Try.func17, Try.ntmps17
  go_wp2
  go_loopw [5, 6] (fun o i wr => ∃ k : Nat, k ≤ l.length ∧ k ≤ n ∧ i = .int .i64 k ∧ Hid (wr.ownsRow w.heap.size 3 1 o (wordB l k).length (iv (wordB l k))) ∧ Below w.heap.size w wr) (fun _ i _ => l.length - (intOf i).toNat)
  case atStart => exact ⟨0, Nat.zero_le _, Nat.zero_le _, rfl, World.ownsRow_nil _ _ _ _, Below.refl _ _⟩
  case round =>
    obtain ⟨k, hk, hkn, rfl, HO, hbel⟩ := hrel
    have hsz := hbel.size
    have hle := wordB_le l k
    by_cases hlt : k < l.length
    · by_cases hkn' : k < n
      · obtain ⟨ad, x, rfl, _, hx, hcx⟩ := (ha.below hbel).at_ hlt
        obtain ⟨x0, x1⟩ := HR.out k x hx
        have HX := Lib.hid hx; clear hx
        go_wp2_with (at_builtin; refine wpList_push wr (.int .i64 (x % 5)) rfl (.tmp 18) (.tmp 25) 22 rfl w.heap.size 3 (.int .i64 0) 8 Try.underlying22 int_info rfl u5 (wordB l k).length _ rfl HO.out rfl rfl (by omega) (by omega) hsz ?_; intro v' w' ho' hg' hb1)
        go_roundw
        case rel => exact ⟨k + 1, by omega, by omega, by go_num, (by rw [wordB_snoc HX.out, iv_append, List.length_append]; exact ho'), hbel.trans hb1⟩
        case measure => simp [intOf]; omega
      · go_wp2
        go_ret
        obtain rfl : k = n := by omega
        exact own_ret HO.out hbel
    · go_wp2
      go_ret
      have := HO.out
      rw [wordB_end hkn hlt] at this
      exact own_ret this hbel

theorem and_one_u8 {y : Int} (h0 : 0 ≤ y) (h1 : y ≤ 255) : (bits BinOp.and IntKind.u8 y 1 == 1) = (y % 2 == 1) := by
  rw [u8_and y 1 h0 (by omega) (by omega) (by omega)]
  have e : (y.toNat &&& (1 : Int).toNat : Nat) = y.toNat % 2 := Nat.and_one_is_mod _
  rw [e, Bool.eq_iff_iff, beq_iff_eq, beq_iff_eq]
  omega
theorem bit_u8 {x y : Int} {k : Nat} {b : Bool} (hb : bitB x k = b) (hy : y = x / 2 ^ k) (h0 : 0 ≤ y) (h1 : y ≤ 255) : (bits BinOp.and IntKind.u8 y 1 == 1) = b := by
  rw [and_one_u8 h0 h1, hy]; exact hb

set_option maxHeartbeats 1600000 in
theorem law_Set (x : Int) (w : World) (h0 : 0 ≤ x) (h1 : x ≤ 255) :
    Calls Try.prog 19 #[.int .u8 x] w (RetI (setB x 5) w) := by
  go_enter Try.func19, Try.ntmps19
  go_wp2
  go_loopw [3, 4] (fun o i wr => ∃ k : Nat, k ≤ 5 ∧ i = .int .i64 k ∧ Hid (wr.ownsRow w.heap.size 3 1 o (setB x k).length (iv (setB x k))) ∧ Below w.heap.size w wr) (fun _ i _ => 5 - (intOf i).toNat)
  case atStart => exact ⟨0, by omega, rfl, World.ownsRow_nil _ _ _ _, Below.refl _ _⟩
  case round =>
    obtain ⟨k, hk, rfl, HO, hbel⟩ := hrel
    have hsz := hbel.size
    have : k = 0 ∨ k = 1 ∨ k = 2 ∨ k = 3 ∨ k = 4 ∨ k = 5 := by omega
    rcases this with rfl | rfl | rfl | rfl | rfl | rfl
    · have hle := setB_le x 0
      cases hq : bitB x 0 with
      | true =>
        have hb2 : (bits BinOp.and IntKind.u8 x 1 == 1) = true := bit_u8 hq (by simp) (by omega) (by omega)
        have HQ := Lib.hid hq; clear hq
        go_wp2_with (at_builtin; refine wpList_push wr (.int .i64 ((0 : Nat) : Int)) rfl (.tmp 14) (.tmp 16) 22 rfl w.heap.size 3 (.int .i64 0) 8 Try.underlying22 int_info rfl u3 (setB x 0).length _ rfl HO.out rfl rfl (by omega) (by omega) hsz ?_; intro v' w' ho' hg' hb1)
        go_roundw
        case rel => exact ⟨1, by omega, by go_num, (by rw [setB_yes HQ.out, iv_append, List.length_append]; exact ho'), hbel.trans hb1⟩
        case measure => simp [intOf]
      | false =>
        have hb2 : (bits BinOp.and IntKind.u8 x 1 == 1) = false := bit_u8 hq (by simp) (by omega) (by omega)
        have HQ := Lib.hid hq; clear hq
        go_wp2
        go_roundw
        case rel => exact ⟨1, by omega, by go_num, (by rw [setB_no HQ.out]; exact HO.out), hbel⟩
        case measure => simp [intOf]
    · have hle := setB_le x 1
      cases hq : bitB x 1 with
      | true =>
        have hb2 : (bits BinOp.and IntKind.u8 (x / 2) 1 == 1) = true := bit_u8 hq (by simp) (by omega) (by omega)
        have HQ := Lib.hid hq; clear hq
        go_wp2_with (at_builtin; refine wpList_push wr (.int .i64 ((1 : Nat) : Int)) rfl (.tmp 14) (.tmp 16) 22 rfl w.heap.size 3 (.int .i64 0) 8 Try.underlying22 int_info rfl u3 (setB x 1).length _ rfl HO.out rfl rfl (by omega) (by omega) hsz ?_; intro v' w' ho' hg' hb1)
        go_roundw
        case rel => exact ⟨2, by omega, by go_num, (by rw [setB_yes HQ.out, iv_append, List.length_append]; exact ho'), hbel.trans hb1⟩
        case measure => simp [intOf]
      | false =>
        have hb2 : (bits BinOp.and IntKind.u8 (x / 2) 1 == 1) = false := bit_u8 hq (by simp) (by omega) (by omega)
        have HQ := Lib.hid hq; clear hq
        go_wp2
        go_roundw
        case rel => exact ⟨2, by omega, by go_num, (by rw [setB_no HQ.out]; exact HO.out), hbel⟩
        case measure => simp [intOf]
    · have hle := setB_le x 2
      cases hq : bitB x 2 with
      | true =>
        have hb2 : (bits BinOp.and IntKind.u8 (x / 4) 1 == 1) = true := bit_u8 hq (by simp) (by omega) (by omega)
        have HQ := Lib.hid hq; clear hq
        go_wp2_with (at_builtin; refine wpList_push wr (.int .i64 ((2 : Nat) : Int)) rfl (.tmp 14) (.tmp 16) 22 rfl w.heap.size 3 (.int .i64 0) 8 Try.underlying22 int_info rfl u3 (setB x 2).length _ rfl HO.out rfl rfl (by omega) (by omega) hsz ?_; intro v' w' ho' hg' hb1)
        go_roundw
        case rel => exact ⟨3, by omega, by go_num, (by rw [setB_yes HQ.out, iv_append, List.length_append]; exact ho'), hbel.trans hb1⟩
        case measure => simp [intOf]
      | false =>
        have hb2 : (bits BinOp.and IntKind.u8 (x / 4) 1 == 1) = false := bit_u8 hq (by simp) (by omega) (by omega)
        have HQ := Lib.hid hq; clear hq
        go_wp2
        go_roundw
        case rel => exact ⟨3, by omega, by go_num, (by rw [setB_no HQ.out]; exact HO.out), hbel⟩
        case measure => simp [intOf]
    · have hle := setB_le x 3
      cases hq : bitB x 3 with
      | true =>
        have hb2 : (bits BinOp.and IntKind.u8 (x / 8) 1 == 1) = true := bit_u8 hq (by simp) (by omega) (by omega)
        have HQ := Lib.hid hq; clear hq
        go_wp2_with (at_builtin; refine wpList_push wr (.int .i64 ((3 : Nat) : Int)) rfl (.tmp 14) (.tmp 16) 22 rfl w.heap.size 3 (.int .i64 0) 8 Try.underlying22 int_info rfl u3 (setB x 3).length _ rfl HO.out rfl rfl (by omega) (by omega) hsz ?_; intro v' w' ho' hg' hb1)
        go_roundw
        case rel => exact ⟨4, by omega, by go_num, (by rw [setB_yes HQ.out, iv_append, List.length_append]; exact ho'), hbel.trans hb1⟩
        case measure => simp [intOf]
      | false =>
        have hb2 : (bits BinOp.and IntKind.u8 (x / 8) 1 == 1) = false := bit_u8 hq (by simp) (by omega) (by omega)
        have HQ := Lib.hid hq; clear hq
        go_wp2
        go_roundw
        case rel => exact ⟨4, by omega, by go_num, (by rw [setB_no HQ.out]; exact HO.out), hbel⟩
        case measure => simp [intOf]
    · have hle := setB_le x 4
      cases hq : bitB x 4 with
      | true =>
        have hb2 : (bits BinOp.and IntKind.u8 (x / 16) 1 == 1) = true := bit_u8 hq (by simp) (by omega) (by omega)
        have HQ := Lib.hid hq; clear hq
        go_wp2_with (at_builtin; refine wpList_push wr (.int .i64 ((4 : Nat) : Int)) rfl (.tmp 14) (.tmp 16) 22 rfl w.heap.size 3 (.int .i64 0) 8 Try.underlying22 int_info rfl u3 (setB x 4).length _ rfl HO.out rfl rfl (by omega) (by omega) hsz ?_; intro v' w' ho' hg' hb1)
        go_roundw
        case rel => exact ⟨5, by omega, by go_num, (by rw [setB_yes HQ.out, iv_append, List.length_append]; exact ho'), hbel.trans hb1⟩
        case measure => simp [intOf]
      | false =>
        have hb2 : (bits BinOp.and IntKind.u8 (x / 16) 1 == 1) = false := bit_u8 hq (by simp) (by omega) (by omega)
        have HQ := Lib.hid hq; clear hq
        go_wp2
        go_roundw
        case rel => exact ⟨5, by omega, by go_num, (by rw [setB_no HQ.out]; exact HO.out), hbel⟩
        case measure => simp [intOf]
    · go_wp2
      go_ret
      exact own_ret HO.out hbel

set_option maxHeartbeats 400000 in
theorem slices_Clone (A : Option Addr) (c : Nat) (l : List Int) (w : World) (ha : RdI w w.heap.size A l) (hac : l.length ≤ 17592186044416) :
    Calls Try.prog 54 #[.slice A l.length c] w (RetO 3 l w) := by
  rcases A with _ | ad
  · have hl : l = [] := by
      rcases Nat.eq_zero_or_pos l.length with h0 | h0
      · exact List.eq_nil_of_length_eq_zero h0
      · obtain ⟨ad, x, h, _⟩ := ha.at_ h0
        cases h
    subst hl
    have hnil := fun W => Lib.run_eql_slice_nil (P := Try.prog) W 22 3 none 0 c 0 0 Try.underlying22
    go_enter Try.func54, Try.ntmps54
    go_wp2
    go_ret
    exact ⟨_, rfl, World.ownsRow_nil _ _ _ _, Below.refl _ _⟩
  · have hnil := fun W => Lib.run_eql_slice_nil (P := Try.prog) W 22 3 (some ad) l.length c 0 0 Try.underlying22
    go_enter Try.func54, Try.ntmps54
    go_wp2_with (at_builtin; refine wpList_app _ rfl (.tmp 5) (.tmp 6) 22 rfl w.heap.size 3 (.int .i64 0) 8 Try.underlying22 int_info rfl (.slice (some ⟨w.heap.size, 0, none⟩) 0 0) 0 _ rfl (World.ownsRow_lit w #[] 0 (Nat.le_refl _) (by unfold maxLen; omega) rfl) w.heap.size (some ad) l.length c (iv l) (iv_length l) rfl (RdV.alloc ha (Nat.le_refl _) _) (iv_one l) (by omega) (by omega) (by simp) ?_; intro v' w' ho' hg' hb1 hnn)
    go_ret
    have ho : w'.ownsRow w.heap.size 3 1 v' l.length (iv l) := by simpa using ho'
    exact ⟨_, rfl, ho, ((Below.refl _ _).alloc (Nat.le_refl _) _).trans hb1⟩
end Go.Proofs.Ytcbhencebflgcaa
