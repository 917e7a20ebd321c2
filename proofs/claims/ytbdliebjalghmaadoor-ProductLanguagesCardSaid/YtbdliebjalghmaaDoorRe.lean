/- Walks: product.Alphabet; the error paths of Enabled, Marked, Step, Run. -/
import Derived.Test.YtbdliebjalghmaaDoorMl
namespace Go.Proofs.YtbdliebjalghmaaDoor
open Go.RowKit Go Go.Maps

set_option maxRecDepth 100000 in
set_option maxHeartbeats 3200000 in
theorem alphabet_err (L : Option Addr) (c n : Nat) (xs : List AV) (w : World) (hl : xs.length = n) (h : RdL w w.heap.size L xs) (hc1 : n ≤ c) (hc2 : c ≤ 9223372036854775807) (hz : chkL (xs.map AV.a) ≠ 0) :
    Calls Tryd.prog 38 #[.slice L n c] w (RetLE [] (chkL (xs.map AV.a)) w) := by
  have HC := Lib.hid (product_Check L c n xs w hl h hc1 hc2)
  generalize chkL (xs.map AV.a) = z at *
  have q1 : (z != 0) = true := by simpa using hz
  clear hz
  go_enter Tryd.func38, Tryd.ntmps38
  go_wp2_with fail
  refine HC.out.mono ?_
  rintro e w1 ⟨rfl, hb1⟩
  go_wp2
  go_ret2
  exact ⟨_, rfl, World.ownsRow_nil _ _ _ _, hb1⟩
set_option maxRecDepth 100000 in
set_option maxHeartbeats 3200000 in
theorem alphabet_ok (L : Option Addr) (c n : Nat) (xs : List AV) (w : World) (hl : xs.length = n) (h : RdL w w.heap.size L xs) (hc1 : n ≤ c) (hc2 : c ≤ 9223372036854775807) (hz : chkL (xs.map AV.a) = 0) :
    Calls Tryd.prog 38 #[.slice L n c] w (RetLE (evs (xs.map AV.a)) 0 w) := by
  have HC := Lib.hid (product_Check L c n xs w hl h hc1 hc2)
  rw [hz] at HC
  obtain ⟨hn, hw⟩ := chkL_wf hz
  clear hz hn
  have HW := Lib.hid hw; clear hw
  have HL := Lib.hid hl; clear hl
  have HX := Lib.hid h; clear h
  go_enter Tryd.func38, Tryd.ntmps38
  go_wp2_with fail
  refine HC.out.mono ?_
  rintro e w1 ⟨rfl, hb1⟩
  have HE := Lib.hid (product_events L c n xs w1 HL.out ((HX.out.below hb1).more hb1.size) hc1 hc2 HW.out)
  have HB1 := Lib.hid hb1; clear hb1
  go_wp2_with fail
  refine HE.out.mono ?_
  rintro e w2 ⟨v, rfl, ho, hb2⟩
  have hb := HB1.out.trans (hb2.mono HB1.out.size)
  have ho2 := own_base ho HB1.out.size
  have HO := Lib.hid ho2; clear ho2
  have HB := Lib.hid hb; clear hb
  clear ho hb2
  go_wp2
  go_ret2
  exact ⟨_, rfl, HO.out, HB.out⟩

set_option maxRecDepth 100000 in
set_option maxHeartbeats 3200000 in
theorem enabled_err (L : Option Addr) (c n : Nat) (xs : List AV) (T : Option Addr) (ct nt : Nat) (t : List Int) (w : World) (hl : xs.length = n) (h : RdL w w.heap.size L xs) (hc1 : n ≤ c) (hc2 : c ≤ 9223372036854775807) (hT : RdI w w.heap.size T t) (ht : t.length = nt) (hz : chkT (xs.map AV.a) t ≠ 0) :
    Calls Tryd.prog 28 #[.slice L n c, .slice T nt ct] w (RetLE [] (chkT (xs.map AV.a) t) w) := by
  have HC := Lib.hid (product_checkTuple L c n xs T ct nt t w hl h hc1 hc2 hT ht)
  generalize chkT (xs.map AV.a) t = z at *
  have q1 : (z != 0) = true := by simpa using hz
  clear hz
  go_enter Tryd.func28, Tryd.ntmps28
  go_wp2_with fail
  refine HC.out.mono ?_
  rintro e w1 ⟨rfl, hb1⟩
  go_wp2
  go_ret2
  exact ⟨_, rfl, World.ownsRow_nil _ _ _ _, hb1⟩

set_option maxRecDepth 100000 in
set_option maxHeartbeats 3200000 in
theorem marked_err (L : Option Addr) (c n : Nat) (xs : List AV) (T : Option Addr) (ct nt : Nat) (t : List Int) (w : World) (hl : xs.length = n) (h : RdL w w.heap.size L xs) (hc1 : n ≤ c) (hc2 : c ≤ 9223372036854775807) (hT : RdI w w.heap.size T t) (ht : t.length = nt) (hz : chkT (xs.map AV.a) t ≠ 0) :
    Calls Tryd.prog 29 #[.slice L n c, .slice T nt ct] w fun e w' => e = .returned (.tuple #[.bool false, .int .i64 (chkT (xs.map AV.a) t)]) ∧ Below w.heap.size w w' := by
  have HC := Lib.hid (product_checkTuple L c n xs T ct nt t w hl h hc1 hc2 hT ht)
  generalize chkT (xs.map AV.a) t = z at *
  have q1 : (z != 0) = true := by simpa using hz
  clear hz
  go_enter Tryd.func29, Tryd.ntmps29
  go_wp2_with fail
  refine HC.out.mono ?_
  rintro e w1 ⟨rfl, hb1⟩
  go_wp2
  go_ret2
  exact ⟨rfl, hb1⟩

set_option maxRecDepth 100000 in
set_option maxHeartbeats 3200000 in
theorem step_err (L : Option Addr) (c n : Nat) (xs : List AV) (T : Option Addr) (ct nt : Nat) (t : List Int) (v : Int) (w : World) (hl : xs.length = n) (h : RdL w w.heap.size L xs) (hc1 : n ≤ c) (hc2 : c ≤ 9223372036854775807) (hT : RdI w w.heap.size T t) (ht : t.length = nt) (hz : chkV (xs.map AV.a) t v ≠ 0) :
    Calls Tryd.prog 32 #[.slice L n c, .slice T nt ct, .int .i64 v] w fun e w' => e = .returned (.tuple #[.slice none 0 0, .bool false, .int .i64 (chkV (xs.map AV.a) t v)]) ∧ Below w.heap.size w w' := by
  have HC := Lib.hid (product_checkEvent L c n xs T ct nt t v w hl h hc1 hc2 hT ht)
  generalize chkV (xs.map AV.a) t v = z at *
  have q1 : (z != 0) = true := by simpa using hz
  clear hz
  go_enter Tryd.func32, Tryd.ntmps32
  go_wp2_with fail
  refine HC.out.mono ?_
  rintro e w1 ⟨rfl, hb1⟩
  go_wp2
  refine bodyPost_ret (v := .tuple #[.slice none 0 0, .bool false, .int .i64 z]) (by simp [results, Tryd.results32, go_sem]) rfl ?_
  exact ⟨rfl, hb1⟩

set_option maxRecDepth 100000 in
set_option maxHeartbeats 3200000 in
theorem run_err (L : Option Addr) (c n : Nat) (xs : List AV) (T : Option Addr) (ct nt : Nat) (w : World) (hl : xs.length = n) (h : RdL w w.heap.size L xs) (hc1 : n ≤ c) (hc2 : c ≤ 9223372036854775807) (hz : chkL (xs.map AV.a) ≠ 0) :
    Calls Tryd.prog 24 #[.slice L n c, .slice T nt ct] w fun e w' => e = .returned (.tuple #[.slice none 0 0, .int .i64 0, .int .i64 (chkL (xs.map AV.a))]) ∧ Below w.heap.size w w' := by
  have HC := Lib.hid (product_Check L c n xs w hl h hc1 hc2)
  generalize chkL (xs.map AV.a) = z at *
  have q1 : (z != 0) = true := by simpa using hz
  clear hz
  go_enter Tryd.func24, Tryd.ntmps24
  go_wp2_with fail
  refine HC.out.mono ?_
  rintro e w1 ⟨rfl, hb1⟩
  go_wp2
  refine bodyPost_ret (v := .tuple #[.slice none 0 0, .int .i64 0, .int .i64 z]) (by simp [results, Tryd.results24, go_sem]) rfl ?_
  exact ⟨rfl, hb1⟩
end Go.Proofs.YtbdliebjalghmaaDoor
