/- Walks: the key of a tuple. -/
import Derived.Test.YtbdliebjalghmaaDoorMe
import Derived.Test.YtbdliebjalghmaaDoorQk
namespace Go.Proofs.YtbdliebjalghmaaDoor
open Go.RowKit Go Go.Maps

theorem cells_app (a b : List UInt8) : Lib.byteCells (a ++ b) = Lib.byteCells a ++ Lib.byteCells b := by simp [Lib.byteCells]
theorem cells_str (l : List UInt8) : Lib.strCells ⟨l.toArray⟩ = Lib.byteCells l := by simp [Lib.strCells, Lib.byteCells]
set_option maxRecDepth 100000 in
set_option maxHeartbeats 1600000 in
theorem product_key (T : Option Addr) (n c : Nat) (t : List Int) (w : World) (ht : t.length = n) (hT : RdI w w.heap.size T t) (hn : n ≤ 12) (hr : ∀ x ∈ t, 0 ≤ x ∧ x < 100) :
    Calls Tryd.prog 48 #[.slice T n c] w fun e w' => e = .returned (.string (keyS t)) ∧ Below w.heap.size w w' := by
  have hB0 := box_below' w (.cells #[.pointer none, .slice none 0 0] 113)
  have hf := Lib.fresh_isBuilder 113 5 w
  have HF := Lib.hid (show Lib.IsBuilder 113 5 w.heap.size w.heap.size (Lib.byteCells (keyL (t.take 0))) (w.alloc (.cells #[.pointer none, .slice none 0 0] 113)) from hf)
  clear hf
  have HL := Lib.hid ht; clear ht
  have HR := Lib.hid hr; clear hr
  go_enter Tryd.func48, Tryd.ntmps48
  go_wp2
  go_loopw [8] (fun i wr => ∃ k : Nat, k ≤ n ∧ i = .int .i64 k ∧ Hid (Lib.IsBuilder 113 5 w.heap.size w.heap.size (Lib.byteCells (keyL (t.take k))) wr) ∧ Below w.heap.size w wr) (fun i _ => n - (intOf i).toNat)
  case atStart => exact ⟨0, Nat.zero_le _, rfl, HF, hB0⟩
  case round =>
    obtain ⟨k, hk, rfl, HB, hbel⟩ := hrel
    clear HF
    have hsz := hbel.size
    by_cases hlt : k < n
    · obtain ⟨td, x, rfl, hbt, hx, hcx⟩ := ((hT.below hbel).more hsz).at_ (k := k) (by have := HL.out; omega)
      have b1 : (k : Int) < (n : Int) := by omega
      have hrx := HR.out x (List.mem_of_getElem? hx)
      obtain ⟨i, rfl⟩ : ∃ i : Nat, x = (i : Int) := ⟨x.toNat, by omega⟩
      have hi : i < 100 := by omega
      have hlen : (keyL (t.take k)).length ≤ 3 * 12 := by
        have := keyL_len (t := t.take k) (fun y hy => HR.out y (List.mem_of_mem_take hy))
        rw [List.length_take] at this; omega
      have hdl := dd_len hi
      have hks := keyL_snoc hx
      rw [Int.toNat_natCast] at hks
      have HI := Lib.hid (Tryd.strconv_Itoa_small i hi wr)
      have HW := Lib.hid (bld_WriteString w.heap.size w.heap.size (Lib.byteCells (keyL (t.take k))) ⟨(Lib.decDigits i).toArray⟩ wr HB.out (by rw [Lib.byteCells_length]; simp [ByteArray.size]; omega) hsz)
      have HWB := Lib.hid (fun (W : World) (hW : Lib.IsBuilder 113 5 w.heap.size w.heap.size (Lib.byteCells (keyL (t.take k)) ++ Lib.strCells ⟨(Lib.decDigits i).toArray⟩) W) (hs : w.heap.size ≤ W.heap.size) => bld_WriteByte w.heap.size w.heap.size _ 32 W hW (by rw [List.length_append, Lib.byteCells_length, Lib.strCells_length]; simp [ByteArray.size]; omega) hs)
      have HKS := Lib.hid hks; clear hks
      have HX := Lib.hid hx; clear hx
      clear hlen hdl hrx hi HB
      go_wp2_with fail
      refine HI.out.mono ?_
      rintro e w' ⟨rfl, rfl⟩
      go_wp2_with fail
      refine HW.out.mono ?_
      rintro e w3 ⟨rfl, hb3, hbl3⟩
      have F3 := hbel.trans hbl3
      go_wp2_with fail
      refine (HWB.out w3 (.inr hb3) F3.size).mono ?_
      rintro e w4 ⟨rfl, hb4, hbl4⟩
      go_wp2
      go_roundw
      case rel =>
        refine ⟨k + 1, by omega, by go_num, Lib.hid ?_, F3.trans hbl4⟩
        rw [HKS.out, cells_app, cells_app, ← List.append_assoc, ← cells_str (Lib.decDigits i)]
        exact .inr hb4
      case measure => simp [intOf]; omega
    · have HS := Lib.hid (Tryd.Builder_String_any w.heap.size w.heap.size (keyL (t.take k)) wr HB.out hsz)
      have hf : (⟨(keyL (t.take k)).toArray⟩ : ByteArray) = keyS t := by rw [List.take_of_length_le (by have := HL.out; omega)]; rfl
      rw [hf] at HS
      go_wp2_with fail
      refine HS.out.mono ?_
      rintro e w3 ⟨rfl, hb3⟩
      go_wp2
      go_ret
      exact ⟨rfl, hbel.trans hb3⟩
end Go.Proofs.YtbdliebjalghmaaDoor
