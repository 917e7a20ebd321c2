/- Walks: alphabet.Find; the second reference's Find and Events. -/
import Derived.Test.YtcbhencebflgcaaEh
import Derived.Shelf.Abstract
namespace Go.Proofs.Ytcbhencebflgcaa
open Go.RowKit Go

set_option maxHeartbeats 800000 in
theorem find_1 (e : Ev) (s : ByteArray) (b : Nat) (q : Bool) (hq : (e.nm.toList == s.toList) = q) (w : World) (hb : b < w.heap.size) (hcell : w.cell? ⟨b, 0, none⟩ = some (.string s)) :
    Calls Try.prog 77 #[.agg #[.string e.nm, .bool e.c, .bool e.o, .bool e.f, .int .i64 e.fault], .pointer (some ⟨b, 0, none⟩)] w fun e' w' => e' = .returned (.bool q) ∧ Below w.heap.size w w' := by
  have hc2 := (World.cell?_alloc_lt w (.cells #[.string e.nm, .bool e.c, .bool e.o, .bool e.f, .int .i64 e.fault] 79) ⟨b, 0, none⟩ hb).trans hcell
  go_enter Try.func77, Try.ntmps77
  go_wp2
  go_ret
  exact ⟨rfl, (Below.refl _ _).alloc (Nat.le_refl _) _⟩

theorem str_eq {a b : ByteArray} (h : a = b) : (a.toList == b.toList) = true := by subst h; simp
set_option maxHeartbeats 1600000 in
theorem ev_IndexFunc (A : Option Addr) (c n : Nat) (l : List Ev) (s : ByteArray) (b : Nat) (w : World) (hl : l.length = n) (h : RdE w w.heap.size A l) (hc1 : n ≤ c) (hc2 : c ≤ 9223372036854775807) (hb : b < w.heap.size) (hcell : w.cell? ⟨b, 0, none⟩ = some (.string s)) :
    Calls Try.prog 76 #[.slice A n c, .func (.func 77) #[] #[.pointer (some ⟨b, 0, none⟩)]] w fun e w' => e = .returned (.int .i64 (fnd (l.map Ev.nm) s)) ∧ Below w.heap.size w w' := by
  have eg : ∀ args w, (callFunc 77 args).run Try.prog w = .ok (.enter 77 args) w := enters_of Try.func77 (by kernel_rfl) rfl
  have HL := Lib.hid hl; clear hl
  go_enter Try.func76, Try.ntmps76
  go_wp2
  go_loopw [8] (fun i wr => ∃ k : Nat, k ≤ n ∧ i = .int .i64 k ∧ Hid (inB ((l.take k).map Ev.nm) s = false) ∧ Below w.heap.size w wr) (fun i _ => n - (intOf i).toNat)
  case atStart => exact ⟨0, Nat.zero_le _, rfl, Lib.hid rfl, Below.refl _ _⟩
  case round =>
    obtain ⟨k, hk, rfl, HX, hbel⟩ := hrel
    have hsz := hbel.size
    by_cases hlt : k < n
    · obtain ⟨ad, e, rfl, hbb, he, hs, q0, q1, q2, q3, q4⟩ := (h.below hbel).at_ (k := k) (by have := HL.out; omega)
      have b1 : (k : Int) < (n : Int) := by omega
      have p1 : wr.cell? ⟨(ad.add (k * 5)).block, (ad.add (k * 5)).off + 1, none⟩ = some (.bool e.c) := ev_cells (j := 0) q1
      have p2 : wr.cell? ⟨(ad.add (k * 5)).block, (ad.add (k * 5)).off + 2, none⟩ = some (.bool e.o) := ev_cells (j := 1) q2
      have p3 : wr.cell? ⟨(ad.add (k * 5)).block, (ad.add (k * 5)).off + 3, none⟩ = some (.bool e.f) := ev_cells (j := 2) q3
      have p4 : wr.cell? ⟨(ad.add (k * 5)).block, (ad.add (k * 5)).off + 4, none⟩ = some (.int .i64 e.fault) := ev_cells (j := 3) q4
      clear q1 q2 q3 q4
      have hcr : wr.cell? ⟨b, 0, none⟩ = some (.string s) := (hbel.cell (p := ⟨b, 0, none⟩) hb).trans hcell
      by_cases heq : e.nm = s
      · have hf : fnd (l.map Ev.nm) s = k := fnd_hit (by rw [List.getElem?_map, he, ← heq]; rfl) (by rw [← List.map_take]; exact HX.out)
        have hqq := Lib.hid (str_eq heq)
        have HF := Lib.hid hf; clear hf
        have HE := Lib.hid he; clear he
        have HEQ := Lib.hid heq; clear heq
        go_wp2_with fail
        refine (find_1 e s b true hqq.out wr (by omega) hcr).mono ?_
        rintro e' w' ⟨rfl, hb2⟩
        go_wp2
        go_ret
        exact ⟨ret_int HF.out.symm, hbel.trans (hb2.mono hsz)⟩
      · have HS := Lib.hid (inB_step HX.out he heq)
        have hqq := Lib.hid (str_ne heq)
        have HE := Lib.hid he; clear he
        have HEQ := Lib.hid heq; clear heq
        go_wp2_with fail
        refine (find_1 e s b false hqq.out wr (by omega) hcr).mono ?_
        rintro e' w' ⟨rfl, hb2⟩
        go_wp2
        go_roundw
        case rel => exact ⟨k + 1, by omega, by go_num, HS, hbel.trans (hb2.mono hsz)⟩
        case measure => simp [intOf]; omega
    · have hf : fnd (l.map Ev.nm) s = -1 := fnd_none (by have := HX.out; rwa [List.take_of_length_le (by have := HL.out; omega)] at this)
      have HF := Lib.hid hf; clear hf
      go_wp2
      go_ret
      exact ⟨ret_int HF.out.symm, hbel⟩

/-- An index and whether there is one. -/
def RetX (x : Int) (is : Bool) (w : World) (e : Ending) (w' : World) : Prop := e = .returned (.tuple #[.int .i64 x, .bool is]) ∧ Below w.heap.size w w'
set_option maxHeartbeats 800000 in
theorem alphabet_Find (A : Option Addr) (c n : Nat) (l : List Ev) (s : ByteArray) (r : Int) (hr : fnd (l.map Ev.nm) s = r) (w : World) (hl : l.length = n) (h : RdE w w.heap.size A l) (hc1 : n ≤ c) (hc2 : c ≤ 9223372036854775807) :
    Calls Try.prog 64 #[.slice A n c, .string s] w (RetX (if r < 0 then 0 else r) (decide (0 ≤ r)) w) := by
  have HR := Lib.hid hr; clear hr
  have W1 : Below w.heap.size w (w.alloc (.cells #[.string s] 9)) := (Below.refl _ _).alloc (Nat.le_refl _) _
  have hcon := ev_IndexFunc A c n l s w.heap.size (w.alloc (.cells #[.string s] 9)) hl ((h.below W1).more W1.size) hc1 hc2 (alloc_lt _ _) (cell_one _ _ _)
  rw [HR.out] at hcon
  have HC := Lib.hid hcon
  clear hcon hl
  by_cases hr0 : r < 0
  · have d1 : decide (0 ≤ r) = false := decide_eq_false (by omega)
    rw [if_pos hr0, d1]
    go_enter Try.func64, Try.ntmps64
    go_wp2_with fail
    refine HC.out.mono ?_
    rintro e w' ⟨rfl, hb⟩
    go_wp2
    go_ret2
    exact ⟨rfl, W1.trans (hb.mono (by simp))⟩
  · have d1 : decide (0 ≤ r) = true := decide_eq_true (by omega)
    rw [if_neg hr0, d1]
    go_enter Try.func64, Try.ntmps64
    go_wp2_with fail
    refine HC.out.mono ?_
    rintro e w' ⟨rfl, hb⟩
    go_wp2
    go_ret2
    exact ⟨rfl, W1.trans (hb.mono (by simp))⟩

set_option maxHeartbeats 1600000 in
theorem ref02_Find (A : Option Addr) (c n : Nat) (l : List Ev) (s : ByteArray) (w : World) (hl : l.length = n) (h : RdE w w.heap.size A l) (hc1 : n ≤ c) (hc2 : c ≤ 9223372036854775807) :
    Calls Try.prog 66 #[.slice A n c, .string s] w fun e w' => e = .returned (.int .i64 (fnd (l.map Ev.nm) s)) ∧ w = w' := by
  have HL := Lib.hid hl; clear hl
  go_enter Try.func66, Try.ntmps66
  go_wp2
  go_loop [5] (fun i => ∃ k : Nat, k ≤ n ∧ i = .int .i64 k ∧ Hid (inB ((l.take k).map Ev.nm) s = false)) (fun i => n - (intOf i).toNat)
  case atStart => exact ⟨0, Nat.zero_le _, rfl, Lib.hid rfl⟩
  case round =>
    obtain ⟨k, hk, rfl, HX⟩ := hrel
    by_cases hlt : k < n
    · obtain ⟨ad, e, rfl, hb, he, hs, q0, q1, q2, q3, q4⟩ := h.at_ (k := k) (by have := HL.out; omega)
      have b1 : (k : Int) < (n : Int) := by omega
      by_cases heq : e.nm = s
      · have hf : fnd (l.map Ev.nm) s = k := fnd_hit (by rw [List.getElem?_map, he, ← heq]; rfl) (by rw [← List.map_take]; exact HX.out)
        have HF := Lib.hid hf; clear hf
        have HE := Lib.hid he; clear he
        subst heq
        go_wp2
        go_ret
        exact ⟨ret_int HF.out.symm, rfl⟩
      · have HS := Lib.hid (inB_step HX.out he heq)
        have hne := str_ne heq
        have HE := Lib.hid he; clear he
        go_wp2
        go_round
        case rel => exact ⟨k + 1, by omega, by go_num, HS⟩
        case measure => simp [intOf]; omega
    · have hf : fnd (l.map Ev.nm) s = -1 := fnd_none (by have := HX.out; rwa [List.take_of_length_le (by have := HL.out; omega)] at this)
      have HF := Lib.hid hf; clear hf
      go_wp2
      go_ret
      exact ⟨ret_int HF.out.symm, rfl⟩
theorem ref02_Events (A : Option Addr) (c n : Nat) (l : List Ev) (w : World) (hl : l.length = n) (h : RdE w w.heap.size A l) (hc1 : n ≤ c) (hc2 : c ≤ 9223372036854775807) :
    Calls Try.prog 39 #[.slice A n c] w fun e w' => e = .returned (.int .i64 (chkE l)) ∧ Below w.heap.size w w' := by
  go_enter Try.func39, Try.ntmps39
  go_wp2_with fail
  refine (ref01_Check A c n l w hl h hc1 hc2).mono ?_
  rintro e w' ⟨rfl, hb⟩
  go_wp2
  go_ret
  exact ⟨rfl, hb⟩
end Go.Proofs.Ytcbhencebflgcaa
