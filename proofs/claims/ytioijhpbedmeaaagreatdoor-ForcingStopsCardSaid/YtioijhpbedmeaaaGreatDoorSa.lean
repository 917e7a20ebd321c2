/- Walks: slices.Equal, BinarySearch, Clone, Contains at ints; alphabet.Contains. -/
import Derived.Test.YtioijhpbedmeaaaGreatDoorRows
import Derived.Test.YtioijhpbedmeaaaGreatDoorBase
import Derived.Test.YtioijhpbedmeaaaGreatDoorQa
import Derived.WalkLawsBesides
import Derived.BigQuiet
import Derived.Deep.QuietTactic
import Derived.Outline
import Derived.Deep.RegionWith
import Derived.Handy
import Derived.Test.YtioijhpbedmeaaaGreatDoorAa
import Derived.Shelf.Abstract
namespace Go.Proofs.YtioijhpbedmeaaaGreatDoor
open Go.RowKit Go

theorem ret_bool {a b : Bool} (h : a = b) : Ending.returned (.bool a) = Ending.returned (.bool b) := by rw [h]
theorem ret_int {k : IntKind} {a b : Int} (h : a = b) : Ending.returned (.int k a) = Ending.returned (.int k b) := by rw [h]
theorem int_info : (Tryz.prog.info? 3).map (fun i => (i.zero, i.size, i.bytes)) = some (some (.int .i64 0), 1, 8) := by kernel_rfl

theorem cmp_isNaN (x : Int) (w : World) : Calls Tryz.prog 118 #[.int .i64 x] w fun e w' => e = .returned (.bool false) ∧ w = w' := by
 go_enter Tryz.func118, Tryz.ntmps118
 go_wp2
 go_ret
 exact ⟨by simp, rfl⟩

theorem slices_isNaN (x : Int) (w : World) : Calls Tryz.prog 110 #[.int .i64 x] w fun e w' => e = .returned (.bool false) ∧ w = w' := by
 go_enter Tryz.func110, Tryz.ntmps110
 go_wp2
 go_ret
 exact ⟨by simp, rfl⟩

set_option maxHeartbeats 400000 in
theorem cmp_Less (x y : Int) (w : World) : Calls Tryz.prog 109 #[.int .i64 x, .int .i64 y] w fun e w' => e = .returned (.bool (decide (x < y))) ∧ w = w' := by
 go_enter Tryz.func109, Tryz.ntmps109
 go_wp2_with (go_at_call 118; refine (cmp_isNaN _ _).mono ?_; rintro e w' ⟨rfl, rfl⟩)
 go_ret
 exact ⟨by simp, rfl⟩

set_option maxHeartbeats 400000 in
theorem slices_Equal (A B : Option Addr) (c d : Nat) (a b : List Int) (w : World) (ha : RdI w w.heap.size A a) (hac : a.length ≤ c) (hc : c ≤ 9223372036854775807)
  (hb : RdI w w.heap.size B b) :
  Calls Tryz.prog 24 #[.slice A a.length c, .slice B b.length d] w fun e w' => e = .returned (.bool (eqB a b)) ∧ ∃ n, w' = w.drewN n := by
 by_cases hl : a.length = b.length
 ·have hl1 : ((a.length : Int) != (b.length : Int)) = false := by simp [hl]
  have HL := Lib.hid hl; clear hl
  go_enter Tryz.func24, Tryz.ntmps24
  go_wp2
  go_loopw [13] (fun i wr => ∃ k : Nat, k ≤ a.length ∧ i = .int .i64 k ∧ Hid (a.take k = b.take k) ∧ ∃ n, wr = w.drewN n) (fun i _ => a.length - (intOf i).toNat)
  case atStart => exact ⟨0, Nat.zero_le _, rfl, Lib.hid rfl, (by first | exact dr00 _ | exact dr0 _ _ | exact dr1 _ _ _ | exact dr2 _ _ _ _ | exact dr3 _ _ _ _ _)⟩
  case round =>
   obtain ⟨k, hk, rfl, HX, n, rfl⟩ := hrel
   by_cases hlt : k < a.length
   ·obtain ⟨ad, x, rfl, _, hx, hcx⟩ := ha.at_ hlt
    obtain ⟨bd, y, rfl, _, hy, hcy⟩ := hb.at_ (k := k) (by have := HL.out; omega)
    have HXX := Lib.hid hx; clear hx
    have HYY := Lib.hid hy; clear hy
    have hkb : k < b.length := by have := HL.out; omega
    have b1 : (k : Int) < (a.length : Int) := by omega
    have b2 : (k : Int) < (b.length : Int) := by omega
    by_cases hxy : x = y
    ·subst hxy
     go_wp2
     go_quiet (fail)
     go_wp2
     go_roundw
     case rel => exact ⟨k + 1, by omega, by go_num, Lib.hid (take_eq_snoc HXX.out HYY.out HX.out), (by first | exact dr00 _ | exact dr0 _ _ | exact dr1 _ _ _ | exact dr2 _ _ _ _ | exact dr3 _ _ _ _ _)⟩
     case measure => simp [intOf]; omega
    ·have hxy' : (x != y) = true := by simpa using hxy
     go_wp2
     go_quiet (fail)
     go_wp2
     go_ret
     exact ⟨ret_bool (ne_of_get HXX.out HYY.out hxy).symm, (by first | exact dr00 _ | exact dr0 _ _ | exact dr1 _ _ _ | exact dr2 _ _ _ _ | exact dr3 _ _ _ _ _)⟩
   ·go_wp2
    go_ret
    exact ⟨ret_bool (eqB_of (eq_of_drop HL.out HX.out hlt)).symm, (by first | exact dr00 _ | exact dr0 _ _ | exact dr1 _ _ _ | exact dr2 _ _ _ _ | exact dr3 _ _ _ _ _)⟩
 ·have hl1 : ((a.length : Int) != (b.length : Int)) = true := by rw [bne_iff_ne]; omega
  have HL := Lib.hid hl; clear hl
  go_enter Tryz.func24, Tryz.ntmps24
  go_wp2
  go_ret
  exact ⟨ret_bool (ne_of_len HL.out).symm, (by first | exact dr00 _ | exact dr0 _ _ | exact dr1 _ _ _ | exact dr2 _ _ _ _ | exact dr3 _ _ _ _ _)⟩

set_option maxHeartbeats 400000 in
theorem slices_BinarySearch (A : Option Addr) (c : Nat) (l : List Int) (x : Int) (w : World) (h : RdI w w.heap.size A l) (hc : l.length ≤ 4611686018427387903) (hs : Inc l) :
  Calls Tryz.prog 87 #[.slice A l.length c, .int .i64 x] w fun e w' => (∃ i : Int, e = .returned (.tuple #[.int .i64 i, .bool (hasB l x)])) ∧ w = w' := by
 have HS := Lib.hid hs; clear hs
 go_enter Tryz.func87, Tryz.ntmps87
 go_wp2
 go_loop [7, 8] (fun i j => ∃ p q : Nat, p ≤ q ∧ q ≤ l.length ∧ i = .int .i64 p ∧ j = .int .i64 q ∧ Hid (LoB l x p) ∧ Hid (HiB l x q)) (fun i j => (intOf j).toNat - (intOf i).toNat)
 case atStart => exact ⟨0, l.length, Nat.zero_le _, Nat.le_refl _, rfl, rfl, fun k y hk => by omega, fun k y hk hy => by have := get_lt hy; omega⟩
 case round =>
  obtain ⟨p, q, hpq, hq, rfl, rfl, H1, H2⟩ := hrel
  by_cases hlt : p < q
  ·obtain ⟨ad, y, rfl, hb, hy, hcell⟩ := h.at_ (k := (p + q) / 2) (by omega)
   have HY := Lib.hid hy; clear hy
   by_cases hyx : y < x
   ·go_wp2_with (go_at_call 109; refine (cmp_Less _ _ _).mono ?_; rintro e w' ⟨rfl, rfl⟩)
    go_round
    case rel => exact ⟨(p + q) / 2 + 1, q, by omega, by omega, by go_num, rfl, LoB.up HS.out HY.out hyx, H2.out⟩
    case measure => simp [intOf]; omega
   ·go_wp2_with (go_at_call 109; refine (cmp_Less _ _ _).mono ?_; rintro e w' ⟨rfl, rfl⟩)
    go_round
    case rel => exact ⟨p, (p + q) / 2, by omega, by omega, rfl, by go_num, H1.out, HiB.down HS.out HY.out (by omega)⟩
    case measure => simp [intOf]; omega
  ·obtain rfl : p = q := by omega
   clear hlt hpq
   by_cases hl : p < l.length
   ·obtain ⟨ad, y, rfl, hb, hy, hcell⟩ := h.at_ hl
    have HY := Lib.hid hy; clear hy
    by_cases hyx : y = x
    ·subst hyx
     go_wp2_with (go_at_call 110; refine (slices_isNaN _ _).mono ?_; rintro e w' ⟨rfl, rfl⟩)
     go_ret2
     exact ⟨⟨_, by rw [bs_some HS.out H1.out H2.out HY.out, beq_self_eq_true]; rfl⟩, rfl⟩
    ·have hyx' : (y == x) = false := by simpa using hyx
     go_wp2_with (go_at_call 110; refine (slices_isNaN _ _).mono ?_; rintro e w' ⟨rfl, rfl⟩)
     go_ret2
     exact ⟨⟨_, by rw [bs_some HS.out H1.out H2.out HY.out, hyx']; rfl⟩, rfl⟩
   ·go_wp2_with (go_at_call 110; refine (slices_isNaN _ _).mono ?_; rintro e w' ⟨rfl, rfl⟩)
    go_ret2
    exact ⟨⟨_, by rw [bs_none HS.out H1.out H2.out hl]; rfl⟩, rfl⟩

set_option maxHeartbeats 400000 in
theorem alphabet_Contains (A : Option Addr) (c : Nat) (l : List Int) (x : Int) (w : World) (h : RdI w w.heap.size A l) (hc : l.length ≤ 4611686018427387903) (hs : Inc l) :
  Calls Tryz.prog 52 #[.slice A l.length c, .int .i64 x] w fun e w' => e = .returned (.bool (hasB l x)) ∧ w = w' := by
 have HS := Lib.hid hs; clear hs
 go_enter Tryz.func52, Tryz.ntmps52
 go_wp2_with (go_at_call 87; refine (slices_BinarySearch _ _ _ _ _ h hc HS.out).mono ?_; rintro e w' ⟨⟨i, rfl⟩, rfl⟩)
 go_ret
 exact ⟨rfl, rfl⟩

set_option maxHeartbeats 400000 in
theorem slices_Clone (A : Option Addr) (c : Nat) (l : List Int) (w : World) (ha : RdI w w.heap.size A l) (hac : l.length ≤ 17592186044416) :
  Calls Tryz.prog 31 #[.slice A l.length c] w (RetO 3 l w) := by
 rcases A with _ | ad
 ·have hl : l = [] := by
   rcases Nat.eq_zero_or_pos l.length with h0 | h0
   ·exact List.eq_nil_of_length_eq_zero h0
   ·obtain ⟨ad, x, h, _⟩ := ha.at_ h0
    cases h
  subst hl
  have hnil := fun W => Lib.run_eql_slice_nil (P := Tryz.prog) W 30 3 none 0 c 0 0 Tryz.underlying30
  go_enter Tryz.func31, Tryz.ntmps31
  go_wp2
  go_ret
  exact ⟨_, rfl, World.ownsRow_nil _ _ _ _, Below.refl _ _⟩
 ·have hnil := fun W => Lib.run_eql_slice_nil (P := Tryz.prog) W 30 3 (some ad) l.length c 0 0 Tryz.underlying30
  go_enter Tryz.func31, Tryz.ntmps31
  go_wp2_with (at_builtin; refine wpList_app _ rfl (.tmp 5) (.tmp 6) 30 rfl w.heap.size 3 (.int .i64 0) 8 Tryz.underlying30 int_info rfl (.slice (some ⟨w.heap.size, 0, none⟩) 0 0) 0 _ rfl (World.ownsRow_lit w #[] 0 (Nat.le_refl _) (by unfold maxLen; omega) rfl) w.heap.size (some ad) l.length c (iv l) (iv_length l) rfl (RdV.alloc ha (Nat.le_refl _) _) (iv_one l) (by omega) (by omega) (by simp) ?_; intro v' w' ho' hg' hb1 hnn)
  go_ret
  have ho : w'.ownsRow w.heap.size 3 1 v' l.length (iv l) := by simpa using ho'
  exact ⟨_, rfl, ho, ((Below.refl _ _).alloc (Nat.le_refl _) _).trans hb1⟩
theorem slices_Equal_n (A B : Option Addr) (c d na nb : Nat) (a b : List Int) (q : Bool) (w : World) (hna : a.length = na) (hnb : b.length = nb) (hq : eqB a b = q) (ha : RdI w w.heap.size A a) (hac : na ≤ c) (hc : c ≤ 9223372036854775807)
  (hb : RdI w w.heap.size B b) : Calls Tryz.prog 24 #[.slice A na c, .slice B nb d] w fun e w' => e = .returned (.bool q) ∧ ∃ n, w' = w.drewN n := by
 subst hna hnb hq; exact slices_Equal A B c d a b w ha hac hc hb
theorem slices_Clone_n (A : Option Addr) (c n : Nat) (l : List Int) (w : World) (hl : l.length = n) (ha : RdI w w.heap.size A l) (hac : n ≤ 17592186044416) :
  Calls Tryz.prog 31 #[.slice A n c] w (RetO 3 l w) := by
 subst hl; exact slices_Clone A c l w ha hac
theorem alphabet_Contains_n (A : Option Addr) (c n : Nat) (l : List Int) (x : Int) (q : Bool) (w : World) (hl : l.length = n) (hq : hasB l x = q) (h : RdI w w.heap.size A l) (hc : n ≤ 4611686018427387903) (hs : Inc l) :
  Calls Tryz.prog 52 #[.slice A n c, .int .i64 x] w fun e w' => e = .returned (.bool q) ∧ w = w' := by
 subst hl hq; exact alphabet_Contains A c l x w h hc hs
end Go.Proofs.YtioijhpbedmeaaaGreatDoor

/- Walks: slices.Index, Contains at ints; automaton.Check. -/
namespace Go.Proofs.YtioijhpbedmeaaaGreatDoor
open Go.RowKit Go

theorem hasB_idx (l : List Int) (x : Int) : hasB l x = decide (0 ≤ idx l x) := by
 rw [Bool.eq_iff_iff, hasB_mem, decide_eq_true_iff]
 have := idx_neg (l := l) (x := x)
 constructor
 ·intro h
  by_cases h0 : idx l x < 0
  ·exact absurd h (this.1 h0)
  ·omega
 ·intro h
  by_cases h0 : x ∈ l
  ·exact h0
  ·have := this.2 h0; omega
set_option maxHeartbeats 400000 in
theorem slices_Index (A : Option Addr) (c n : Nat) (l : List Int) (x : Int) (w : World) (hl : l.length = n) (h : RdI w w.heap.size A l) (hlc : n ≤ c) (hc : c ≤ 9223372036854775807) :
  Calls Tryz.prog 67 #[.slice A n c, .int .i64 x] w fun e w' => e = .returned (.int .i64 (idx l x)) ∧ w = w' := by
 have HL := Lib.hid hl; clear hl
 go_enter Tryz.func67, Tryz.ntmps67
 go_wp2
 go_loop [8] (fun i => ∃ k : Nat, k ≤ n ∧ i = .int .i64 k ∧ Hid (x ∉ l.take k)) (fun i => n - (intOf i).toNat)
 case atStart => exact ⟨0, Nat.zero_le _, rfl, Lib.hid (by simp)⟩
 case round =>
  obtain ⟨k, hk, rfl, HN⟩ := hrel
  by_cases hlt : k < n
  ·obtain ⟨ad, y, rfl, hb, hy, hcell⟩ := h.at_ (k := k) (by have := HL.out; omega)
   have b1 : (k : Int) < (n : Int) := by omega
   by_cases hxy : x = y
   ·subst hxy
    have hf := idx_hit hy HN.out
    have HF := Lib.hid hf; clear hf
    have HY := Lib.hid hy; clear hy
    go_wp2
    go_ret
    exact ⟨ret_int HF.out.symm, rfl⟩
   ·have hxy' : (x == y) = false := by simpa using hxy
    have HS := Lib.hid (not_take_succ hy HN.out (fun e => hxy e.symm))
    have HY := Lib.hid hy; clear hy
    clear hxy
    go_wp2
    go_round
    case rel => exact ⟨k + 1, by omega, by go_num, HS⟩
    case measure => simp [intOf]; omega
  ·have hf : idx l x = -1 := idx_end HN.out (by have := HL.out; omega)
   have HF := Lib.hid hf; clear hf
   go_wp2
   go_ret
   exact ⟨ret_int HF.out.symm, rfl⟩
theorem slices_Contains (A : Option Addr) (c n : Nat) (l : List Int) (x : Int) (q : Bool) (w : World) (hl : l.length = n) (hq : hasB l x = q) (h : RdI w w.heap.size A l) (hlc : n ≤ c) (hc : c ≤ 9223372036854775807) :
  Calls Tryz.prog 34 #[.slice A n c, .int .i64 x] w fun e w' => e = .returned (.bool q) ∧ w = w' := by
 have hcon := slices_Index A c n l x w hl h hlc hc
 rw [hasB_idx] at hq
 generalize idx l x = r at *
 have HC := Lib.hid hcon
 clear hcon hl
 subst hq
 go_enter Tryz.func34, Tryz.ntmps34
 go_wp2_with fail
 refine HC.out.mono ?_
 rintro e w' ⟨rfl, rfl⟩
 go_wp2
 go_ret
 exact ⟨rfl, rfl⟩

set_option maxHeartbeats 400000 in
theorem automaton_checkSet (A : Option Addr) (c n : Nat) (l : List Int) (m r : Int) (w : World) (hl : l.length = n) (hr : setErr l m = r) (h : RdI w w.heap.size A l) (hlc : n ≤ c) (hc : c ≤ 9223372036854775807) :
  Calls Tryz.prog 93 #[.slice A n c, .int .i64 m] w fun e w' => e = .returned (.int .i64 r) ∧ w = w' := by
 have HL := Lib.hid hl; clear hl
 have HR := Lib.hid hr; clear hr
 go_enter Tryz.func93, Tryz.ntmps93
 go_wp2
 go_loop [9] (fun i => ∃ k : Nat, k ≤ n ∧ i = .int .i64 k ∧ Hid (r = setErrG m (l.take k).getLast? (l.drop k))) (fun i => n - (intOf i).toNat)
 case atStart => exact ⟨0, Nat.zero_le _, rfl, Lib.hid HR.out.symm⟩
 case round =>
  obtain ⟨k, hk, rfl, HX⟩ := hrel
  clear HR
  by_cases hlt : k < n
  ·obtain ⟨ad, y, rfl, hb, hy, hcell⟩ := h.at_ (k := k) (by have := HL.out; omega)
   have b1 : (k : Int) < (n : Int) := by omega
   have HY := Lib.hid hy; clear hy
   by_cases h1 : y < 0
   ·go_wp2
    go_ret
    exact ⟨ret_int (by rw [HX.out, setErrG_range HY.out (.inl h1)]), rfl⟩
   by_cases h2 : m ≤ y
   ·go_wp2
    go_ret
    exact ⟨ret_int (by rw [HX.out, setErrG_range HY.out (.inr h2)]), rfl⟩
   have e1 : decide (y < 0) = false := by simpa using h1
   have e2 : decide (m ≤ y) = false := by simpa using h2
   cases k with
   | zero =>
    have hcell' := cell_zero hcell
    go_wp2
    go_round
    case rel => exact ⟨1, by omega, by go_num, Lib.hid (by rw [HX.out, take_snoc' HY.out, List.getLast?_concat]; exact setErrG_first HY.out (by omega))⟩
    case measure => simp [intOf]; omega
   | succ j =>
    obtain ⟨ad', q, e, _, hq, hcq⟩ := h.at_ (k := j) (by have := HL.out; omega)
    obtain rfl : ad = ad' := by injection e
    have hcell' := cell_succ hcell
    have HQ := Lib.hid hq; clear hq
    by_cases h3 : y ≤ q
    ·go_wp2
     go_ret
     exact ⟨ret_int (by rw [HX.out, take_snoc' HQ.out, List.getLast?_concat, setErrG_order HY.out (by omega) h3]), rfl⟩
    ·go_wp2
     go_round
     case rel => exact ⟨j + 1 + 1, by omega, by go_num, Lib.hid (by rw [HX.out, take_snoc' HQ.out, List.getLast?_concat, setErrG_next HY.out (by omega) (by omega), take_snoc' HY.out, List.getLast?_concat])⟩
     case measure => simp [intOf]; omega
  ·have hf : r = 0 := by rw [HX.out, setErrG_end (by have := HL.out; omega)]
   have HF := Lib.hid hf; clear hf
   go_wp2
   go_ret
   exact ⟨ret_int HF.out.symm, rfl⟩
end Go.Proofs.YtioijhpbedmeaaaGreatDoor

/- Walks: automaton.checkEdges, automaton.Check. -/
namespace Go.Proofs.YtioijhpbedmeaaaGreatDoor
open Go.RowKit Go

theorem box_cells {w wr : World} {us : List Value} {t : TypeId} (hb : Below (w.heap.size + 1) (w.alloc (.cells us.toArray t)) wr) {j : Nat} {u : Value} (hj : us[j]? = some u) : wr.cell? ⟨w.heap.size, j, none⟩ = some u := by
 rw [hb.cell (p := ⟨w.heap.size, j, none⟩) (Nat.lt_succ_self _), cell_of_row _ _ _ _ t (0, 0) (heap_alloc_new w _)]
 simpa using hj
theorem box_below (w : World) (o : Obj) : Below w.heap.size w (w.alloc o) := (Below.refl _ _).alloc (Nat.le_refl _) _


set_option maxRecDepth 100000 in
set_option maxHeartbeats 1600000 in
theorem automaton_checkEdges (A : Option Addr) (na ca : Nat) (M : Option Addr) (nm cm : Nat) (E : Option Addr) (ne ce : Nat) (a : Aut) (r : Int) (w : World) (h : AutR w w.heap.size A na ca M nm cm E ne ce a) (hr : edErr a.st a.al a.ed = r) :
  Calls Tryz.prog 94 #[.agg #[.slice A na ca, .int .i64 a.st, .slice M nm cm, .slice E ne ce]] w fun e w' => e = .returned (.int .i64 r) ∧ Below w.heap.size w w' := by
 obtain ⟨hla, hac, hcA, hA, hlm, hmc, hcM, hM, hle, hec, hcE, hE⟩ := h
 obtain ⟨al, st, ma, ed⟩ := a
 simp only at hla hA hlm hM hle hE hr ⊢
 have hB0 := box_below w (.cells #[.slice A na ca, .int .i64 st, .slice M nm cm, .slice E ne ce] 33)
 have HNA := Lib.hid hla; clear hla
 have HNM := Lib.hid hlm; clear hlm
 have HNE := Lib.hid hle; clear hle
 have HR := Lib.hid hr; clear hr
 go_enter Tryz.func94, Tryz.ntmps94
 go_wp2
 go_loopw [9] (fun i wr => ∃ k : Nat, k ≤ ne ∧ i = .int .i64 k ∧ Hid (r = edG st al (ed.take k).getLast? (ed.drop k)) ∧ Below (w.heap.size + 1) (w.alloc (.cells #[.slice A na ca, .int .i64 st, .slice M nm cm, .slice E ne ce] 33)) wr) (fun i _ => ne - (intOf i).toNat)
 case atStart => exact ⟨0, Nat.zero_le _, rfl, Lib.hid HR.out.symm, Below.refl _ _⟩
 case round =>
  obtain ⟨k, hk, rfl, HX, hbel⟩ := hrel
  clear HR
  have hsz : w.heap.size + 1 ≤ wr.heap.size := by have := hbel.size; simpa using this
  have hsz1 : w.heap.size ≤ wr.heap.size := by omega
  have hsz2 : w.heap.size < wr.heap.size := by omega
  have hbl := hB0.trans (hbel.mono (Nat.le_succ _))
  have c0 : wr.cell? ⟨w.heap.size, 0, none⟩ = some (.slice A na ca) := box_cells (us := [_, _, _, _]) hbel rfl
  have c1 : wr.cell? ⟨w.heap.size, 1, none⟩ = some (.int .i64 st) := box_cells (us := [_, _, _, _]) hbel rfl
  have c3 : wr.cell? ⟨w.heap.size, 3, none⟩ = some (.slice E ne ce) := box_cells (us := [_, _, _, _]) hbel rfl
  by_cases hlt : k < ne
  ·skip
   obtain ⟨ad, x, rfl, hbb, hx, q0, q1, q2⟩ := ((hE.below hbl).more hsz1).at_ (k := k) (by have := HNE.out; omega)
   have b1 : ((k : Nat) : Int) < (ne : Int) := by omega
   have p1 : wr.cell? ⟨(ad.add (k * 3)).block, (ad.add (k * 3)).off + 1, none⟩ = some (.int .i64 x.e) := st_cells (j := 0) q1
   have p2 : wr.cell? ⟨(ad.add (k * 3)).block, (ad.add (k * 3)).off + 2, none⟩ = some (.int .i64 x.t) := st_cells (j := 1) q2
   clear q1 q2
   have hal : RdI (wr.alloc (.cells #[.int .i64 x.f, .int .i64 x.e, .int .i64 x.t] 49)) (wr.alloc (.cells #[.int .i64 x.f, .int .i64 x.e, .int .i64 x.t] 49)).heap.size A al := ((hA.below hbl).after (box_below wr _) hsz1).more (by simp; omega)
   have HAL := Lib.hid hal
   clear hal
   have HGX := Lib.hid hx; clear hx
   by_cases ho : edOut st x
   ·have HB := Lib.hid (show r = 2 by rw [HX.out, edG_out HGX.out ho])
    have HO := Lib.hid ho; clear ho
    go_wp2_with fail
    all_goals first
     | (go_ret; exact ⟨ret_int HB.out.symm, hbl.alloc hsz1 _⟩)
     | (exfalso; have := HO.out; unfold edOut at this; omega)
   have ho' : 0 ≤ x.f ∧ x.f < st ∧ 0 ≤ x.t ∧ x.t < st := by unfold edOut at ho; omega
   obtain ⟨o1, o2, o3, o4⟩ := ho'
   have HO := Lib.hid ho; clear ho
   cases hh : hasB al x.e with
   | false =>
    have HB := Lib.hid (show r = 9 by rw [HX.out, edG_unknown HGX.out HO.out hh])
    have HH := Lib.hid hh; clear hh
    go_wp2_with fail
    refine (slices_Contains A ca na al x.e false _ HNA.out HH.out HAL.out hac hcA).mono ?_
    rintro e w' ⟨rfl, rfl⟩
    go_wp2
    go_ret
    exact ⟨ret_int HB.out.symm, hbl.alloc hsz1 _⟩
   | true =>
    have HH := Lib.hid hh; clear hh
    cases k with
    | zero =>
     simp only [Nat.zero_mul, add_zero'] at q0 p1 p2
     have HS := Lib.hid (show r = edG st al (ed.take 1).getLast? (ed.drop 1) by rw [HX.out, take_snoc' HGX.out, List.getLast?_concat]; exact edG_first HGX.out HO.out HH.out)
     go_wp2_with fail
     refine (slices_Contains A ca na al x.e true _ HNA.out HH.out HAL.out hac hcA).mono ?_
     rintro e w' ⟨rfl, rfl⟩
     go_wp2
     go_roundw
     case rel => exact ⟨1, by omega, by go_num, HS, hbel.alloc hsz _⟩
     case measure => simp [intOf]; omega
    | succ j =>
     obtain ⟨ad', y, e, _, hy, g0, g1, g2⟩ := ((hE.below hbl).after (box_below wr (.cells #[.int .i64 x.f, .int .i64 x.e, .int .i64 x.t] 49)) hsz1).at_ (k := j) (by have := HNE.out; omega)
     obtain rfl : ad = ad' := by injection e
     have b2 : (j : Int) < (ne : Int) := by omega
     have r1 : (wr.alloc (.cells #[.int .i64 x.f, .int .i64 x.e, .int .i64 x.t] 49)).cell? ⟨(ad.add (j * 3)).block, (ad.add (j * 3)).off + 1, none⟩ = some (.int .i64 y.e) := st_cells (j := 0) g1
     have r2 : (wr.alloc (.cells #[.int .i64 x.f, .int .i64 x.e, .int .i64 x.t] 49)).cell? ⟨(ad.add (j * 3)).block, (ad.add (j * 3)).off + 2, none⟩ = some (.int .i64 y.t) := st_cells (j := 1) g2
     clear g1 g2
     have HY := Lib.hid hy; clear hy
     by_cases hl : edLe x y
     ·have HB := Lib.hid (show r = 5 by rw [HX.out, take_snoc' HY.out, List.getLast?_concat]; exact edG_order HGX.out HO.out HH.out hl)
      have HLE := Lib.hid hl; clear hl
      go_wp2_with fail
      refine (slices_Contains A ca na al x.e true _ HNA.out HH.out HAL.out hac hcA).mono ?_
      rintro e w' ⟨rfl, rfl⟩
      go_wp2
      all_goals first
       | (exfalso; have := HLE.out; unfold edLe at this; omega)
       | (go_ret; exact ⟨ret_int HB.out.symm, (hbl.alloc hsz1 _).alloc (by simp; omega) _⟩)
     ·have HS := Lib.hid (show r = edG st al (ed.take (j + 1 + 1)).getLast? (ed.drop (j + 1 + 1)) by rw [HX.out, take_snoc' HY.out, List.getLast?_concat, edG_next HGX.out HO.out HH.out hl, take_snoc' HGX.out, List.getLast?_concat])
      have HLE := Lib.hid hl; clear hl
      go_wp2_with fail
      refine (slices_Contains A ca na al x.e true _ HNA.out HH.out HAL.out hac hcA).mono ?_
      rintro e w' ⟨rfl, rfl⟩
      go_wp2
      all_goals first
       | (exfalso; have := HLE.out; unfold edLe at this; omega)
       | skip
      all_goals
       go_roundw
       case rel => exact ⟨j + 1 + 1, by omega, by go_num, HS, (hbel.alloc hsz _).alloc (by simp; omega) _⟩
       case measure => simp [intOf]; omega
  ·have hf : r = 0 := by rw [HX.out, edG_end (by have := HNE.out; omega)]
   have HF := Lib.hid hf; clear hf
   go_wp2
   go_ret
   exact ⟨ret_int HF.out.symm, hbl⟩

theorem automaton_Check (A : Option Addr) (na ca : Nat) (M : Option Addr) (nm cm : Nat) (E : Option Addr) (ne ce : Nat) (a : Aut) (w : World) (h : AutR w w.heap.size A na ca M nm cm E ne ce a) :
  Calls Tryz.prog 58 #[.agg #[.slice A na ca, .int .i64 a.st, .slice M nm cm, .slice E ne ce]] w fun e w' => e = .returned (.int .i64 (chkA a)) ∧ Below w.heap.size w w' := by
 have hB0 := box_below w (.cells #[.slice A na ca, .int .i64 a.st, .slice M nm cm, .slice E ne ce] 33)
 have h1 : AutR (w.alloc (.cells #[.slice A na ca, .int .i64 a.st, .slice M nm cm, .slice E ne ce] 33)) (w.alloc (.cells #[.slice A na ca, .int .i64 a.st, .slice M nm cm, .slice E ne ce] 33)).heap.size A na ca M nm cm E ne ce a := (h.below hB0).more hB0.size
 have HE := Lib.hid (automaton_checkEdges A na ca M nm cm E ne ce a (edErr a.st a.al a.ed) _ h1 rfl)
 have HA := Lib.hid (automaton_checkSet A ca na a.al 32 (setErr a.al 32) _ h1.la rfl h1.ra h1.ac h1.cA)
 have HM := Lib.hid (automaton_checkSet M cm nm a.ma a.st (setErr a.ma a.st) _ h1.lm rfl h1.rm h1.mc h1.cM)
 clear h1 h
 obtain ⟨al, st, ma, ed⟩ := a
 simp only at HE HA HM ⊢
 by_cases c1 : setErr al 32 = 0
 ·by_cases c2 : st < 0
  ·have HR := Lib.hid (chkA_neg (a := ⟨al, st, ma, ed⟩) c1 c2)
   rw [c1] at HA
   clear c1 HE HM
   go_enter Tryz.func58, Tryz.ntmps58
   go_wp2_with fail
   refine HA.out.mono ?_
   rintro e w' ⟨rfl, rfl⟩
   go_wp2
   go_ret
   exact ⟨ret_int HR.out.symm, hB0⟩
  by_cases c3 : 4096 < st
  ·have HR := Lib.hid (chkA_many (a := ⟨al, st, ma, ed⟩) c1 c2 c3)
   rw [c1] at HA
   clear c1 HE HM
   have c2' : 0 ≤ st := by omega
   go_enter Tryz.func58, Tryz.ntmps58
   go_wp2_with fail
   refine HA.out.mono ?_
   rintro e w' ⟨rfl, rfl⟩
   go_wp2
   go_ret
   exact ⟨ret_int HR.out.symm, hB0⟩
  have c2' : 0 ≤ st := by omega
  have c3' : st ≤ 4096 := by omega
  by_cases c4 : setErr ma st = 0
  ·have HR := Lib.hid (chkA_ed (a := ⟨al, st, ma, ed⟩) c1 c2 c3 c4)
   rw [c1] at HA
   rw [c4] at HM
   clear c1 c2 c3 c4
   generalize edErr st al ed = r at *
   go_enter Tryz.func58, Tryz.ntmps58
   go_wp2_with fail
   refine HA.out.mono ?_
   rintro e w' ⟨rfl, rfl⟩
   go_wp2_with fail
   refine HM.out.mono ?_
   rintro e w' ⟨rfl, rfl⟩
   go_wp2_with fail
   refine HE.out.mono ?_
   rintro e w1 ⟨rfl, hb⟩
   go_wp2
   go_ret
   exact ⟨ret_int HR.out.symm, hB0.trans (hb.mono hB0.size)⟩
  ·have HR := Lib.hid (chkA_mk (a := ⟨al, st, ma, ed⟩) c1 c2 c3 c4)
   rw [c1] at HA
   have q1 : (setErr ma st != 0) = true := by simpa using c4
   clear c1 c2 c3 c4 HE
   generalize setErr ma st = r at *
   go_enter Tryz.func58, Tryz.ntmps58
   go_wp2_with fail
   refine HA.out.mono ?_
   rintro e w' ⟨rfl, rfl⟩
   go_wp2_with fail
   refine HM.out.mono ?_
   rintro e w' ⟨rfl, rfl⟩
   go_wp2
   go_ret
   exact ⟨ret_int HR.out.symm, hB0⟩
 ·have HR := Lib.hid (chkA_al (a := ⟨al, st, ma, ed⟩) c1)
  have q1 : (setErr al 32 != 0) = true := by simpa using c1
  clear c1 HE HM
  simp only at HR
  generalize setErr al 32 = r at *
  go_enter Tryz.func58, Tryz.ntmps58
  go_wp2_with fail
  refine HA.out.mono ?_
  rintro e w' ⟨rfl, rfl⟩
  go_wp2
  go_ret
  exact ⟨ret_int HR.out.symm, hB0⟩
end Go.Proofs.YtioijhpbedmeaaaGreatDoor

/- Walks: alphabet.merge for Union; product.events, Check, Alphabet. -/
namespace Go.Proofs.YtioijhpbedmeaaaGreatDoor
open Go.RowKit Go

def lnV : Value → Nat | .slice _ n _ => n | _ => 0
theorem Union_1 (x y z : Bool) (h : (x || y) = z) (w : World) : Calls Tryz.prog 122 #[.bool x, .bool y] w fun e w' => e = .returned (.bool z) ∧ w = w' := by
 cases x with
 | true =>
  have hz : z = true := by rw [← h]; rfl
  subst hz
  clear h
  go_enter Tryz.func122, Tryz.ntmps122
  go_wp2
  go_ret
  exact ⟨rfl, rfl⟩
 | false =>
  have hz : z = y := by rw [← h]; rfl
  subst hz
  clear h
  go_enter Tryz.func122, Tryz.ntmps122
  go_wp2
  go_ret
  exact ⟨rfl, rfl⟩

theorem own_drewN {w : World} {base : Nat} {e : TypeId} {size n : Nat} {v : Value} {xs : List Value} (h : w.ownsRow base e size v n xs) (k : Nat) : (w.drewN k).ownsRow base e size v n xs := h

set_option maxRecDepth 100000 in
set_option maxHeartbeats 3200000 in
theorem alphabet_merge (A B : Option Addr) (na nb ca cb : Nat) (a b : List Int) (w : World) (hla : a.length = na) (ha : RdI w w.heap.size A a) (ha1 : na ≤ ca) (ha2 : ca ≤ 9223372036854775807) (hlb : b.length = nb) (hb : RdI w w.heap.size B b) (hb1 : nb ≤ cb) (hb2 : cb ≤ 9223372036854775807) (hn : na + nb ≤ 1000000) :
  Calls Tryz.prog 91 #[.slice A na ca, .slice B nb cb, .func (.func 122) #[] #[]] w (RetO 3 (mrg a b) w) := by
 have eg : ∀ args w, (callFunc 122 args).run Tryz.prog w = .ok (.enter 122 args) w := enters_of Tryz.func122 (by kernel_rfl) rfl
 have hm0 : mrg a b = [] ++ mrgN (na + nb) a b := by subst hla hlb; rfl
 have HM0 := Lib.hid hm0; clear hm0
 have HLA := Lib.hid hla; clear hla
 have HLB := Lib.hid hlb; clear hlb
 go_enter Tryz.func91, Tryz.ntmps91
 go_wp2
 go_loopw [0, 1, 7] (fun sa sb so wr => ∃ (A' B' : Option Addr) (p q kp kq N m : Nat) (l r acc : List Int), sa = .slice A' p kp ∧ sb = .slice B' q kq ∧ Hid (l.length = p) ∧ Hid (r.length = q) ∧ p ≤ kp ∧ kp ≤ 9223372036854775807 ∧ q ≤ kq ∧ kq ≤ 9223372036854775807 ∧
   RdI w w.heap.size A' l ∧ RdI w w.heap.size B' r ∧ Hid (acc.length = m) ∧ m + (p + q) ≤ 1000000 ∧ p + q ≤ N ∧ Hid (mrg a b = acc ++ mrgN N l r) ∧ Hid (wr.ownsRow w.heap.size 3 1 so m (iv acc)) ∧ Below w.heap.size w wr) (fun sa sb _ _ => lnV sa + lnV sb)
 case atStart => exact ⟨A, B, na, nb, ca, cb, na + nb, 0, a, b, [], rfl, rfl, HLA, HLB, ha1, ha2, hb1, hb2, ha, hb, Lib.hid rfl, by omega, Nat.le_refl _, HM0, World.ownsRow_nil _ _ _ _, Below.refl _ _⟩
 case round =>
  clear ha ha1 ha2 hb hb1 hb2 HLA HLB HM0
  obtain ⟨A', B', p, q, kp, kq, N, m, l, r, acc, rfl, rfl, HL, HR, hp, hkp, hq, hkq, hrl, hrr, HACC, hmn, hN, HM, HO, hbel⟩ := hrel
  have hsz := hbel.size
  by_cases h0 : p = 0
  ·subst h0
   by_cases h1 : q = 0
   ·subst h1
    have hfin : mrg a b = acc := by
     rw [HM.out, List.eq_nil_of_length_eq_zero HL.out, List.eq_nil_of_length_eq_zero HR.out]
     cases N <;> simp [mrgN]
    have HFIN := Lib.hid hfin; clear hfin
    go_wp2
    go_ret
    rw [HFIN.out]
    exact ⟨_, rfl, by rw [HACC.out]; exact HO.out, hbel⟩
   ·obtain ⟨M, rfl⟩ : ∃ M, N = M + 1 := ⟨N - 1, by omega⟩
    obtain ⟨bd, y, rfl, hbd, hy, hcy⟩ := hrr.at_ (k := 0) (by have := HR.out; omega)
    rw [add_zero'] at hcy
    have hcy' := (hbel.cell (p := bd) hbd).trans hcy
    obtain ⟨B1, hsb, hrb⟩ := slice_tail (P := Tryz.prog) 30 3 Tryz.underlying30 (by kernel_rfl) w w.heap.size (some bd) r q kq HR.out (by omega) hq hrr
    have b4 : (0 : Int) < (q : Int) := by omega
    have b5 : (1 : Int) ≤ (q : Int) := by omega
    have b6 : 0 < q := by omega
    clear hcy hrr h1
    have HX := Lib.hid (show mrg a b = (acc ++ [y]) ++ mrgN M l (r.drop 1) by
     rw [HM.out]
     have := mrgN_b (a := l) (b := r) (i := 0) (j := 0) (n := M) (by rw [HL.out]; omega) hy
     simp only [List.drop_zero] at this
     rw [this]; simp)
    have HL2 := Lib.hid (show (r.drop 1).length = q - 1 by rw [List.length_drop, HR.out])
    have HGY := Lib.hid hy; clear hy
    go_wp2
    go_quiet (fail)
    go_wp2
    go_quiet (fail)
    go_wp2
    go_quiet (fail)
    go_wp2_with fail
    refine (Union_1 false true true rfl _).mono ?_
    rintro e w' ⟨rfl, rfl⟩
    go_wp2_with (at_builtin; refine wpList_push _ (.int .i64 y) rfl (.tmp 69) (.tmp 71) 30 rfl w.heap.size 3 (.int .i64 0) 8 Tryz.underlying30 int_info rfl u7 m _ rfl (own_drewN HO.out _) rfl rfl (by omega) (by omega) hsz ?_; intro v' w' ho' hg' hb1)
    go_roundw
    case rel => exact ⟨A', B1, 0, q - 1, kp, kq - 1, M, m + 1, l, r.drop 1, acc ++ [y], rfl, rfl, HL, HL2, hp, hkp, by omega, by omega, hrl, hrb, Lib.hid (by rw [List.length_append, HACC.out]; rfl), by omega, by omega, HX, Lib.hid (by rw [iv_append]; exact ho'), hbel.trans (below_undrewN hb1)⟩
    case measure => simp [lnV]; omega
  ·obtain ⟨M, rfl⟩ : ∃ M, N = M + 1 := ⟨N - 1, by omega⟩
   obtain ⟨ad, x, rfl, had, hx, hcx⟩ := hrl.at_ (k := 0) (by have := HL.out; omega)
   rw [add_zero'] at hcx
   have hcx' := (hbel.cell (p := ad) had).trans hcx
   obtain ⟨A1, hsa, hra⟩ := slice_tail (P := Tryz.prog) 30 3 Tryz.underlying30 (by kernel_rfl) w w.heap.size (some ad) l p kp HL.out (by omega) hp hrl
   have b1 : (0 : Int) < (p : Int) := by omega
   have b2 : (1 : Int) ≤ (p : Int) := by omega
   have b3 : 0 < p := by omega
   have HL1 := Lib.hid (show (l.drop 1).length = p - 1 by rw [List.length_drop, HL.out])
   clear hcx h0
   by_cases h1 : q = 0
   ·subst h1
    clear hrl
    have HX := Lib.hid (show mrg a b = (acc ++ [x]) ++ mrgN M (l.drop 1) r by
     rw [HM.out]
     have := mrgN_a (a := l) (b := r) (i := 0) (j := 0) (n := M) hx (by rw [HR.out]; omega)
     simp only [List.drop_zero] at this
     rw [this]; simp)
    have HGX := Lib.hid hx; clear hx
    go_wp2
    go_quiet (fail)
    go_wp2
    go_quiet (fail)
    go_wp2
    go_quiet (fail)
    go_wp2_with fail
    refine (Union_1 true false true rfl _).mono ?_
    rintro e w' ⟨rfl, rfl⟩
    go_wp2_with (at_builtin; refine wpList_push _ (.int .i64 x) rfl (.tmp 69) (.tmp 71) 30 rfl w.heap.size 3 (.int .i64 0) 8 Tryz.underlying30 int_info rfl u7 m _ rfl (own_drewN HO.out _) rfl rfl (by omega) (by omega) hsz ?_; intro v' w' ho' hg' hb1)
    go_roundw
    case rel => exact ⟨A1, B', p - 1, 0, kp - 1, kq, M, m + 1, l.drop 1, r, acc ++ [x], rfl, rfl, HL1, HR, by omega, by omega, hq, hkq, hra, hrr, Lib.hid (by rw [List.length_append, HACC.out]; rfl), by omega, by omega, HX, Lib.hid (by rw [iv_append]; exact ho'), hbel.trans (below_undrewN hb1)⟩
    case measure => simp [lnV]; omega
   ·obtain ⟨bd, y, rfl, hbd, hy, hcy⟩ := hrr.at_ (k := 0) (by have := HR.out; omega)
    rw [add_zero'] at hcy
    have hcy' := (hbel.cell (p := bd) hbd).trans hcy
    obtain ⟨B1, hsb, hrb⟩ := slice_tail (P := Tryz.prog) 30 3 Tryz.underlying30 (by kernel_rfl) w w.heap.size (some bd) r q kq HR.out (by omega) hq hrr
    have b4 : (0 : Int) < (q : Int) := by omega
    have b5 : (1 : Int) ≤ (q : Int) := by omega
    have b6 : 0 < q := by omega
    have b7 : ((p : Int) == 0) = false := by rw [beq_eq_false_iff_ne]; omega
    have b8 : ((q : Int) == 0) = false := by rw [beq_eq_false_iff_ne]; omega
    have HL2 := Lib.hid (show (r.drop 1).length = q - 1 by rw [List.length_drop, HR.out])
    clear hcy h1
    rcases Int.lt_trichotomy x y with hxy | hxy | hxy
    ·have HX := Lib.hid (show mrg a b = (acc ++ [x]) ++ mrgN M (l.drop 1) r by
      rw [HM.out]
      have := mrgN_lt (a := l) (b := r) (i := 0) (j := 0) (n := M) hx hy hxy
      simp only [List.drop_zero] at this
      rw [this]; simp)
     have d1 : decide (x ≤ y) = true := decide_eq_true (by omega)
     have d2 : decide (y ≤ x) = false := decide_eq_false (by omega)
     have HGX := Lib.hid hx; clear hx
     have HGY := Lib.hid hy; clear hy
     clear hrl
     go_wp2
     go_quiet (fail)
     go_wp2
     go_quiet (fail)
     go_wp2
     go_quiet (fail)
     go_wp2_with fail
     refine (Union_1 true false true rfl _).mono ?_
     rintro e w' ⟨rfl, rfl⟩
     go_wp2_with (at_builtin; refine wpList_push _ (.int .i64 x) rfl (.tmp 69) (.tmp 71) 30 rfl w.heap.size 3 (.int .i64 0) 8 Tryz.underlying30 int_info rfl u7 m _ rfl (own_drewN HO.out _) rfl rfl (by omega) (by omega) hsz ?_; intro v' w' ho' hg' hb1)
     go_roundw
     case rel => exact ⟨A1, some bd, p - 1, q, kp - 1, kq, M, m + 1, l.drop 1, r, acc ++ [x], rfl, rfl, HL1, HR, by omega, by omega, hq, hkq, hra, hrr, Lib.hid (by rw [List.length_append, HACC.out]; rfl), by omega, by omega, HX, Lib.hid (by rw [iv_append]; exact ho'), hbel.trans (below_undrewN hb1)⟩
     case measure => simp [lnV]; omega
    ·subst hxy
     have HX := Lib.hid (show mrg a b = (acc ++ [x]) ++ mrgN M (l.drop 1) (r.drop 1) by
      rw [HM.out]
      have := mrgN_eq (a := l) (b := r) (i := 0) (j := 0) (n := M) hx hy
      simp only [List.drop_zero] at this
      rw [this]; simp)
     have HGX := Lib.hid hx; clear hx
     have HGY := Lib.hid hy; clear hy
     clear hrl hrr
     go_wp2
     go_quiet (fail)
     go_wp2
     go_quiet (fail)
     go_wp2
     go_quiet (fail)
     go_wp2
     go_quiet (fail)
     go_wp2_with fail
     refine (Union_1 true true true rfl _).mono ?_
     rintro e w' ⟨rfl, rfl⟩
     go_wp2_with (at_builtin; refine wpList_push _ (.int .i64 x) rfl (.tmp 69) (.tmp 71) 30 rfl w.heap.size 3 (.int .i64 0) 8 Tryz.underlying30 int_info rfl u7 m _ rfl (own_drewN HO.out _) rfl rfl (by omega) (by omega) hsz ?_; intro v' w' ho' hg' hb1)
     go_roundw
     case rel => exact ⟨A1, B1, p - 1, q - 1, kp - 1, kq - 1, M, m + 1, l.drop 1, r.drop 1, acc ++ [x], rfl, rfl, HL1, HL2, by omega, by omega, by omega, by omega, hra, hrb, Lib.hid (by rw [List.length_append, HACC.out]; rfl), by omega, by omega, HX, Lib.hid (by rw [iv_append]; exact ho'), hbel.trans (below_undrewN hb1)⟩
     case measure => simp [lnV]; omega
    ·have HX := Lib.hid (show mrg a b = (acc ++ [y]) ++ mrgN M l (r.drop 1) by
      rw [HM.out]
      have := mrgN_gt (a := l) (b := r) (i := 0) (j := 0) (n := M) hx hy hxy
      simp only [List.drop_zero] at this
      rw [this]; simp)
     have d1 : decide (x ≤ y) = false := decide_eq_false (by omega)
     have d2 : decide (y ≤ x) = true := decide_eq_true (by omega)
     have HGX := Lib.hid hx; clear hx
     have HGY := Lib.hid hy; clear hy
     clear hrr
     go_wp2
     go_quiet (fail)
     go_wp2
     go_quiet (fail)
     go_wp2
     go_quiet (fail)
     go_wp2_with fail
     refine (Union_1 false true true rfl _).mono ?_
     rintro e w' ⟨rfl, rfl⟩
     go_wp2_with (at_builtin; refine wpList_push _ (.int .i64 y) rfl (.tmp 69) (.tmp 71) 30 rfl w.heap.size 3 (.int .i64 0) 8 Tryz.underlying30 int_info rfl u7 m _ rfl (own_drewN HO.out _) rfl rfl (by omega) (by omega) hsz ?_; intro v' w' ho' hg' hb1)
     go_roundw
     case rel => exact ⟨some ad, B1, p, q - 1, kp, kq - 1, M, m + 1, l, r.drop 1, acc ++ [y], rfl, rfl, HL, HL2, hp, hkp, by omega, by omega, hrl, hrb, Lib.hid (by rw [List.length_append, HACC.out]; rfl), by omega, by omega, HX, Lib.hid (by rw [iv_append]; exact ho'), hbel.trans (below_undrewN hb1)⟩
     case measure => simp [lnV]; omega
end Go.Proofs.YtioijhpbedmeaaaGreatDoor

/- Walks: alphabet.Union; product.events, Check, Alphabet. -/
namespace Go.Proofs.YtioijhpbedmeaaaGreatDoor
open Go.RowKit Go

theorem alphabet_Union (A B : Option Addr) (na nb ca cb : Nat) (a b : List Int) (w : World) (hla : a.length = na) (ha : RdI w w.heap.size A a) (ha1 : na ≤ ca) (ha2 : ca ≤ 9223372036854775807) (hlb : b.length = nb) (hb : RdI w w.heap.size B b) (hb1 : nb ≤ cb) (hb2 : cb ≤ 9223372036854775807) (hn : na + nb ≤ 1000000) :
  Calls Tryz.prog 114 #[.slice A na ca, .slice B nb cb] w (RetO 3 (mrg a b) w) := by
 have HC := Lib.hid (alphabet_merge A B na nb ca cb a b w hla ha ha1 ha2 hlb hb hb1 hb2 hn)
 clear hla hlb
 go_enter Tryz.func114, Tryz.ntmps114
 go_wp2_with fail
 refine HC.out.mono ?_
 rintro e w' ⟨v, rfl, ho, hb'⟩
 go_wp2
 go_ret
 exact ⟨v, rfl, ho, hb'⟩


set_option maxRecDepth 100000 in
set_option maxHeartbeats 1600000 in
theorem product_events (A : Option Addr) (c n : Nat) (xs : List AV) (w : World) (hl : xs.length = n) (h : RdL w w.heap.size A xs) (hc1 : n ≤ c) (hc2 : c ≤ 9223372036854775807) (hw : ∀ a ∈ xs.map AV.a, WF a) :
  Calls Tryz.prog 103 #[.slice A n c] w (RetO 3 (evs (xs.map AV.a)) w) := by
 have HL := Lib.hid hl; clear hl
 have HW := Lib.hid hw; clear hw
 go_enter Tryz.func103, Tryz.ntmps103
 go_wp2
 go_loopw [3, 8] (fun so i wr => ∃ (k m : Nat) (o : List Int), k ≤ n ∧ i = .int .i64 k ∧ Hid (o = evs ((xs.map AV.a).take k)) ∧ Hid (o.length = m) ∧ m ≤ 32 ∧ Hid (wr.ownsRow w.heap.size 3 1 so m (iv o)) ∧ Below w.heap.size w wr) (fun _ i _ => n - (intOf i).toNat)
 case atStart => exact ⟨0, 0, [], Nat.zero_le _, rfl, Lib.hid rfl, Lib.hid rfl, by omega, World.ownsRow_nil _ _ _ _, Below.refl _ _⟩
 case round =>
  obtain ⟨k, m, o, hk, rfl, HOE, HM, hm, HO, hbel⟩ := hrel
  have hsz := hbel.size
  by_cases hlt : k < n
  ·skip
   obtain ⟨ad, A', na, ca, M, nm, cm, E, ne, ce, a, rfl, hbb, hx, q0, q1, q2, q3, haR⟩ := ((h.below hbel).more hsz).at_ (k := k) (by have := HL.out; omega)
   have b1 : (k : Int) < (n : Int) := by omega
   have p1 : wr.cell? ⟨(ad.add (k * 4)).block, (ad.add (k * 4)).off + 1, none⟩ = some (.int .i64 a.st) := st_cells (j := 0) q1
   have p2 : wr.cell? ⟨(ad.add (k * 4)).block, (ad.add (k * 4)).off + 2, none⟩ = some (.slice M nm cm) := st_cells (j := 1) q2
   have p3 : wr.cell? ⟨(ad.add (k * 4)).block, (ad.add (k * 4)).off + 3, none⟩ = some (.slice E ne ce) := st_cells (j := 2) q3
   clear q1 q2 q3
   have hxa : (xs.map AV.a)[k]? = some a := by simp [hx]
   have hO := HO.out
   rw [← HM.out] at hO
   obtain ⟨A3, c3, rfl, g1, g2, g3⟩ := own_slI hO
   rw [HM.out] at g1
   have hm' : o.length = m := HM.out
   rw [hm'] at *
   have hwa := HW.out a (List.mem_of_getElem? hxa)
   have h32 := hwa.al_le
   rw [haR.la] at h32
   have hal := (haR.ra.after (box_below wr (.cells #[.slice A' na ca, .int .i64 a.st, .slice M nm cm, .slice E ne ce] 33)) (Nat.le_refl _)).more (box_below wr (.cells #[.slice A' na ca, .int .i64 a.st, .slice M nm cm, .slice E ne ce] 33)).size
   have g3' := (g3.after (box_below wr (.cells #[.slice A' na ca, .int .i64 a.st, .slice M nm cm, .slice E ne ce] 33)) (Nat.le_refl _)).more (box_below wr (.cells #[.slice A' na ca, .int .i64 a.st, .slice M nm cm, .slice E ne ce] 33)).size
   have HU := Lib.hid (alphabet_Union A3 A' m na c3 ca o a.al _ HM.out g3' g1 g2 haR.la hal haR.ac haR.cA (by omega))
   have HS := Lib.hid (show mrg o a.al = evs ((xs.map AV.a).take (k + 1)) by rw [evs_snoc hxa, HOE.out])
   have hle := evs_le (take_wf HW.out (k + 1))
   rw [← HS.out] at hle
   have HB := Lib.hid (hbel.alloc hsz (.cells #[.slice A' na ca, .int .i64 a.st, .slice M nm cm, .slice E ne ce] 33))
   have HLE := Lib.hid hle
   have HXA := Lib.hid hxa; clear hxa
   have HX := Lib.hid hx; clear hx
   have HWA := Lib.hid hwa; clear hwa
   clear hal g3' g3 hO hm' hle haR
   go_wp2_with fail
   refine HU.out.mono ?_
   rintro e w' ⟨v, rfl, ho, hb'⟩
   go_wp2
   go_roundw
   case rel =>
    have hb2 := HB.out.trans (hb'.mono HB.out.size)
    exact ⟨k + 1, _, mrg o a.al, by omega, by go_num, HS, Lib.hid rfl, HLE.out, Lib.hid (own_base ho HB.out.size), hb2⟩
   case measure => simp [intOf]; omega
  ·obtain rfl : k = n := by omega
   have hfin : evs (xs.map AV.a) = o := by rw [HOE.out, List.take_of_length_le (by rw [List.length_map, HL.out]; exact Nat.le_refl _)]
   have HF := Lib.hid hfin; clear hfin
   go_wp2
   go_ret
   rw [HF.out]
   exact ⟨_, rfl, by rw [HM.out]; exact HO.out, hbel⟩

set_option maxRecDepth 100000 in
set_option maxHeartbeats 1600000 in
theorem product_Check (A : Option Addr) (c n : Nat) (xs : List AV) (w : World) (hl : xs.length = n) (h : RdL w w.heap.size A xs) (hc1 : n ≤ c) (hc2 : c ≤ 9223372036854775807) :
  Calls Tryz.prog 74 #[.slice A n c] w fun e w' => e = .returned (.int .i64 (chkL (xs.map AV.a))) ∧ Below w.heap.size w w' := by
 obtain ⟨r, hr⟩ : ∃ r, chkL (xs.map AV.a) = r := ⟨_, rfl⟩
 rw [hr]
 by_cases h12 : 12 < n
 ·have hr2 : r = 3 := by rw [← hr]; unfold chkL; rw [if_pos (by rw [List.length_map]; omega)]
  subst hr2
  clear hr hl
  have h13 : (12 : Int) < (n : Int) := by omega
  go_enter Tryz.func74, Tryz.ntmps74
  go_wp2
  go_ret
  exact ⟨rfl, Below.refl _ _⟩
 have h13 : decide ((12 : Int) < (n : Int)) = false := decide_eq_false (by omega)
 have h14 : decide (12 < n) = false := decide_eq_false h12
 have hr0 : r = chkLG ((xs.map AV.a).drop 0) := by rw [← hr]; unfold chkL; rw [if_neg (by rw [List.length_map]; omega)]; rfl
 have HR := Lib.hid hr0; clear hr0
 have HL := Lib.hid hl; clear hl
 clear hr h12
 go_enter Tryz.func74, Tryz.ntmps74
 go_wp2
 go_loopw [11] (fun i wr => ∃ k : Nat, k ≤ n ∧ i = .int .i64 k ∧ Hid (r = chkLG ((xs.map AV.a).drop k)) ∧ Below w.heap.size w wr) (fun i _ => n - (intOf i).toNat)
 case atStart => exact ⟨0, Nat.zero_le _, rfl, HR, Below.refl _ _⟩
 case round =>
  obtain ⟨k, hk, rfl, HX, hbel⟩ := hrel
  clear HR
  have hsz := hbel.size
  by_cases hlt : k < n
  ·skip
   obtain ⟨ad, A', na, ca, M, nm, cm, E, ne, ce, a, rfl, hbb, hx, q0, q1, q2, q3, haR⟩ := ((h.below hbel).more hsz).at_ (k := k) (by have := HL.out; omega)
   have b1 : (k : Int) < (n : Int) := by omega
   have p1 : wr.cell? ⟨(ad.add (k * 4)).block, (ad.add (k * 4)).off + 1, none⟩ = some (.int .i64 a.st) := st_cells (j := 0) q1
   have p2 : wr.cell? ⟨(ad.add (k * 4)).block, (ad.add (k * 4)).off + 2, none⟩ = some (.slice M nm cm) := st_cells (j := 1) q2
   have p3 : wr.cell? ⟨(ad.add (k * 4)).block, (ad.add (k * 4)).off + 3, none⟩ = some (.slice E ne ce) := st_cells (j := 2) q3
   clear q1 q2 q3
   have hxa : (xs.map AV.a)[k]? = some a := by simp [hx]
   have hB := box_below wr (.cells #[.slice A' na ca, .int .i64 a.st, .slice M nm cm, .slice E ne ce] 33)
   have HU := Lib.hid (automaton_Check A' na ca M nm cm E ne ce a _ ((haR.after hB (Nat.le_refl _)).more hB.size))
   have HB := Lib.hid (hbel.alloc hsz (.cells #[.slice A' na ca, .int .i64 a.st, .slice M nm cm, .slice E ne ce] 33))
   clear haR hB
   by_cases hz : chkA a = 0
   ·have HS := Lib.hid (show r = chkLG ((xs.map AV.a).drop (k + 1)) by rw [HX.out, chkLG_go hxa hz])
    rw [hz] at HU
    have HXA := Lib.hid hxa; clear hxa
    have HXX := Lib.hid hx; clear hx
    have HZ := Lib.hid hz; clear hz
    go_wp2_with fail
    refine HU.out.mono ?_
    rintro e w' ⟨rfl, hb'⟩
    go_wp2
    go_roundw
    case rel => exact ⟨k + 1, by omega, by go_num, HS, HB.out.trans (hb'.mono HB.out.size)⟩
    case measure => simp [intOf]; omega
   ·have HS := Lib.hid (show r = chkA a by rw [HX.out, chkLG_stop hxa hz])
    have q1 : (chkA a != 0) = true := by simpa using hz
    have HXA := Lib.hid hxa; clear hxa
    have HXX := Lib.hid hx; clear hx
    have HZ := Lib.hid hz; clear hz
    generalize chkA a = z at HU HS q1
    go_wp2_with fail
    refine HU.out.mono ?_
    rintro e w' ⟨rfl, hb'⟩
    go_wp2
    go_ret
    exact ⟨ret_int HS.out.symm, HB.out.trans (hb'.mono HB.out.size)⟩
  ·have hf : r = 0 := by rw [HX.out, chkLG_end (by rw [List.length_map, HL.out]; exact hlt)]
   have HF := Lib.hid hf; clear hf
   go_wp2
   go_ret
   exact ⟨ret_int HF.out.symm, hbel⟩
end Go.Proofs.YtioijhpbedmeaaaGreatDoor

/- Walks: alphabet.merge at any choice; Intersect, Minus, Subset. -/
namespace Go.Proofs.YtioijhpbedmeaaaGreatDoor
open Go.RowKit Go

set_option maxRecDepth 100000 in
set_option maxHeartbeats 3200000 in
theorem alphabet_mergeK (F : Nat) (K : Bool → Bool → Bool) (eg : ∀ (args : Array Value) (w : World), (callFunc F args).run Tryz.prog w = .ok (.enter F args) w) (hk : ∀ (x y : Bool) (w : World), Calls Tryz.prog F #[.bool x, .bool y] w fun e w' => e = .returned (.bool (K x y)) ∧ w = w') (A B : Option Addr) (na nb ca cb : Nat) (a b : List Int) (w : World) (hla : a.length = na) (ha : RdI w w.heap.size A a) (ha1 : na ≤ ca) (ha2 : ca ≤ 9223372036854775807) (hlb : b.length = nb) (hb : RdI w w.heap.size B b) (hb1 : nb ≤ cb) (hb2 : cb ≤ 9223372036854775807) (hn : na + nb ≤ 1000000) :
  Calls Tryz.prog 91 #[.slice A na ca, .slice B nb cb, .func (.func F) #[] #[]] w (RetO 3 (mgK K a b) w) := by
 have HKK := Lib.hid hk; clear hk
 have hm0 : mgK K a b = [] ++ mgN K (na + nb) a b := by subst hla hlb; rfl
 have HM0 := Lib.hid hm0; clear hm0
 have HLA := Lib.hid hla; clear hla
 have HLB := Lib.hid hlb; clear hlb
 go_enter Tryz.func91, Tryz.ntmps91
 go_wp2
 go_loopw [0, 1, 7] (fun sa sb so wr => ∃ (A' B' : Option Addr) (p q kp kq N m : Nat) (l r acc : List Int), sa = .slice A' p kp ∧ sb = .slice B' q kq ∧ Hid (l.length = p) ∧ Hid (r.length = q) ∧ p ≤ kp ∧ kp ≤ 9223372036854775807 ∧ q ≤ kq ∧ kq ≤ 9223372036854775807 ∧
   RdI w w.heap.size A' l ∧ RdI w w.heap.size B' r ∧ Hid (acc.length = m) ∧ m + (p + q) ≤ 1000000 ∧ p + q ≤ N ∧ Hid (mgK K a b = acc ++ mgN K N l r) ∧ Hid (wr.ownsRow w.heap.size 3 1 so m (iv acc)) ∧ Below w.heap.size w wr) (fun sa sb _ _ => lnV sa + lnV sb)
 case atStart => exact ⟨A, B, na, nb, ca, cb, na + nb, 0, a, b, [], rfl, rfl, HLA, HLB, ha1, ha2, hb1, hb2, ha, hb, Lib.hid rfl, by omega, Nat.le_refl _, HM0, World.ownsRow_nil _ _ _ _, Below.refl _ _⟩
 case round =>
  clear ha ha1 ha2 hb hb1 hb2 HLA HLB HM0
  obtain ⟨A', B', p, q, kp, kq, N, m, l, r, acc, rfl, rfl, HL, HR, hp, hkp, hq, hkq, hrl, hrr, HACC, hmn, hN, HM, HO, hbel⟩ := hrel
  have hsz := hbel.size
  by_cases h0 : p = 0
  ·subst h0
   by_cases h1 : q = 0
   ·subst h1
    have hfin : mgK K a b = acc := by rw [HM.out, mgN_end HL.out HR.out, List.append_nil]
    have HFIN := Lib.hid hfin; clear hfin
    go_wp2
    go_ret
    rw [HFIN.out]
    exact ⟨_, rfl, by rw [HACC.out]; exact HO.out, hbel⟩
   ·obtain ⟨M, rfl⟩ : ∃ M, N = M + 1 := ⟨N - 1, by omega⟩
    obtain ⟨bd, y, rfl, hbd, hy, hcy⟩ := hrr.at_ (k := 0) (by have := HR.out; omega)
    rw [add_zero'] at hcy
    have hcy' := (hbel.cell (p := bd) hbd).trans hcy
    obtain ⟨B1, hsb, hrb⟩ := slice_tail (P := Tryz.prog) 30 3 Tryz.underlying30 (by kernel_rfl) w w.heap.size (some bd) r q kq HR.out (by omega) hq hrr
    have b4 : (0 : Int) < (q : Int) := by omega
    have b5 : (1 : Int) ≤ (q : Int) := by omega
    have b6 : 0 < q := by omega
    clear hcy hrr h1
    have HX := Lib.hid (fun (q : Bool) (hq : K false true = q) => show mgK K a b = (acc ++ (if q = true then [y] else [])) ++ mgN K M l (r.drop 1) by rw [HM.out, mgN_b HL.out hy q hq, List.append_assoc])
    have HL2 := Lib.hid (show (r.drop 1).length = q - 1 by rw [List.length_drop, HR.out])
    have HGY := Lib.hid hy; clear hy
    go_wp2
    go_quiet (fail)
    go_wp2
    go_quiet (fail)
    go_wp2
    go_quiet (fail)
    have HKC := Lib.hid (fun W => HKK.out false true W)
    cases hq : K false true with
    | true =>
     rw [hq] at HKC
     have HX := Lib.hid (HX.out true hq)
     clear hq
     go_wp2_with fail
     refine (HKC.out _).mono ?_
     rintro e w' ⟨rfl, rfl⟩
     go_wp2_with (at_builtin; refine wpList_push _ (.int .i64 y) rfl (.tmp 69) (.tmp 71) 30 rfl w.heap.size 3 (.int .i64 0) 8 Tryz.underlying30 int_info rfl u7 m _ rfl (own_drewN HO.out _) rfl rfl (by omega) (by omega) hsz ?_; intro v' w' ho' hg' hb1)
     go_roundw
     case rel => exact ⟨A', B1, 0, q - 1, kp, kq - 1, M, m + 1, l, r.drop 1, acc ++ [y], rfl, rfl, HL, HL2, hp, hkp, by omega, by omega, hrl, hrb, Lib.hid (by rw [List.length_append, HACC.out]; rfl), by omega, by omega, Lib.hid (by rw [HX.out]; simp), Lib.hid (by rw [iv_append]; exact ho'), hbel.trans (below_undrewN hb1)⟩
     case measure => simp [lnV]; omega
    | false =>
     rw [hq] at HKC
     have HX := Lib.hid (HX.out false hq)
     clear hq
     go_wp2_with fail
     refine (HKC.out _).mono ?_
     rintro e w' ⟨rfl, rfl⟩
     go_wp2
     go_roundw
     case rel => exact ⟨A', B1, 0, q - 1, kp, kq - 1, M, m, l, r.drop 1, acc, rfl, rfl, HL, HL2, hp, hkp, by omega, by omega, hrl, hrb, HACC, by omega, by omega, Lib.hid (by rw [HX.out]; simp), Lib.hid (own_drewN HO.out _), below_drewN hbel _⟩
     case measure => simp [lnV]; omega
  ·obtain ⟨M, rfl⟩ : ∃ M, N = M + 1 := ⟨N - 1, by omega⟩
   obtain ⟨ad, x, rfl, had, hx, hcx⟩ := hrl.at_ (k := 0) (by have := HL.out; omega)
   rw [add_zero'] at hcx
   have hcx' := (hbel.cell (p := ad) had).trans hcx
   obtain ⟨A1, hsa, hra⟩ := slice_tail (P := Tryz.prog) 30 3 Tryz.underlying30 (by kernel_rfl) w w.heap.size (some ad) l p kp HL.out (by omega) hp hrl
   have b1 : (0 : Int) < (p : Int) := by omega
   have b2 : (1 : Int) ≤ (p : Int) := by omega
   have b3 : 0 < p := by omega
   have HL1 := Lib.hid (show (l.drop 1).length = p - 1 by rw [List.length_drop, HL.out])
   clear hcx h0
   by_cases h1 : q = 0
   ·subst h1
    clear hrl
    have HX := Lib.hid (fun (q : Bool) (hq : K true false = q) => show mgK K a b = (acc ++ (if q = true then [x] else [])) ++ mgN K M (l.drop 1) r by rw [HM.out, mgN_a hx HR.out q hq, List.append_assoc])
    have HGX := Lib.hid hx; clear hx
    go_wp2
    go_quiet (fail)
    go_wp2
    go_quiet (fail)
    go_wp2
    go_quiet (fail)
    have HKC := Lib.hid (fun W => HKK.out true false W)
    cases hq : K true false with
    | true =>
     rw [hq] at HKC
     have HX := Lib.hid (HX.out true hq)
     clear hq
     go_wp2_with fail
     refine (HKC.out _).mono ?_
     rintro e w' ⟨rfl, rfl⟩
     go_wp2_with (at_builtin; refine wpList_push _ (.int .i64 x) rfl (.tmp 69) (.tmp 71) 30 rfl w.heap.size 3 (.int .i64 0) 8 Tryz.underlying30 int_info rfl u7 m _ rfl (own_drewN HO.out _) rfl rfl (by omega) (by omega) hsz ?_; intro v' w' ho' hg' hb1)
     go_roundw
     case rel => exact ⟨A1, B', p - 1, 0, kp - 1, kq, M, m + 1, l.drop 1, r, acc ++ [x], rfl, rfl, HL1, HR, by omega, by omega, hq, hkq, hra, hrr, Lib.hid (by rw [List.length_append, HACC.out]; rfl), by omega, by omega, Lib.hid (by rw [HX.out]; simp), Lib.hid (by rw [iv_append]; exact ho'), hbel.trans (below_undrewN hb1)⟩
     case measure => simp [lnV]; omega
    | false =>
     rw [hq] at HKC
     have HX := Lib.hid (HX.out false hq)
     clear hq
     go_wp2_with fail
     refine (HKC.out _).mono ?_
     rintro e w' ⟨rfl, rfl⟩
     go_wp2
     go_roundw
     case rel => exact ⟨A1, B', p - 1, 0, kp - 1, kq, M, m, l.drop 1, r, acc, rfl, rfl, HL1, HR, by omega, by omega, hq, hkq, hra, hrr, HACC, by omega, by omega, Lib.hid (by rw [HX.out]; simp), Lib.hid (own_drewN HO.out _), below_drewN hbel _⟩
     case measure => simp [lnV]; omega
   ·obtain ⟨bd, y, rfl, hbd, hy, hcy⟩ := hrr.at_ (k := 0) (by have := HR.out; omega)
    rw [add_zero'] at hcy
    have hcy' := (hbel.cell (p := bd) hbd).trans hcy
    obtain ⟨B1, hsb, hrb⟩ := slice_tail (P := Tryz.prog) 30 3 Tryz.underlying30 (by kernel_rfl) w w.heap.size (some bd) r q kq HR.out (by omega) hq hrr
    have b4 : (0 : Int) < (q : Int) := by omega
    have b5 : (1 : Int) ≤ (q : Int) := by omega
    have b6 : 0 < q := by omega
    have b7 : ((p : Int) == 0) = false := by rw [beq_eq_false_iff_ne]; omega
    have b8 : ((q : Int) == 0) = false := by rw [beq_eq_false_iff_ne]; omega
    have HL2 := Lib.hid (show (r.drop 1).length = q - 1 by rw [List.length_drop, HR.out])
    clear hcy h1
    rcases Int.lt_trichotomy x y with hxy | hxy | hxy
    ·have HX := Lib.hid (fun (q : Bool) (hq : K true false = q) => show mgK K a b = (acc ++ (if q = true then [x] else [])) ++ mgN K M (l.drop 1) r by rw [HM.out, mgN_lt hx hy hxy q hq, List.append_assoc])
     have d1 : decide (x ≤ y) = true := decide_eq_true (by omega)
     have d2 : decide (y ≤ x) = false := decide_eq_false (by omega)
     have HGX := Lib.hid hx; clear hx
     have HGY := Lib.hid hy; clear hy
     clear hrl
     go_wp2
     go_quiet (fail)
     go_wp2
     go_quiet (fail)
     go_wp2
     go_quiet (fail)
     have HKC := Lib.hid (fun W => HKK.out true false W)
     cases hq : K true false with
     | true =>
      rw [hq] at HKC
      have HX := Lib.hid (HX.out true hq)
      clear hq
      go_wp2_with fail
      refine (HKC.out _).mono ?_
      rintro e w' ⟨rfl, rfl⟩
      go_wp2_with (at_builtin; refine wpList_push _ (.int .i64 x) rfl (.tmp 69) (.tmp 71) 30 rfl w.heap.size 3 (.int .i64 0) 8 Tryz.underlying30 int_info rfl u7 m _ rfl (own_drewN HO.out _) rfl rfl (by omega) (by omega) hsz ?_; intro v' w' ho' hg' hb1)
      go_roundw
      case rel => exact ⟨A1, some bd, p - 1, q, kp - 1, kq, M, m + 1, l.drop 1, r, acc ++ [x], rfl, rfl, HL1, HR, by omega, by omega, hq, hkq, hra, hrr, Lib.hid (by rw [List.length_append, HACC.out]; rfl), by omega, by omega, Lib.hid (by rw [HX.out]; simp), Lib.hid (by rw [iv_append]; exact ho'), hbel.trans (below_undrewN hb1)⟩
      case measure => simp [lnV]; omega
     | false =>
      rw [hq] at HKC
      have HX := Lib.hid (HX.out false hq)
      clear hq
      go_wp2_with fail
      refine (HKC.out _).mono ?_
      rintro e w' ⟨rfl, rfl⟩
      go_wp2
      go_roundw
      case rel => exact ⟨A1, some bd, p - 1, q, kp - 1, kq, M, m, l.drop 1, r, acc, rfl, rfl, HL1, HR, by omega, by omega, hq, hkq, hra, hrr, HACC, by omega, by omega, Lib.hid (by rw [HX.out]; simp), Lib.hid (own_drewN HO.out _), below_drewN hbel _⟩
      case measure => simp [lnV]; omega
    ·subst hxy
     have HX := Lib.hid (fun (q : Bool) (hq : K true true = q) => show mgK K a b = (acc ++ (if q = true then [x] else [])) ++ mgN K M (l.drop 1) (r.drop 1) by rw [HM.out, mgN_eq hx hy q hq, List.append_assoc])
     have HGX := Lib.hid hx; clear hx
     have HGY := Lib.hid hy; clear hy
     clear hrl hrr
     go_wp2
     go_quiet (fail)
     go_wp2
     go_quiet (fail)
     go_wp2
     go_quiet (fail)
     go_wp2
     go_quiet (fail)
     have HKC := Lib.hid (fun W => HKK.out true true W)
     cases hq : K true true with
     | true =>
      rw [hq] at HKC
      have HX := Lib.hid (HX.out true hq)
      clear hq
      go_wp2_with fail
      refine (HKC.out _).mono ?_
      rintro e w' ⟨rfl, rfl⟩
      go_wp2_with (at_builtin; refine wpList_push _ (.int .i64 x) rfl (.tmp 69) (.tmp 71) 30 rfl w.heap.size 3 (.int .i64 0) 8 Tryz.underlying30 int_info rfl u7 m _ rfl (own_drewN HO.out _) rfl rfl (by omega) (by omega) hsz ?_; intro v' w' ho' hg' hb1)
      go_roundw
      case rel => exact ⟨A1, B1, p - 1, q - 1, kp - 1, kq - 1, M, m + 1, l.drop 1, r.drop 1, acc ++ [x], rfl, rfl, HL1, HL2, by omega, by omega, by omega, by omega, hra, hrb, Lib.hid (by rw [List.length_append, HACC.out]; rfl), by omega, by omega, Lib.hid (by rw [HX.out]; simp), Lib.hid (by rw [iv_append]; exact ho'), hbel.trans (below_undrewN hb1)⟩
      case measure => simp [lnV]; omega
     | false =>
      rw [hq] at HKC
      have HX := Lib.hid (HX.out false hq)
      clear hq
      go_wp2_with fail
      refine (HKC.out _).mono ?_
      rintro e w' ⟨rfl, rfl⟩
      go_wp2
      go_roundw
      case rel => exact ⟨A1, B1, p - 1, q - 1, kp - 1, kq - 1, M, m, l.drop 1, r.drop 1, acc, rfl, rfl, HL1, HL2, by omega, by omega, by omega, by omega, hra, hrb, HACC, by omega, by omega, Lib.hid (by rw [HX.out]; simp), Lib.hid (own_drewN HO.out _), below_drewN hbel _⟩
      case measure => simp [lnV]; omega
    ·have HX := Lib.hid (fun (q : Bool) (hq : K false true = q) => show mgK K a b = (acc ++ (if q = true then [y] else [])) ++ mgN K M l (r.drop 1) by rw [HM.out, mgN_gt hx hy hxy q hq, List.append_assoc])
     have d1 : decide (x ≤ y) = false := decide_eq_false (by omega)
     have d2 : decide (y ≤ x) = true := decide_eq_true (by omega)
     have HGX := Lib.hid hx; clear hx
     have HGY := Lib.hid hy; clear hy
     clear hrr
     go_wp2
     go_quiet (fail)
     go_wp2
     go_quiet (fail)
     go_wp2
     go_quiet (fail)
     have HKC := Lib.hid (fun W => HKK.out false true W)
     cases hq : K false true with
     | true =>
      rw [hq] at HKC
      have HX := Lib.hid (HX.out true hq)
      clear hq
      go_wp2_with fail
      refine (HKC.out _).mono ?_
      rintro e w' ⟨rfl, rfl⟩
      go_wp2_with (at_builtin; refine wpList_push _ (.int .i64 y) rfl (.tmp 69) (.tmp 71) 30 rfl w.heap.size 3 (.int .i64 0) 8 Tryz.underlying30 int_info rfl u7 m _ rfl (own_drewN HO.out _) rfl rfl (by omega) (by omega) hsz ?_; intro v' w' ho' hg' hb1)
      go_roundw
      case rel => exact ⟨some ad, B1, p, q - 1, kp, kq - 1, M, m + 1, l, r.drop 1, acc ++ [y], rfl, rfl, HL, HL2, hp, hkp, by omega, by omega, hrl, hrb, Lib.hid (by rw [List.length_append, HACC.out]; rfl), by omega, by omega, Lib.hid (by rw [HX.out]; simp), Lib.hid (by rw [iv_append]; exact ho'), hbel.trans (below_undrewN hb1)⟩
      case measure => simp [lnV]; omega
     | false =>
      rw [hq] at HKC
      have HX := Lib.hid (HX.out false hq)
      clear hq
      go_wp2_with fail
      refine (HKC.out _).mono ?_
      rintro e w' ⟨rfl, rfl⟩
      go_wp2
      go_roundw
      case rel => exact ⟨some ad, B1, p, q - 1, kp, kq - 1, M, m, l, r.drop 1, acc, rfl, rfl, HL, HL2, hp, hkp, by omega, by omega, hrl, hrb, HACC, by omega, by omega, Lib.hid (by rw [HX.out]; simp), Lib.hid (own_drewN HO.out _), below_drewN hbel _⟩
      case measure => simp [lnV]; omega
end Go.Proofs.YtioijhpbedmeaaaGreatDoor
