/- Walks: automaton.Run where nothing is amiss. -/
import Derived.Test.YtioijhpbedmeaaaGreatDoorOe
import Derived.Test.YtioijhpbedmeaaaGreatDoorUa
import Derived.Shelf.Abstract
namespace Go.Proofs.YtioijhpbedmeaaaGreatDoor
open Go.RowKit Go

def idxJ (p : Int → Bool) : List Int → Int
 | [] => -1
 | x :: r => if p x then 0 else if idxJ p r < 0 then -1 else idxJ p r + 1
theorem idxJ_any (p : Int → Bool) : ∀ l : List Int, decide (0 ≤ idxJ p l) = l.any p
 | [] => by simp [idxJ]
 | x :: r => by
  have ih := idxJ_any p r
  unfold idxJ
  by_cases hp : p x = true
  ·simp [hp]
  ·simp only [Bool.not_eq_true] at hp
   simp only [hp, List.any_cons, Bool.false_or, Bool.false_eq_true, if_false]
   rw [← ih]
   split <;> simp <;> omega
def noneJ (p : Int → Bool) (l : List Int) : Prop := l.any p = false
theorem noneJ_nil (p : Int → Bool) : noneJ p [] := rfl
theorem noneJ_step {p : Int → Bool} {l : List Int} {k : Nat} {x : Int} (h : l[k]? = some x) (hn : noneJ p (l.take k)) (hx : p x = false) : noneJ p (l.take (k + 1)) := by
 unfold noneJ at *
 rw [take_snoc' h, List.any_append, hn]; simp [hx]
theorem idxJ_at {p : Int → Bool} : ∀ {l : List Int} {k : Nat} {x : Int}, l[k]? = some x → noneJ p (l.take k) → p x = true → idxJ p l = k
 | [], k, x, h, _, _ => by simp at h
 | y :: r, 0, x, h, _, hx => by
  simp at h; subst h
  simp [idxJ, hx]
 | y :: r, k + 1, x, h, hn, hx => by
  unfold noneJ at hn
  simp only [List.take_succ_cons, List.any_cons, Bool.or_eq_false_iff] at hn
  have ih := idxJ_at (p := p) (l := r) (k := k) (x := x) (by simpa using h) hn.2 hx
  unfold idxJ
  rw [hn.1, ih, if_neg (by simp), if_neg (by omega)]
  omega
theorem idxJ_no {p : Int → Bool} : ∀ {l : List Int}, noneJ p l → idxJ p l = -1
 | [], _ => rfl
 | y :: r, hn => by
  unfold noneJ at hn
  simp only [List.any_cons, Bool.or_eq_false_iff] at hn
  unfold idxJ
  rw [hn.1, idxJ_no (p := p) (l := r) hn.2, if_neg (by simp), if_pos (by omega)]
theorem idxJ_end {p : Int → Bool} {l : List Int} {k : Nat} (hn : noneJ p (l.take k)) (h : ¬ k < l.length) : idxJ p l = -1 := by
 rw [take_all' h] at hn; exact idxJ_no hn
set_option maxHeartbeats 400000 in
theorem ints_IndexFunc (A : Option Addr) (c n : Nat) (l : List Int) (g : Nat) (cap : Value) (p : Int → Bool) (w : World) (hl : l.length = n) (h : RdI w w.heap.size A l) (hc : n ≤ 9223372036854775807)
  (eg : ∀ args w, (callFunc g args).run Tryz.prog w = .ok (.enter g args) w)
  (hp : ∀ x, Calls Tryz.prog g #[.int .i64 x, cap] w fun e w' => e = .returned (.bool (p x)) ∧ w = w') :
  Calls Tryz.prog 57 #[.slice A n c, .func (.func g) #[] #[cap]] w fun e w' => e = .returned (.int .i64 (idxJ p l)) ∧ w = w' := by
 subst hl
 have HP := Lib.hid hp; clear hp
 go_enter Tryz.func57, Tryz.ntmps57
 go_wp2
 go_loop [8] (fun i => ∃ k : Nat, k ≤ l.length ∧ i = .int .i64 k ∧ Hid (noneJ p (l.take k))) (fun i => l.length - (intOf i).toNat)
 case atStart => exact ⟨0, Nat.zero_le _, rfl, noneJ_nil p⟩
 case round =>
  obtain ⟨k, hk, rfl, HN⟩ := hrel
  by_cases hlt : k < l.length
  ·obtain ⟨ad, x, rfl, _, hx, hcx⟩ := h.at_ hlt
   have HX := Lib.hid hx; clear hx
   by_cases hpx : p x = true
   ·go_wp2_with fail
    refine (HP.out x).mono ?_
    rintro e w' ⟨rfl, rfl⟩
    go_wp2
    go_ret
    exact ⟨ret_int (idxJ_at HX.out HN.out hpx).symm, rfl⟩
   ·have hpx' : p x = false := by simpa using hpx
    clear hpx
    go_wp2_with (go_at_fn g; refine (HP.out x).mono ?_; rintro e w' ⟨rfl, rfl⟩)
    go_round
    case rel => exact ⟨k + 1, by omega, by go_num, noneJ_step HX.out HN.out hpx'⟩
    case measure => simp [intOf]; omega
  ·go_wp2
   go_ret
   exact ⟨ret_int (idxJ_end HN.out hlt).symm, rfl⟩
set_option maxHeartbeats 400000 in
theorem ints_ContainsFunc (A : Option Addr) (c n : Nat) (l : List Int) (g : Nat) (cap : Value) (p : Int → Bool) (q : Bool) (w : World) (hl : l.length = n) (h : RdI w w.heap.size A l) (hc : n ≤ 9223372036854775807)
  (eg : ∀ args w, (callFunc g args).run Tryz.prog w = .ok (.enter g args) w)
  (hp : ∀ x, Calls Tryz.prog g #[.int .i64 x, cap] w fun e w' => e = .returned (.bool (p x)) ∧ w = w') (hq : l.any p = q) :
  Calls Tryz.prog 69 #[.slice A n c, .func (.func g) #[] #[cap]] w fun e w' => e = .returned (.bool q) ∧ w = w' := by
 have e := idxJ_any p l
 rw [hq] at e
 have HI := Lib.hid (ints_IndexFunc A c n l g cap p w hl h hc eg hp)
 have HE := Lib.hid e; clear e
 clear hp h hq
 go_enter Tryz.func69, Tryz.ntmps69
 go_wp2_with fail
 refine HI.out.mono ?_
 rintro e w' ⟨rfl, rfl⟩
 go_wp2
 go_ret
 exact ⟨ret_bool HE.out, rfl⟩
set_option maxHeartbeats 400000 in
theorem Run_1 (A : Option Addr) (na ca : Nat) (al : List Int) (x : Int) (b : Nat) (v1 v2 v3 : Value) (w : World) (hl : al.length = na) (h : RdI w w.heap.size A al) (h1 : na ≤ ca) (h2 : ca ≤ 9223372036854775807) (hk : Blk w b 33 [.slice A na ca, v1, v2, v3]) :
  Calls Tryz.prog 85 #[.int .i64 x, .pointer (some ⟨b, 0, none⟩)] w fun e w' => e = .returned (.bool (!hasB al x)) ∧ w = w' := by
 have c0 := hk.cell (j := 0) rfl
 obtain ⟨q, hq⟩ : ∃ q, hasB al x = q := ⟨_, rfl⟩
 have HC := Lib.hid (slices_Contains A ca na al x q w hl hq h h1 h2)
 rw [hq]
 clear hk h hq
 go_enter Tryz.func85, Tryz.ntmps85
 go_wp2_with fail
 refine HC.out.mono ?_
 rintro e w' ⟨rfl, rfl⟩
 go_wp2
 go_ret
 exact ⟨rfl, rfl⟩
set_option maxRecDepth 100000 in
set_option maxHeartbeats 1600000 in
theorem automaton_checkState (A M E : Option Addr) (na ca nm cm ne ce : Nat) (a : Aut) (s : Int) (w : World) (h : AutR w w.heap.size A na ca M nm cm E ne ce a) (hw : WF a) (h3 : 0 ≤ s) (h4 : s < a.st) :
  Calls Tryz.prog 84 #[.agg #[.slice A na ca, .int .i64 a.st, .slice M nm cm, .slice E ne ce], .int .i64 s] w fun e w' => e = .returned (.int .i64 0) ∧ Below w.heap.size w w' := by
 obtain ⟨st, hst⟩ : ∃ s, a.st = s := ⟨_, rfl⟩
 rw [hst] at h4 ⊢
 have hb1 := box_below w (.cells #[.slice A na ca, .int .i64 st, .slice M nm cm, .slice E ne ce] 33)
 obtain ⟨w1, hw1⟩ : ∃ w1, w1 = w.alloc (.cells #[.slice A na ca, .int .i64 st, .slice M nm cm, .slice E ne ce] 33) := ⟨_, rfl⟩
 have k3 : Blk w1 w.heap.size 33 [.slice A na ca, .int .i64 st, .slice M nm cm, .slice E ne ce] := by rw [hw1]; exact Blk.new _ _ [_, _, _, _]
 rw [← hw1] at hb1
 have HC := Lib.hid (automaton_Check A na ca M nm cm E ne ce a w1 ((h.below hb1).more hb1.size))
 rw [hw.chk, hst] at HC
 have HW1 := Lib.hid hw1; clear hw1
 have HB1 := Lib.hid hb1; clear hb1
 have K3 := Lib.hid k3; clear k3
 clear h hw hst
 go_enter Tryz.func84, Tryz.ntmps84
 go_wp2_with fail
 rw [← HW1.out]
 refine HC.out.mono ?_
 rintro e w2 ⟨rfl, hb2⟩
 have HB2 := Lib.hid (HB1.out.trans (hb2.mono HB1.out.size))
 have c1 := (K3.out.below hb2 K3.out.lt).cell (j := 1) rfl
 have b1 : ¬ s < 0 := by omega
 have b2 : ¬ st ≤ s := by omega
 clear hb2 HC
 go_wp2
 go_ret
 exact ⟨rfl, HB2.out⟩
set_option maxRecDepth 100000 in
set_option maxHeartbeats 1600000 in
theorem automaton_Run (A M E : Option Addr) (na ca nm cm ne ce : Nat) (a : Aut) (s : Int) (W : Option Addr) (cw nw : Nat) (ws : List Int) (R : Int × Nat) (w : World) (h : AutR w w.heap.size A na ca M nm cm E ne ce a) (hw : WF a) (h3 : 0 ≤ s) (h4 : s < a.st)
  (hl : ws.length = nw) (hW : RdI w w.heap.size W ws) (hc1 : nw ≤ cw) (hc2 : cw ≤ 9223372036854775807) (hal : ∀ v ∈ ws, v ∈ a.al) (hR : runS (stA a) s ws = R) :
  Calls Tryz.prog 47 #[.agg #[.slice A na ca, .int .i64 a.st, .slice M nm cm, .slice E ne ce], .int .i64 s, .slice W nw cw] w fun e w' => e = .returned (.tuple #[.int .i64 R.1, .int .i64 (R.2 : Nat), .int .i64 0]) ∧ Below w.heap.size w w' := by
 have hb1 := box_below w (.cells #[.slice A na ca, .int .i64 a.st, .slice M nm cm, .slice E ne ce] 33)
 obtain ⟨w1, hw1⟩ : ∃ w1, w1 = w.alloc (.cells #[.slice A na ca, .int .i64 a.st, .slice M nm cm, .slice E ne ce] 33) := ⟨_, rfl⟩
 have k3 : Blk w1 w.heap.size 33 [.slice A na ca, .int .i64 a.st, .slice M nm cm, .slice E ne ce] := by rw [hw1]; exact Blk.new _ _ [_, _, _, _]
 rw [← hw1] at hb1
 have h1 := (h.below hb1).more hb1.size
 have hW1 := (hW.below hb1).more hb1.size
 have HC := Lib.hid (automaton_checkState A M E na ca nm cm ne ce a s w1 h1 hw h3 h4)
 have HW1 := Lib.hid hw1; clear hw1
 have HB1 := Lib.hid hb1; clear hb1
 have K3 := Lib.hid k3; clear k3
 have HX := Lib.hid h1; clear h1
 have HWR := Lib.hid hW1; clear hW1
 have HWF := Lib.hid hw; clear hw
 have HAL := Lib.hid hal; clear hal
 have HR := Lib.hid hR; clear hR
 have c0 := K3.out.cell (j := 0) rfl
 have c1 := K3.out.cell (j := 1) rfl
 have c2 := K3.out.cell (j := 2) rfl
 have c3 := K3.out.cell (j := 3) rfl
 clear h hW
 go_enter Tryz.func47, Tryz.ntmps47
 go_wp2_with fail
 rw [← HW1.out]
 refine HC.out.mono ?_
 rintro e w2 ⟨rfl, hb2⟩
 have HB2 := Lib.hid (HB1.out.trans (hb2.mono HB1.out.size))
 have K4 := Lib.hid (K3.out.below hb2 K3.out.lt)
 have HX2 := Lib.hid ((HX.out.below hb2).more hb2.size)
 have HWR2 := Lib.hid ((HWR.out.below hb2).more hb2.size)
 have HCF := Lib.hid (ints_ContainsFunc W cw nw ws 85 (.pointer (some ⟨w.heap.size, 0, none⟩)) (fun x => !hasB a.al x) false w2 hl HWR2.out (by omega) (enters_of Tryz.func85 (by kernel_rfl) rfl) (fun x => Run_1 A na ca a.al x w.heap.size _ _ _ w2 HX2.out.la HX2.out.ra HX2.out.ac HX2.out.cA K4.out) (by
  rw [List.any_eq_false]
  intro x hx
  rw [show hasB a.al x = true from hasB_mem.2 (HAL.out x hx)]; simp))
 have HF := Lib.hid (automaton_follow A M E na ca nm cm ne ce a s W cw nw ws R w2 HX2.out HWF.out h3 h4 hl HWR2.out hc1 hc2 HR.out)
 clear hb2 HC c0 c1 c2 c3 HX HWR K3
 go_wp2_with fail
 refine HCF.out.mono ?_
 rintro e w3 ⟨rfl, rfl⟩
 have c0 := K4.out.cell (j := 0) rfl
 have c1 := K4.out.cell (j := 1) rfl
 have c2 := K4.out.cell (j := 2) rfl
 have c3 := K4.out.cell (j := 3) rfl
 go_wp2_with fail
 refine HF.out.mono ?_
 rintro e w4 ⟨rfl, hb4⟩
 have HB4 := Lib.hid (HB2.out.trans (hb4.mono HB2.out.size))
 clear hb4 c0 c1 c2 c3 HF HCF
 go_wp2
 refine bodyPost_ret (v := .tuple #[.int .i64 R.1, .int .i64 (R.2 : Nat), .int .i64 0]) (by simp [results, Tryz.results47, go_sem]) rfl ?_
 exact ⟨rfl, HB4.out⟩
end Go.Proofs.YtioijhpbedmeaaaGreatDoor
