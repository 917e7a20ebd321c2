/- Walks: automaton.Run where nothing is amiss. -/
import Derived.Test.YtddhaidimadliaaOe
import Derived.Test.YtddhaidimadliaaUa
import Derived.Shelf.Abstract
namespace Go.Proofs.Ytddhaidimadliaa
open Go.RowKit Go

def idxJ (p : Int → Bool) : List Int → Int
 | [] => -1
 | x :: r => if p x then 0 else if idxJ p r < 0 then -1 else idxJ p r + 1
theorem idxJ_any (p : Int → Bool) : ∀ l : List Int, decide (0 ≤ idxJ p l) = l.any p
 | [] => by simp [idxJ]
 | x :: r => by
  have ih := idxJ_any p r
  unfold idxJ
  by_cases hp : p x = true
  ·simp [hp]
  ·simp only [Bool.not_eq_true] at hp
   simp only [hp, List.any_cons, Bool.false_or, Bool.false_eq_true, if_false]
   rw [← ih]
   split <;> simp <;> omega
def noneJ (p : Int → Bool) (l : List Int) : Prop := l.any p = false
theorem noneJ_nil (p : Int → Bool) : noneJ p [] := rfl
theorem noneJ_step {p : Int → Bool} {l : List Int} {k : Nat} {x : Int} (h : l[k]? = some x) (hn : noneJ p (l.take k)) (hx : p x = false) : noneJ p (l.take (k + 1)) := by
 unfold noneJ at *
 rw [take_snoc' h, List.any_append, hn]; simp [hx]
theorem idxJ_at {p : Int → Bool} : ∀ {l : List Int} {k : Nat} {x : Int}, l[k]? = some x → noneJ p (l.take k) → p x = true → idxJ p l = k
 | [], k, x, h, _, _ => by simp at h
 | y :: r, 0, x, h, _, hx => by
  simp at h; subst h
  simp [idxJ, hx]
 | y :: r, k + 1, x, h, hn, hx => by
  unfold noneJ at hn
  simp only [List.take_succ_cons, List.any_cons, Bool.or_eq_false_iff] at hn
  have ih := idxJ_at (p := p) (l := r) (k := k) (x := x) (by simpa using h) hn.2 hx
  unfold idxJ
  rw [hn.1, ih, if_neg (by simp), if_neg (by omega)]
  omega
theorem idxJ_no {p : Int → Bool} : ∀ {l : List Int}, noneJ p l → idxJ p l = -1
 | [], _ => rfl
 | y :: r, hn => by
  unfold noneJ at hn
  simp only [List.any_cons, Bool.or_eq_false_iff] at hn
  unfold idxJ
  rw [hn.1, idxJ_no (p := p) (l := r) hn.2, if_neg (by simp), if_pos (by omega)]
theorem idxJ_end {p : Int → Bool} {l : List Int} {k : Nat} (hn : noneJ p (l.take k)) (h : ¬ k < l.length) : idxJ p l = -1 := by
 rw [take_all' h] at hn; exact idxJ_no hn
set_option maxHeartbeats 400000 in
theorem ints_IndexFunc (A : Option Addr) (c n : Nat) (l : List Int) (g : Nat) (cap : Value) (p : Int → Bool) (w : World) (hl : l.length = n) (h : RdI w w.heap.size A l) (hc : n ≤ 9223372036854775807)
  (eg : ∀ args w, (callFunc g args).run Try.prog w = .ok (.enter g args) w)
  (hp : ∀ x, Calls Try.prog g #[.int .i64 x, cap] w fun e w' => e = .returned (.bool (p x)) ∧ w = w') :
  Calls Try.prog 34 #[.slice A n c, .func (.func g) #[] #[cap]] w fun e w' => e = .returned (.int .i64 (idxJ p l)) ∧ w = w' := by
 subst hl
 have HP := Lib.hid hp; clear hp
 go_enter Try.func34, Try.ntmps34
 go_wp2
 go_loop [8] (fun i => ∃ k : Nat, k ≤ l.length ∧ i = .int .i64 k ∧ Hid (noneJ p (l.take k))) (fun i => l.length - (intOf i).toNat)
 case atStart => exact ⟨0, Nat.zero_le _, rfl, noneJ_nil p⟩
 case round =>
  obtain ⟨k, hk, rfl, HN⟩ := hrel
  by_cases hlt : k < l.length
  ·obtain ⟨ad, x, rfl, _, hx, hcx⟩ := h.at_ hlt
   have HX := Lib.hid hx; clear hx
   by_cases hpx : p x = true
   ·go_wp2_with fail
    refine (HP.out x).mono ?_
    rintro e w' ⟨rfl, rfl⟩
    go_wp2
    go_ret
    exact ⟨ret_int (idxJ_at HX.out HN.out hpx).symm, rfl⟩
   ·have hpx' : p x = false := by simpa using hpx
    clear hpx
    go_wp2_with (go_at_fn g; refine (HP.out x).mono ?_; rintro e w' ⟨rfl, rfl⟩)
    go_round
    case rel => exact ⟨k + 1, by omega, by go_num, noneJ_step HX.out HN.out hpx'⟩
    case measure => simp [intOf]; omega
  ·go_wp2
   go_ret
   exact ⟨ret_int (idxJ_end HN.out hlt).symm, rfl⟩
set_option maxHeartbeats 400000 in
theorem ints_ContainsFunc (A : Option Addr) (c n : Nat) (l : List Int) (g : Nat) (cap : Value) (p : Int → Bool) (q : Bool) (w : World) (hl : l.length = n) (h : RdI w w.heap.size A l) (hc : n ≤ 9223372036854775807)
  (eg : ∀ args w, (callFunc g args).run Try.prog w = .ok (.enter g args) w)
  (hp : ∀ x, Calls Try.prog g #[.int .i64 x, cap] w fun e w' => e = .returned (.bool (p x)) ∧ w = w') (hq : l.any p = q) :
  Calls Try.prog 54 #[.slice A n c, .func (.func g) #[] #[cap]] w fun e w' => e = .returned (.bool q) ∧ w = w' := by
 have e := idxJ_any p l
 rw [hq] at e
 have HI := Lib.hid (ints_IndexFunc A c n l g cap p w hl h hc eg hp)
 have HE := Lib.hid e; clear e
 clear hp h hq
 go_enter Try.func54, Try.ntmps54
 go_wp2_with fail
 refine HI.out.mono ?_
 rintro e w' ⟨rfl, rfl⟩
 go_wp2
 go_ret
 exact ⟨ret_bool HE.out, rfl⟩
set_option maxRecDepth 100000 in
set_option maxHeartbeats 1600000 in
theorem automaton_checkState (A M E : Option Addr) (na ca nm cm ne ce : Nat) (a : Aut) (s : Int) (w : World) (h : AutR w w.heap.size A na ca M nm cm E ne ce a) (hw : WF a) (h3 : 0 ≤ s) (h4 : s < a.st) :
  Calls Try.prog 123 #[.agg #[.slice A na ca, .int .i64 a.st, .slice M nm cm, .slice E ne ce], .int .i64 s] w fun e w' => e = .returned (.int .i64 0) ∧ Below w.heap.size w w' := by
 obtain ⟨st, hst⟩ : ∃ s, a.st = s := ⟨_, rfl⟩
 rw [hst] at h4 ⊢
 have hb1 := box_below w (.cells #[.slice A na ca, .int .i64 st, .slice M nm cm, .slice E ne ce] 34)
 obtain ⟨w1, hw1⟩ : ∃ w1, w1 = w.alloc (.cells #[.slice A na ca, .int .i64 st, .slice M nm cm, .slice E ne ce] 34) := ⟨_, rfl⟩
 have k3 : Blk w1 w.heap.size 34 [.slice A na ca, .int .i64 st, .slice M nm cm, .slice E ne ce] := by rw [hw1]; exact Blk.new _ _ [_, _, _, _]
 rw [← hw1] at hb1
 have HC := Lib.hid (automaton_Check A na ca M nm cm E ne ce a w1 ((h.below hb1).more hb1.size))
 rw [hw.chk, hst] at HC
 have HW1 := Lib.hid hw1; clear hw1
 have HB1 := Lib.hid hb1; clear hb1
 have K3 := Lib.hid k3; clear k3
 clear h hw hst
 go_enter Try.func123, Try.ntmps123
 go_wp2_with fail
 rw [← HW1.out]
 refine HC.out.mono ?_
 rintro e w2 ⟨rfl, hb2⟩
 have HB2 := Lib.hid (HB1.out.trans (hb2.mono HB1.out.size))
 have c1 := (K3.out.below hb2 K3.out.lt).cell (j := 1) rfl
 have b1 : ¬ s < 0 := by omega
 have b2 : ¬ st ≤ s := by omega
 clear hb2 HC
 go_wp2
 go_ret
 exact ⟨rfl, HB2.out⟩
end Go.Proofs.Ytddhaidimadliaa
