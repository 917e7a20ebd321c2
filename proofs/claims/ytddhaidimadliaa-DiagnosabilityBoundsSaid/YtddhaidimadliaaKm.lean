/- Walks: slices.IndexFunc, ContainsFunc at integers, edges, events, the closure may make memory. -/
import Derived.Test.YtddhaidimadliaaJy
import Derived.Test.YtddhaidimadliaaKl
namespace Go.Proofs.Ytddhaidimadliaa
open Go.RowKit Go

set_option maxHeartbeats 800000 in
theorem ints_IndexFuncB (A : Option Addr) (c n : Nat) (l : List Int) (g : Nat) (cap : Value) (p : Int → Bool) (w : World) (hl : l.length = n) (hR : RdI w w.heap.size A l) (hc : n ≤ 9223372036854775807)
  (eg : ∀ args w, (callFunc g args).run Try.prog w = .ok (.enter g args) w)
  (hp : ∀ x ∈ l, ∀ W, Below w.heap.size w W → Calls Try.prog g #[.int .i64 x, cap] W fun e w' => e = .returned (.bool (p x)) ∧ Below W.heap.size W w') :
  Calls Try.prog 34 #[.slice A n c, .func (.func g) #[] #[cap]] w fun e w' => ∃ r : Int, e = .returned (.int .i64 r) ∧ decide (0 ≤ r) = l.any p ∧ Below w.heap.size w w' := by
 have HP := Lib.hid hp
 have HL := Lib.hid hl
 clear hp
 go_enter Try.func34, Try.ntmps34
 go_wp2
 go_loopw [4, 5, 8] (fun s4 s5 s8 wr => ∃ (k : Nat) (v4 v5 : Value), s4 = v4 ∧ s5 = v5 ∧ k ≤ n ∧ s8 = .int .i64 k ∧ Hid ((l.take k).any p = false) ∧ Hid (Below w.heap.size w wr)) (fun _ _ s8 _ => n - (intOf s8).toNat)
 case atStart => exact ⟨0, _, _, rfl, rfl, Nat.zero_le _, rfl, Lib.hid rfl, Lib.hid (Below.refl _ _)⟩
 case round =>
  obtain ⟨k, v4, v5, rfl, rfl, hk, rfl, HN, HB⟩ := hrel
  by_cases hlt : k < n
  ·obtain ⟨ad, x, rfl, hab, hx, hcx⟩ := (hR.below HB.out).at_ (k := k) (by rw [HL.out]; exact hlt)
   have b1 : (k : Int) < (n : Int) := by omega
   have HC := Lib.hid (HP.out x (List.mem_of_getElem? hx) wr HB.out)
   obtain ⟨q, hq⟩ : ∃ q, p x = q := ⟨_, rfl⟩
   rw [hq] at HC
   have HQ := Lib.hid hq; clear hq
   have HX := Lib.hid hx; clear hx
   clear hab
   cases q with
   | true =>
    have HR := Lib.hid (show decide (0 ≤ (k : Int)) = l.any p by rw [decide_eq_true (by omega), List.any_eq_true.2 ⟨x, List.mem_of_getElem? HX.out, HQ.out⟩])
    go_wp2_with fail
    refine HC.out.mono ?_
    rintro e w2 ⟨rfl, hb2⟩
    have HB2 := Lib.hid (HB.out.trans (hb2.mono HB.out.size))
    clear HC hcx hb2
    go_wp2
    go_ret
    exact ⟨_, rfl, HR.out, HB2.out⟩
   | false =>
    have HN2 := Lib.hid (show (l.take (k + 1)).any p = false by rw [List.take_add_one, HX.out, List.any_append, HN.out]; simp [HQ.out])
    go_wp2_with (go_at_fn g; refine HC.out.mono ?_; rintro e w2 ⟨rfl, hb2⟩; have HB2 := Lib.hid (HB.out.trans (hb2.mono HB.out.size)))
    go_roundw
    case rel => exact ⟨k + 1, _, _, rfl, rfl, by omega, by go_num, HN2, HB2⟩
    case measure => simp [intOf]; omega
  ·obtain rfl : k = n := by omega
   have b1 : ¬ (k : Int) < (k : Int) := by omega
   have HR := Lib.hid (show decide (0 ≤ (-1 : Int)) = l.any p by
    have := HN.out
    rw [List.take_of_length_le (by rw [HL.out]; exact Nat.le_refl _)] at this
    rw [this]
    decide)
   go_wp2
   go_ret
   exact ⟨_, rfl, HR.out, HB.out⟩
theorem ints_ContainsFuncB (A : Option Addr) (c n : Nat) (l : List Int) (g : Nat) (cap : Value) (p : Int → Bool) (q : Bool) (w : World) (hl : l.length = n) (hR : RdI w w.heap.size A l) (hc : n ≤ 9223372036854775807)
  (eg : ∀ args w, (callFunc g args).run Try.prog w = .ok (.enter g args) w)
  (hp : ∀ x ∈ l, ∀ W, Below w.heap.size w W → Calls Try.prog g #[.int .i64 x, cap] W fun e w' => e = .returned (.bool (p x)) ∧ Below W.heap.size W w') (hq : l.any p = q) :
  Calls Try.prog 54 #[.slice A n c, .func (.func g) #[] #[cap]] w fun e w' => e = .returned (.bool q) ∧ Below w.heap.size w w' := by
 have HI := Lib.hid (ints_IndexFuncB A c n l g cap p w hl hR hc eg hp)
 rw [hq] at HI
 clear hp hR hq
 go_enter Try.func54, Try.ntmps54
 go_wp2_with fail
 refine HI.out.mono ?_
 rintro e w' ⟨r, rfl, hr, hb⟩
 have HB := Lib.hid hb
 have HR := Lib.hid hr
 clear hb hr
 go_wp2
 go_ret
 exact ⟨ret_bool HR.out, HB.out⟩
set_option maxHeartbeats 800000 in
theorem edgs_IndexFuncB (A : Option Addr) (c n : Nat) (l : List Ed) (g : Nat) (cap : Value) (p : Ed → Bool) (w : World) (hl : l.length = n) (hR : RdX w w.heap.size A l) (hc : n ≤ 9223372036854775807)
  (eg : ∀ args w, (callFunc g args).run Try.prog w = .ok (.enter g args) w)
  (hp : ∀ x ∈ l, ∀ W, Below w.heap.size w W → Calls Try.prog g #[.agg #[.int .i64 x.f, .int .i64 x.e, .int .i64 x.t], cap] W fun e w' => e = .returned (.bool (p x)) ∧ Below W.heap.size W w') :
  Calls Try.prog 93 #[.slice A n c, .func (.func g) #[] #[cap]] w fun e w' => ∃ r : Int, e = .returned (.int .i64 r) ∧ decide (0 ≤ r) = l.any p ∧ Below w.heap.size w w' := by
 have HP := Lib.hid hp
 have HL := Lib.hid hl
 clear hp
 go_enter Try.func93, Try.ntmps93
 go_wp2
 go_loopw [4, 5, 8] (fun s4 s5 s8 wr => ∃ (k : Nat) (v4 v5 : Value), s4 = v4 ∧ s5 = v5 ∧ k ≤ n ∧ s8 = .int .i64 k ∧ Hid ((l.take k).any p = false) ∧ Hid (Below w.heap.size w wr)) (fun _ _ s8 _ => n - (intOf s8).toNat)
 case atStart => exact ⟨0, _, _, rfl, rfl, Nat.zero_le _, rfl, Lib.hid rfl, Lib.hid (Below.refl _ _)⟩
 case round =>
  obtain ⟨k, v4, v5, rfl, rfl, hk, rfl, HN, HB⟩ := hrel
  by_cases hlt : k < n
  ·obtain ⟨ad, x, rfl, hab, hx, g0, g1, g2⟩ := (hR.below HB.out).at_ (k := k) (by rw [HL.out]; exact hlt)
   have r1 : wr.cell? ⟨(ad.add (k * 3)).block, (ad.add (k * 3)).off + 1, none⟩ = some (.int .i64 x.e) := st_cells (j := 0) g1
   have r2 : wr.cell? ⟨(ad.add (k * 3)).block, (ad.add (k * 3)).off + 2, none⟩ = some (.int .i64 x.t) := st_cells (j := 1) g2
   have b1 : (k : Int) < (n : Int) := by omega
   have HC := Lib.hid (HP.out x (List.mem_of_getElem? hx) wr HB.out)
   obtain ⟨q, hq⟩ : ∃ q, p x = q := ⟨_, rfl⟩
   rw [hq] at HC
   have HQ := Lib.hid hq; clear hq
   have HX := Lib.hid hx; clear hx
   clear hab
   cases q with
   | true =>
    have HR := Lib.hid (show decide (0 ≤ (k : Int)) = l.any p by rw [decide_eq_true (by omega), List.any_eq_true.2 ⟨x, List.mem_of_getElem? HX.out, HQ.out⟩])
    go_wp2_with fail
    refine HC.out.mono ?_
    rintro e w2 ⟨rfl, hb2⟩
    have HB2 := Lib.hid (HB.out.trans (hb2.mono HB.out.size))
    clear HC g0 r1 r2 g1 g2 hb2
    go_wp2
    go_ret
    exact ⟨_, rfl, HR.out, HB2.out⟩
   | false =>
    have HN2 := Lib.hid (show (l.take (k + 1)).any p = false by rw [List.take_add_one, HX.out, List.any_append, HN.out]; simp [HQ.out])
    go_wp2_with (go_at_fn g; refine HC.out.mono ?_; rintro e w2 ⟨rfl, hb2⟩; have HB2 := Lib.hid (HB.out.trans (hb2.mono HB.out.size)))
    go_roundw
    case rel => exact ⟨k + 1, _, _, rfl, rfl, by omega, by go_num, HN2, HB2⟩
    case measure => simp [intOf]; omega
  ·obtain rfl : k = n := by omega
   have b1 : ¬ (k : Int) < (k : Int) := by omega
   have HR := Lib.hid (show decide (0 ≤ (-1 : Int)) = l.any p by
    have := HN.out
    rw [List.take_of_length_le (by rw [HL.out]; exact Nat.le_refl _)] at this
    rw [this]
    decide)
   go_wp2
   go_ret
   exact ⟨_, rfl, HR.out, HB.out⟩
theorem edgs_ContainsFuncB (A : Option Addr) (c n : Nat) (l : List Ed) (g : Nat) (cap : Value) (p : Ed → Bool) (q : Bool) (w : World) (hl : l.length = n) (hR : RdX w w.heap.size A l) (hc : n ≤ 9223372036854775807)
  (eg : ∀ args w, (callFunc g args).run Try.prog w = .ok (.enter g args) w)
  (hp : ∀ x ∈ l, ∀ W, Below w.heap.size w W → Calls Try.prog g #[.agg #[.int .i64 x.f, .int .i64 x.e, .int .i64 x.t], cap] W fun e w' => e = .returned (.bool (p x)) ∧ Below W.heap.size W w') (hq : l.any p = q) :
  Calls Try.prog 57 #[.slice A n c, .func (.func g) #[] #[cap]] w fun e w' => e = .returned (.bool q) ∧ Below w.heap.size w w' := by
 have HI := Lib.hid (edgs_IndexFuncB A c n l g cap p w hl hR hc eg hp)
 rw [hq] at HI
 clear hp hR hq
 go_enter Try.func57, Try.ntmps57
 go_wp2_with fail
 refine HI.out.mono ?_
 rintro e w' ⟨r, rfl, hr, hb⟩
 have HB := Lib.hid hb
 have HR := Lib.hid hr
 clear hb hr
 go_wp2
 go_ret
 exact ⟨ret_bool HR.out, HB.out⟩
set_option maxHeartbeats 800000 in
theorem evts_IndexFuncB (A : Option Addr) (c n : Nat) (l : List Ev) (g : Nat) (p : Ev → Bool) (w : World) (hl : l.length = n) (hR : RdE w w.heap.size A l) (hc : n ≤ 9223372036854775807)
  (eg : ∀ args w, (callFunc g args).run Try.prog w = .ok (.enter g args) w)
  (hp : ∀ x ∈ l, ∀ W, Below w.heap.size w W → Calls Try.prog g #[.agg #[.string x.nm, .bool x.c, .bool x.o, .bool x.f, .int .i64 x.fault]] W fun e w' => e = .returned (.bool (p x)) ∧ Below W.heap.size W w') :
  Calls Try.prog 113 #[.slice A n c, .func (.func g) #[] #[]] w fun e w' => ∃ r : Int, e = .returned (.int .i64 r) ∧ decide (0 ≤ r) = l.any p ∧ Below w.heap.size w w' := by
 have HP := Lib.hid hp
 have HL := Lib.hid hl
 clear hp
 go_enter Try.func113, Try.ntmps113
 go_wp2
 go_loopw [4, 5, 8] (fun s4 s5 s8 wr => ∃ (k : Nat) (v4 v5 : Value), s4 = v4 ∧ s5 = v5 ∧ k ≤ n ∧ s8 = .int .i64 k ∧ Hid ((l.take k).any p = false) ∧ Hid (Below w.heap.size w wr)) (fun _ _ s8 _ => n - (intOf s8).toNat)
 case atStart => exact ⟨0, _, _, rfl, rfl, Nat.zero_le _, rfl, Lib.hid rfl, Lib.hid (Below.refl _ _)⟩
 case round =>
  obtain ⟨k, v4, v5, rfl, rfl, hk, rfl, HN, HB⟩ := hrel
  by_cases hlt : k < n
  ·obtain ⟨ad, x, rfl, hab, hx, hes, q0, q1, q2, q3, q4⟩ := (hR.below HB.out).at_ (k := k) (by rw [HL.out]; exact hlt)
   have p1 := ev_cells (j := 0) q1
   have p2 := ev_cells (j := 1) q2
   have p3 := ev_cells (j := 2) q3
   have p4 := ev_cells (j := 3) q4
   have b1 : (k : Int) < (n : Int) := by omega
   have HC := Lib.hid (HP.out x (List.mem_of_getElem? hx) wr HB.out)
   obtain ⟨q, hq⟩ : ∃ q, p x = q := ⟨_, rfl⟩
   rw [hq] at HC
   have HQ := Lib.hid hq; clear hq
   have HX := Lib.hid hx; clear hx
   clear hab
   cases q with
   | true =>
    have HR := Lib.hid (show decide (0 ≤ (k : Int)) = l.any p by rw [decide_eq_true (by omega), List.any_eq_true.2 ⟨x, List.mem_of_getElem? HX.out, HQ.out⟩])
    go_wp2_with fail
    refine HC.out.mono ?_
    rintro e w2 ⟨rfl, hb2⟩
    have HB2 := Lib.hid (HB.out.trans (hb2.mono HB.out.size))
    clear HC hes q0 q1 q2 q3 q4 p1 p2 p3 p4 hb2
    go_wp2
    go_ret
    exact ⟨_, rfl, HR.out, HB2.out⟩
   | false =>
    have HN2 := Lib.hid (show (l.take (k + 1)).any p = false by rw [List.take_add_one, HX.out, List.any_append, HN.out]; simp [HQ.out])
    go_wp2_with (go_at_fn g; refine HC.out.mono ?_; rintro e w2 ⟨rfl, hb2⟩; have HB2 := Lib.hid (HB.out.trans (hb2.mono HB.out.size)))
    go_roundw
    case rel => exact ⟨k + 1, _, _, rfl, rfl, by omega, by go_num, HN2, HB2⟩
    case measure => simp [intOf]; omega
  ·obtain rfl : k = n := by omega
   have b1 : ¬ (k : Int) < (k : Int) := by omega
   have HR := Lib.hid (show decide (0 ≤ (-1 : Int)) = l.any p by
    have := HN.out
    rw [List.take_of_length_le (by rw [HL.out]; exact Nat.le_refl _)] at this
    rw [this]
    decide)
   go_wp2
   go_ret
   exact ⟨_, rfl, HR.out, HB.out⟩
theorem evts_ContainsFuncB (A : Option Addr) (c n : Nat) (l : List Ev) (g : Nat) (p : Ev → Bool) (q : Bool) (w : World) (hl : l.length = n) (hR : RdE w w.heap.size A l) (hc : n ≤ 9223372036854775807)
  (eg : ∀ args w, (callFunc g args).run Try.prog w = .ok (.enter g args) w)
  (hp : ∀ x ∈ l, ∀ W, Below w.heap.size w W → Calls Try.prog g #[.agg #[.string x.nm, .bool x.c, .bool x.o, .bool x.f, .int .i64 x.fault]] W fun e w' => e = .returned (.bool (p x)) ∧ Below W.heap.size W w') (hq : l.any p = q) :
  Calls Try.prog 79 #[.slice A n c, .func (.func g) #[] #[]] w fun e w' => e = .returned (.bool q) ∧ Below w.heap.size w w' := by
 have HI := Lib.hid (evts_IndexFuncB A c n l g p w hl hR hc eg hp)
 rw [hq] at HI
 clear hp hR hq
 go_enter Try.func79, Try.ntmps79
 go_wp2_with fail
 refine HI.out.mono ?_
 rintro e w' ⟨r, rfl, hr, hb⟩
 have HB := Lib.hid hb
 have HR := Lib.hid hr
 clear hb hr
 go_wp2
 go_ret
 exact ⟨ret_bool HR.out, HB.out⟩
end Go.Proofs.Ytddhaidimadliaa
