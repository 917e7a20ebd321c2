/- Walks: the law's ends, seen. -/
import Derived.Test.YtddhaidimadliaaKe
import Derived.Test.YtddhaidimadliaaJx
import Derived.Test.YtddhaidimadliaaJf
import Derived.Test.YtddhaidimadliaaKb
import Derived.Test.YtddhaidimadliaaJy
namespace Go.Proofs.Ytddhaidimadliaa
open Go.RowKit Go

/-- the law's ends -/
def endsL (a : Aut) (s : Int) (ws : List Int) : Int := if s < 0 ∨ a.st ≤ s then -1 else endL a s ws
theorem endL_one {a : Aut} {s x : Int} {ws : List Int} {k : Nat} (hx : ws[k]? = some x) : endL a s (ws.drop k) = if nxt a s x < 0 then -1 else endL a (nxt a s x) (ws.drop (k + 1)) := by
 obtain ⟨hk, he⟩ := List.getElem?_eq_some_iff.1 hx
 rw [List.drop_eq_getElem_cons hk, he]
 rfl
set_option maxRecDepth 100000 in
set_option maxHeartbeats 1600000 in
theorem law_ends (x : AV) (s0 : Int) (y : IV) (r : Int) (w : World) (hx : x.ok w w.heap.size) (hy : y.ok w w.heap.size) (hr : endsL x.a s0 y.l = r) :
  Calls Try.prog 29 #[.agg #[.slice x.A x.na x.ca, .int .i64 x.a.st, .slice x.M x.nm x.cm, .slice x.E x.ne x.ce], .int .i64 s0, .slice y.A y.n y.c] w fun e w' => e = .returned (.int .i64 r) ∧ Below w.heap.size w w' := by
 obtain ⟨A, na, ca, M, nm, cm, E, ne, ce, a⟩ := x
 obtain ⟨W, nw, cw, ws⟩ := y
 dsimp only at hr ⊢
 have hb1 := box_below w (.cells #[.slice A na ca, .int .i64 a.st, .slice M nm cm, .slice E ne ce] 34)
 obtain ⟨w1, hw9⟩ : ∃ w1, w1 = w.alloc (.cells #[.slice A na ca, .int .i64 a.st, .slice M nm cm, .slice E ne ce] 34) := ⟨_, rfl⟩
 have kx : Blk w1 w.heap.size 34 [.slice A na ca, .int .i64 a.st, .slice M nm cm, .slice E ne ce] := by rw [hw9]; exact Blk.new _ _ [_, _, _, _]
 rw [← hw9] at hb1
 have HG0 := Lib.hid (fun (W : World) (hb : Below w1.heap.size w1 W) => Blk.c4 (kx.below hb kx.lt))
 have HXK := Lib.hid (fun (W : World) (hb : Below w1.heap.size w1 W) => (show AutR W W.heap.size A na ca M nm cm E ne ce a from AutR.more (AutR.below hx (hb1.trans (hb.mono hb1.size))) (hb1.trans (hb.mono hb1.size)).size))
 have HYK := Lib.hid (fun (W : World) (hb : Below w1.heap.size w1 W) => (hy.below (hb1.trans (hb.mono hb1.size))))
 have HST := Lib.hid (fun (W : World) (hb : Below w1.heap.size w1 W) (s v : Int) => law_step A na ca M nm cm E ne ce a s v W (HXK.out W hb))
 have HBL := Lib.hid (fun (W : World) (hb : Below w1.heap.size w1 W) => hb1.trans (hb.mono hb1.size))
 have hl : ws.length = nw := hy.la
 have hc1 : nw ≤ cw := hy.ac
 have hc2 : cw ≤ 9223372036854775807 := hy.cA
 obtain ⟨sv, hsv⟩ : ∃ z, a.st = z := ⟨_, rfl⟩
 unfold endsL at hr
 rw [hsv] at hw9 HG0 HST hr ⊢
 have HW9 := Lib.hid hw9; clear hw9
 have HL := Lib.hid hl; clear hl
 have lx := kx.lt
 clear kx hx hy hsv hb1
 obtain ⟨a0, a1, a2, a3⟩ := HG0.out w1 (Below.refl _ _)
 by_cases h1 : s0 < 0
 ·rw [if_pos (.inl h1)] at hr
  subst hr
  go_enter Try.func29, Try.ntmps29
  go_upto_region 1 with fail
  rw [← HW9.out]
  go_wp2
  go_ret
  exact ⟨rfl, HBL.out _ (Below.refl _ _)⟩
 by_cases h2 : sv ≤ s0
 ·rw [if_pos (.inr h2)] at hr
  subst hr
  go_enter Try.func29, Try.ntmps29
  go_upto_region 1 with fail
  rw [← HW9.out]
  go_wp2
  go_ret
  exact ⟨rfl, HBL.out _ (Below.refl _ _)⟩
 rw [if_neg (by omega)] at hr
 have HR0 := Lib.hid (show r = endL a s0 (ws.drop 0) from hr.symm)
 clear hr
 go_enter Try.func29, Try.ntmps29
 go_upto_region 1 with fail
 rw [← HW9.out]
 go_wp2
 clear a0 a1 a2 a3
 go_loopw [1, 6, 8, 19] (fun s1 s6 s8 s19 wr => ∃ (k : Nat) (s : Int) (v6 v8 : Value), s1 = .int .i64 s ∧ s6 = v6 ∧ s8 = v8 ∧ s19 = .int .i64 k ∧ k ≤ nw ∧ Hid (r = endL a s (ws.drop k)) ∧ Hid (Below w1.heap.size w1 wr)) (fun _ _ _ s19 _ => nw - (intOf s19).toNat)
 case atStart => exact ⟨0, s0, _, _, rfl, rfl, rfl, rfl, Nat.zero_le _, HR0, Lib.hid (Below.refl _ _)⟩
 case round =>
  clear HR0
  obtain ⟨k, s, v6, v8, rfl, rfl, rfl, rfl, hk, HR, HB⟩ := hrel
  obtain ⟨a0, a1, a2, a3⟩ := HG0.out wr HB.out
  by_cases hlt : k < nw
  ·obtain ⟨x, hx⟩ : ∃ x, ws[k]? = some x := ⟨_, List.getElem?_eq_getElem (by have := HL.out; omega)⟩
   obtain ⟨ad, rfl, hab, hcx⟩ := (HYK.out wr HB.out).ra k (.int .i64 x) (by simp [iv, hx])
   have b1 : (k : Int) < (nw : Int) := by omega
   have hr := HR.out
   rw [endL_one hx] at hr
   have HC := Lib.hid (HST.out wr HB.out s x)
   obtain ⟨nx, hnx⟩ : ∃ z, nxt a s x = z := ⟨_, rfl⟩
   rw [hnx] at HC hr
   have HR2 := Lib.hid hr; clear hr
   clear hx HR hab hnx
   go_wp2_with fail
   refine HC.out.mono ?_
   rintro e w2 ⟨rfl, hb2⟩
   have HB2 := Lib.hid (HB.out.trans (hb2.mono HB.out.size))
   clear HC hcx a0 a1 a2 a3 hb2
   by_cases hn : nx < 0
   ·have HR3 := Lib.hid (show r = -1 by rw [HR2.out, if_pos hn])
    go_wp2
    go_ret
    exact ⟨ret_int HR3.out.symm, HBL.out _ HB2.out⟩
   ·have HR3 := Lib.hid (show r = endL a nx (ws.drop (k + 1)) by rw [HR2.out, if_neg hn])
    go_wp2
    go_roundw
    case rel => exact ⟨k + 1, nx, _, _, rfl, rfl, rfl, by go_num, by omega, HR3, HB2⟩
    case measure => simp [intOf]; omega
  ·obtain rfl : k = nw := by omega
   have b1 : ¬ (k : Int) < (k : Int) := by omega
   have hr := HR.out
   rw [List.drop_of_length_le (by have := HL.out; omega)] at hr
   have HR2 := Lib.hid (show r = s from hr)
   clear hr HR
   go_wp2
   go_ret
   exact ⟨ret_int HR2.out.symm, HBL.out _ HB.out⟩
theorem obsW_snoc {m : Dm} {ws : List Int} {k : Nat} {x : Int} (hx : ws[k]? = some x) : obsW m (ws.take (k + 1)) = obsW m (ws.take k) ++ (if m.ob x = true then [x] else []) := by
 rw [take_snocD hx, obsW_app]
 congr 1
 unfold obsW
 by_cases h : m.ob x = true
 ·rw [if_pos h, List.filter_cons_of_pos h]; rfl
 ·rw [if_neg h, List.filter_cons_of_neg h]; rfl
end Go.Proofs.Ytddhaidimadliaa

/- Walk: the law's lasso. -/
namespace Go.Proofs.Ytddhaidimadliaa
open Go.RowKit Go

end Go.Proofs.Ytddhaidimadliaa

/- The statement DiagnosabilityVerifies: the plain law, the opening of a lasso, the walk. -/
namespace Go.Proofs.Ytddhaidimadliaa
section
open Go.ChangeShapes Go.WideShapes Go.ChangeAt Go.RowKit Go.Deep Go
variable {H : Type} {enc : TypeId × Value → H} {W : World} {spare : Nat → Bool} {held : Bool}
end
open Go.RowKit Go

end Go.Proofs.Ytddhaidimadliaa
