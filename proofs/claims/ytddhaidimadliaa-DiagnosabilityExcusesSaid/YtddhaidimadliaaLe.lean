/- The law's excuse: places with words in memory; walks: slices.IndexFunc, ContainsFunc at places. -/
import Derived.Test.YtddhaidimadliaaLb
import Derived.Laws.StructEq
import Derived.Test.YtddhaidimadliaaKh
import Derived.Test.YtddhaidimadliaaKb
import Derived.Test.YtddhaidimadliaaJy

namespace Go.Proofs.Ytddhaidimadliaa
open Go.RowKit Go

/-- a place of the law: a visit and its word -/
def plc (p : Vst × IV) : List Value := [.int .i64 p.1.s, .int .i64 (p.1.k : Int), p.2.v]
set_option maxHeartbeats 800000 in
theorem places_IndexFunc (A : Option Addr) (c n : Nat) (l : List (Vst × IV)) (g : Nat) (cap : Value) (p : Vst × IV → Bool) (w : World) (hl : l.length = n) (h : RdR 3 plc w w.heap.size A l) (hc : n ≤ 1000000)
  (eg : ∀ args w, (callFunc g args).run Try.prog w = .ok (.enter g args) w)
  (hp : ∀ (x : Vst × IV) W, Below w.heap.size w W → Calls Try.prog g #[.agg #[.int .i64 x.1.s, .int .i64 (x.1.k : Int), x.2.v], cap] W fun e w' => e = .returned (.bool (p x)) ∧ Below W.heap.size W w') :
  Calls Try.prog 111 #[.slice A n c, .func (.func g) #[] #[cap]] w fun e w' => ∃ r : Int, e = .returned (.int .i64 r) ∧ decide (0 ≤ r) = l.any p ∧ Below w.heap.size w w' := by
 have HP := Lib.hid hp
 have HL := Lib.hid hl
 clear hp
 go_enter Try.func111, Try.ntmps111
 go_wp2
 go_loopw [4, 5, 8] (fun s4 s5 s8 wr => ∃ (k : Nat) (v4 v5 : Value), s4 = v4 ∧ s5 = v5 ∧ k ≤ n ∧ s8 = .int .i64 k ∧ Hid ((l.take k).any p = false) ∧ Hid (Below w.heap.size w wr)) (fun _ _ s8 _ => n - (intOf s8).toNat)
 case atStart => exact ⟨0, _, _, rfl, rfl, Nat.zero_le _, rfl, Lib.hid rfl, Lib.hid (Below.refl _ _)⟩
 case round =>
  obtain ⟨k, v4, v5, rfl, rfl, hk, rfl, HN, HB⟩ := hrel
  by_cases hlt : k < n
  ·obtain ⟨ad, x, rfl, hab, hx, hcl⟩ := (h.keep (fun q hq => HB.out.cell hq)).get (k := k) (by rw [HL.out]; exact hlt)
   have b1 : (k : Int) < (n : Int) := by omega
   have c0 : wr.cell? (ad.add (k * 3)) = some (.int .i64 x.1.s) := hcl 0 _ rfl
   have c1 : wr.cell? ⟨(ad.add (k * 3)).block, (ad.add (k * 3)).off + 1, none⟩ = some (.int .i64 (x.1.k : Int)) := ev_cells (j := 0) (hcl 1 _ rfl)
   have c2 : wr.cell? ⟨(ad.add (k * 3)).block, (ad.add (k * 3)).off + 2, none⟩ = some x.2.v := ev_cells (j := 1) (hcl 2 _ rfl)
   have HC := Lib.hid (HP.out x wr HB.out)
   obtain ⟨q, hq⟩ : ∃ q, p x = q := ⟨_, rfl⟩
   rw [hq] at HC
   have HQ := Lib.hid hq; clear hq
   have HX := Lib.hid hx; clear hx
   clear hcl hab
   cases q with
   | true =>
    have HR := Lib.hid (show decide (0 ≤ (k : Int)) = l.any p by rw [decide_eq_true (by omega), List.any_eq_true.2 ⟨x, List.mem_of_getElem? HX.out, HQ.out⟩])
    go_wp2_with fail
    refine HC.out.mono ?_
    rintro e w2 ⟨rfl, hb2⟩
    have HB2 := Lib.hid (HB.out.trans (hb2.mono HB.out.size))
    clear HC c0 c1 c2 hb2
    go_wp2
    go_ret
    exact ⟨_, rfl, HR.out, HB2.out⟩
   | false =>
    have HN2 := Lib.hid (show (l.take (k + 1)).any p = false by rw [List.take_add_one, HX.out, List.any_append, HN.out]; simp [HQ.out])
    go_wp2_with (go_at_fn g; refine HC.out.mono ?_; rintro e w2 ⟨rfl, hb2⟩; have HB2 := Lib.hid (HB.out.trans (hb2.mono HB.out.size)))
    go_roundw
    case rel => exact ⟨k + 1, _, _, rfl, rfl, by omega, by go_num, HN2, HB2⟩
    case measure => simp [intOf]; omega
  ·obtain rfl : k = n := by omega
   have b1 : ¬ (k : Int) < (k : Int) := by omega
   have HR := Lib.hid (show decide (0 ≤ (-1 : Int)) = l.any p by
    have := HN.out
    rw [List.take_of_length_le (by rw [HL.out]; exact Nat.le_refl _)] at this
    rw [this]
    decide)
   go_wp2
   go_ret
   exact ⟨_, rfl, HR.out, HB.out⟩
theorem places_ContainsFunc (A : Option Addr) (c n : Nat) (l : List (Vst × IV)) (g : Nat) (cap : Value) (p : Vst × IV → Bool) (q : Bool) (w : World) (hl : l.length = n) (h : RdR 3 plc w w.heap.size A l) (hc : n ≤ 1000000)
  (eg : ∀ args w, (callFunc g args).run Try.prog w = .ok (.enter g args) w)
  (hp : ∀ (x : Vst × IV) W, Below w.heap.size w W → Calls Try.prog g #[.agg #[.int .i64 x.1.s, .int .i64 (x.1.k : Int), x.2.v], cap] W fun e w' => e = .returned (.bool (p x)) ∧ Below W.heap.size W w') (hq : l.any p = q) :
  Calls Try.prog 74 #[.slice A n c, .func (.func g) #[] #[cap]] w fun e w' => e = .returned (.bool q) ∧ Below w.heap.size w w' := by
 have HI := Lib.hid (places_IndexFunc A c n l g cap p w hl h hc eg hp)
 rw [hq] at HI
 clear hp h hq
 go_enter Try.func74, Try.ntmps74
 go_wp2_with fail
 refine HI.out.mono ?_
 rintro e w' ⟨r, rfl, hr, hb⟩
 have HB := Lib.hid hb
 have HR := Lib.hid hr
 clear hb hr
 go_wp2
 go_ret
 exact ⟨ret_bool HR.out, HB.out⟩
theorem excuse1_ok (b : Nat) (s k s1 k1 : Int) (v : Value) (w : World) (h0 : w.cell? ⟨b, 0, none⟩ = some (.int .i64 s1)) (h1 : w.cell? ⟨b, 1, none⟩ = some (.int .i64 k1)) (hb : b < w.heap.size) :
  Calls Try.prog 75 #[.agg #[.int .i64 s, .int .i64 k, v], .pointer (some ⟨b, 0, none⟩)] w fun e w' => e = .returned (.bool (s == s1 && k == k1)) ∧ Below w.heap.size w w' := by
 have hbx := box_below w (.cells #[.int .i64 s, .int .i64 k, v] 142)
 obtain ⟨w1, hw1⟩ : ∃ w1, w1 = w.alloc (.cells #[.int .i64 s, .int .i64 k, v] 142) := ⟨_, rfl⟩
 have kx : Blk w1 w.heap.size 142 [.int .i64 s, .int .i64 k, v] := by rw [hw1]; exact Blk.new _ _ [_, _, _]
 rw [← hw1] at hbx
 have c0 := kx.cell (j := 0) rfl
 have c1 := kx.cell (j := 1) rfl
 have d0 := (hbx.cell (p := ⟨b, 0, none⟩) hb).trans h0
 have d1 := (hbx.cell (p := ⟨b, 1, none⟩) hb).trans h1
 have HW1 := Lib.hid hw1; clear hw1
 have HB1 := Lib.hid hbx; clear hbx
 clear kx h0 h1
 by_cases e1 : s = s1
 ·subst e1
  by_cases e2 : k = k1
  ·subst e2
   go_enter Try.func75, Try.ntmps75
   go_upto_region 1 with fail
   rw [← HW1.out]
   go_wp2
   go_ret
   exact ⟨by simp, HB1.out⟩
  ·have f2 : (k == k1) = false := by simpa using e2
   go_enter Try.func75, Try.ntmps75
   go_upto_region 1 with fail
   rw [← HW1.out]
   go_wp2
   go_ret
   exact ⟨by simp [f2], HB1.out⟩
 ·have f1 : (s == s1) = false := by simpa using e1
  go_enter Try.func75, Try.ntmps75
  go_upto_region 1 with fail
  rw [← HW1.out]
  go_wp2
  go_ret
  exact ⟨by simp [f1], HB1.out⟩
end Go.Proofs.Ytddhaidimadliaa
/- Walk: the law's excuse. -/
namespace Go.Proofs.Ytddhaidimadliaa
open Go.RowKit Go

theorem plc_info : (Try.prog.info? 142).map (fun i => (i.zero, i.size, i.bytes)) = some (some (.agg #[.int .i64 0, .int .i64 0, .slice none 0 0]), 3, 40) := by kernel_rfl
/-- the law's places in memory -/
structure LwN (B : Nat) (w0 w : World) (lv : Value) (nl : Nat) (l2 : List (Vst × IV)) : Prop where
 bel : Below B w0 w
 siz : B ≤ w.heap.size
 own : w.ownsRow B 142 3 lv nl (l2.flatMap plc)
 ln : l2.length = nl
 wds : ∀ p ∈ l2, p.2.l.length = p.2.n ∧ w.ownsRow B 3 1 p.2.v p.2.n (iv p.2.l)
 wrd : ∀ (j : Nat) (p : Vst × IV), l2[j]? = some p → p.2.l = exW (l2.map Prod.fst) j
section
variable {B : Nat} {w0 w w' : World} {lv : Value} {nl : Nat} {l2 : List (Vst × IV)}
theorem LwN.quiet (h : LwN B w0 w lv nl l2) (hb : Below w.heap.size w w') : LwN B w0 w' lv nl l2 :=
 ⟨h.bel.trans (hb.mono h.siz), Nat.le_trans h.siz hb.size, own_below h.own hb, h.ln, fun p hp => ⟨(h.wds p hp).1, own_below (h.wds p hp).2 hb⟩, h.wrd⟩
theorem LwN.kept (h : LwN B w0 w lv nl l2) {b : Nat} {t : TypeId} {vs : List Value} (hk : Blk w b t vs) (h1 : 142 ≠ t) (h2 : 3 ≠ t) (hB : B ≤ b) (hg : w.grownBy w' (some b)) : LwN B w0 w' lv nl l2 :=
 ⟨h.bel.grown hg h.siz (fun j hj => by injection hj with hj; omega), Nat.le_trans h.siz hg.size, h.own.kept hg (own_ne_blk h.own hk h1), h.ln, fun p hp => ⟨(h.wds p hp).1, (h.wds p hp).2.kept hg (own_ne_blk (h.wds p hp).2 hk h2)⟩, h.wrd⟩
theorem LwN.add {m : Dm} {c : Int} {os : List Int} (h : LwN B w0 w lv nl l2) {A : Option Addr} {cc : Nat} {s : Int} {k i : Nat} {e : Int} {x : IV} (hI : ExI m c os (l2.map Prod.fst)) (hi : i < nl) (ho : w'.ownsRow B 142 3 (.slice A (nl + 1) cc) (nl + 1) (l2.flatMap plc ++ [.int .i64 s, .int .i64 (k : Int), x.v])) (hg : w.grownBy w' lv.ownBlock)
  (hx : w.ownsRow B 3 1 x.v x.n (iv x.l)) (hxl : x.l.length = x.n) (hxw : x.l = exW (l2.map Prod.fst) i ++ [e]) : LwN B w0 w' (.slice A (nl + 1) cc) (nl + 1) (l2 ++ [(⟨s, k, i, e⟩, x)]) := by
 refine ⟨h.bel.grown hg h.siz (fun j hj => (h.own.lt j hj).1), Nat.le_trans h.siz hg.size, by rw [List.flatMap_append]; simpa [plc] using ho, by simp [h.ln], fun p hp => ?_, fun j p hp => ?_⟩
 ·rcases List.mem_append.1 hp with hp | hp
  ·exact ⟨(h.wds p hp).1, own_kept_ne (h.wds p hp).2 h.own (by decide) hg⟩
  ·rw [List.mem_singleton.1 hp]
   exact ⟨hxl, own_kept_ne hx h.own (by decide) hg⟩
 ·rw [List.map_append]
  have hml : (l2.map Prod.fst).length = l2.length := List.length_map ..
  by_cases hj : j < l2.length
  ·rw [List.getElem?_append_left hj] at hp
   rw [exW_app hI (by rw [hml]; exact hj), h.wrd j p hp]
  ·have hjl := (List.getElem?_eq_some_iff.1 hp).1
   rw [List.length_append, List.length_singleton] at hjl
   obtain rfl : j = l2.length := by omega
   rw [List.getElem?_append_right (Nat.le_refl _), Nat.sub_self] at hp
   obtain rfl : (⟨s, k, i, e⟩, x) = p := by simpa using hp
   have := exW_new hI (i := i) (by rw [hml, h.ln]; exact hi) s k e
   rw [hml] at this
   show x.l = exW (l2.map Prod.fst ++ [⟨s, k, i, e⟩]) l2.length
   rw [this, hxw]
end
theorem any_exH {l2 : List (Vst × IV)} {s : Int} {k : Nat} : (l2.any fun p => p.1.s == s && ((p.1.k : Int) == (k : Int))) = exH (l2.map Prod.fst) s k := by
 unfold exH
 rw [List.any_map]
 congr 1
 funext p
 simp only [Function.comp]
 congr 1
 rw [Bool.eq_iff_iff, beq_iff_eq, beq_iff_eq]
 omega
/-- what the law's excuse returns -/
def RetLx (r : Option (List Int)) (w : World) (e : Ending) (w' : World) : Prop := ∃ x : IV, e = .returned (.tuple #[x.v, .bool r.isSome]) ∧ x.l = r.getD [] ∧ x.ok w' w'.heap.size ∧ Below w.heap.size w w'
theorem RetLx.none_ {w w' : World} (hb : Below w.heap.size w w') : RetLx none w (.returned (.tuple #[.slice none 0 0, .bool false])) w' := ⟨⟨none, 0, 0, []⟩, rfl, rfl, ⟨rfl, Nat.le_refl _, by decide, RdV.nil⟩, hb⟩
set_option maxRecDepth 100000 in
set_option maxHeartbeats 25600000 in
theorem law_excuse (z : DV) (c : Int) (y : IV) (w : World) (h : z.ok w w.heap.size) (hw : WF z.x.a) (hev : ∀ x ∈ z.x.a.al, 0 ≤ x ∧ x < (z.nv : Int)) (hs : z.x.a.st ≤ 40) (hy : y.ok w w.heap.size) (hyn : y.n ≤ 4096) :
  Calls Try.prog 31 #[.agg (dvc z).toArray, .int .i64 c, y.v] w (RetLx (excE z.m c y.l) w) := by
 have hna : z.x.na ≤ 32 := by have h1 := hw.al_le; rw [h.x.la] at h1; exact h1
 have HST := Lib.hid (fun (W : World) (hz : z.ok W W.heap.size) (s v : Int) => law_step z.x.A z.x.na z.x.ca z.x.M z.x.nm z.x.cm z.x.E z.x.ne z.x.ce z.x.a s v W hz.x)
 obtain ⟨m, hm⟩ : ∃ m, z.m = m := ⟨_, rfl⟩
 have hma : m.a = z.x.a := by rw [← hm]; rfl
 have HFT := Lib.hid (fun (j : Nat) (e : Ev) (hj : z.l[j]? = some e) => (show m.ft (j : Int) = e.fault ∧ m.ob (j : Int) = e.o by rw [← hm]; exact ⟨by simp [Dm.ft, DV.m, gI, hj], by simp [Dm.ob, DV.m, fl, hj]⟩))
 have HMW := Lib.hid (show WF m.a by rw [hma]; exact hw)
 have HEV := Lib.hid (show ∀ x ∈ m.a.al, 0 ≤ x ∧ x < (z.nv : Int) by rw [hma]; exact hev)
 have hms : m.a.st ≤ 40 := by rw [hma]; exact hs
 have HLL := Lib.hid h.ll
 have HLA := Lib.hid (show m.a.al.length = z.x.na by rw [hma]; exact h.x.la)
 rw [hm]
 clear hm hw hev hs
 obtain ⟨⟨A, na, ca, M, nm, cm, E, ne, ce, a⟩, V, nv, cv, l9⟩ := z
 obtain ⟨YA, ns, cw, os⟩ := y
 have HNS := Lib.hid hy.la
 have hyc := hy.ac
 have hyc2 := hy.cA
 dsimp only at hma hyc hyc2 hna hyn HST
 subst hma
 obtain ⟨w1, hw1⟩ : ∃ w1, w1 = w.alloc (.cells #[.slice A na ca, .int .i64 m.a.st, .slice M nm cm, .slice E ne ce, .slice V nv cv] 37) := ⟨_, rfl⟩
 have hb1 := box_below w (.cells #[.slice A na ca, .int .i64 m.a.st, .slice M nm cm, .slice E ne ce, .slice V nv cv] 37)
 have kx : Blk w1 w.heap.size 37 [.slice A na ca, .int .i64 m.a.st, .slice M nm cm, .slice E ne ce, .slice V nv cv] := by rw [hw1]; exact Blk.new _ _ [_, _, _, _, _]
 rw [← hw1] at hb1
 have HK := Lib.hid (fun (W : World) (hb : Below w1.heap.size w1 W) => Blk.c5 (kx.below hb kx.lt))
 have HOK := Lib.hid (fun (W : World) (hb : Below w1.heap.size w1 W) => (h.below (hb1.trans (hb.mono hb1.size))).more (hb1.trans (hb.mono hb1.size)).size)
 have HOY := Lib.hid (fun (W : World) (hb : Below w1.heap.size w1 W) => (hy.below (hb1.trans (hb.mono hb1.size))).more (hb1.trans (hb.mono hb1.size)).size)
 have HBL := Lib.hid (fun (W : World) (hb : Below w1.heap.size w1 W) => hb1.trans (hb.mono hb1.size))
 have hs1 : w.heap.size ≤ w1.heap.size := hb1.size
 clear h hy kx hb1
 unfold dvc
 dsimp only [IV.v] at HOY ⊢
 obtain ⟨sv, hsv⟩ : ∃ s, m.a.st = s := ⟨_, rfl⟩
 obtain ⟨R, hR⟩ : ∃ r, excE m c os = r := ⟨_, rfl⟩
 rw [hR]
 rw [hsv] at hw1 HK HST hms ⊢
 have HW1 := Lib.hid hw1; clear hw1
 have HSV := Lib.hid hsv; clear hsv
 unfold excE at hR
 rw [HSV.out, HNS.out] at hR
 obtain ⟨a0, a1, a2, a3, a4⟩ := HK.out w1 (Below.refl _ _)
 have hsn : 0 ≤ sv := by have := HMW.out.st0; rw [HSV.out] at this; exact this
 by_cases h0 : sv = 0
 ·rw [if_pos h0] at hR
  subst hR
  have b0 : ¬ (0 : Int) < sv := by omega
  clear h0 hsn
  go_enter Try.func31, Try.ntmps31
  go_upto_region 2 with fail
  rw [← HW1.out]
  go_upto_region 5 with fail
  go_loopw [6, 7, 8, 9, 11, 12] (fun s6 s7 s8 s9 s11 s12 wr => ∃ (v6 v7 v11 v12 : Value), s6 = v6 ∧ s7 = v7 ∧ s8 = .slice none 0 0 ∧ s9 = .int .i64 0 ∧ s11 = v11 ∧ s12 = v12 ∧ w1 = wr) (fun _ _ _ _ _ _ _ => 0)
  case atStart => exact ⟨_, _, _, _, rfl, rfl, rfl, rfl, rfl, rfl, rfl⟩
  case round =>
   obtain ⟨v6, v7, v11, v12, rfl, rfl, rfl, rfl, rfl, rfl, rfl⟩ := hrel
   go_wp2
   refine bodyPost_ret (v := .tuple #[.slice none 0 0, .bool false]) (by simp [results, Try.results31, go_sem]) rfl ?_
   exact RetLx.none_ (HBL.out _ (Below.refl _ _))
 rw [if_neg h0] at hR
 have b0 : (0 : Int) < sv := by omega
 obtain ⟨G, hG⟩ : ∃ g, sv.toNat * (ns + 1) = g := ⟨_, rfl⟩
 have hG9 : G ≤ 163880 := by
  rw [← hG]
  have h1 : sv.toNat ≤ 40 := by omega
  calc sv.toNat * (ns + 1) ≤ 40 * 4097 := Nat.mul_le_mul h1 (by omega)
   _ = 163880 := rfl
 rw [hG] at hR
 have hGN : m.a.st.toNat * (os.length + 1) = G := by rw [HSV.out, HNS.out]; exact hG
 have HGN := Lib.hid hGN; clear hGN
 have HRR := Lib.hid (show R = exG m c os (G + 1 - 0) 0 [⟨0, 0, -1, 0⟩] from hR.symm)
 have HXI := Lib.hid (show ExI m c os [⟨0, 0, -1, 0⟩] from ⟨rfl, fun k t hk ht => by
  have := (List.getElem?_eq_some_iff.1 ht).1
  simp at this
  omega, fun t ht => by rw [List.mem_singleton.1 ht]; exact Nat.zero_le _⟩)
 have HXD := Lib.hid (show ExD m os [⟨0, 0, -1, 0⟩] from ⟨by simp, fun t ht => by rw [List.mem_singleton.1 ht]; exact ⟨⟨Int.le_refl 0, by rw [HSV.out]; exact b0⟩, Nat.zero_le _⟩⟩)
 clear hR hG h0
 go_enter Try.func31, Try.ntmps31
 go_upto_region 2 with fail
 rw [← HW1.out]
 go_upto_region 3 with fail
 go_wp2_with (first | (at_builtin; refine wpList_pushA w1 [.int .i64 0, .int .i64 0, .slice none 0 0] rfl (.tmp 17) (.tmp 19) 138 rfl w1.heap.size 142 (.agg #[.int .i64 0, .int .i64 0, .slice none 0 0]) 3 40 Try.underlying138 plc_info rfl (by decide) rfl (.slice none 0 0) 0 [] rfl (World.ownsRow_nil _ _ _ _) rfl (fun u hu => by simp at hu; rcases hu with rfl | rfl <;> rfl) (by omega) (by omega) (Nat.le_refl _) ?_; intro A8 c8 w8 ho8 hg8 hl8; have HO8 := Lib.hid ho8; have HG8 := Lib.hid hg8; clear ho8 hg8 hl8) | fail)
 have HEX := Lib.hid (show LwN w1.heap.size w1 w8 (.slice A8 1 c8) 1 [(⟨0, 0, -1, 0⟩, ⟨none, 0, 0, []⟩)] from ⟨(Below.refl _ _).grown HG8.out (Nat.le_refl _) (fun j hj => by simp [Value.ownBlock] at hj), HG8.out.size, HO8.out, rfl, fun p hp => by
  rw [List.mem_singleton.1 hp]
  exact ⟨rfl, World.ownsRow_nil _ _ _ _⟩, fun j p hp => by
  have hj := (List.getElem?_eq_some_iff.1 hp).1
  simp at hj
  subst hj
  simp at hp
  subst hp
  rfl⟩)
 clear HO8 HG8
 go_upto_region 5 with fail
 go_loopw [6, 7, 8, 9, 11, 12] (fun s6 s7 s8 s9 s11 s12 wr => ∃ (i nl : Nat) (LA : Option Addr) (lc : Nat) (v6 v7 v11 v12 : Value) (l2 : List (Vst × IV)), s6 = v6 ∧ s7 = v7 ∧ s8 = .slice LA nl lc ∧ s9 = .int .i64 i ∧ s11 = v11 ∧ s12 = v12 ∧ i ≤ nl ∧ nl ≤ G ∧ Hid (LwN w1.heap.size w1 wr (.slice LA nl lc) nl l2) ∧ Hid (ExI m c os (l2.map Prod.fst)) ∧ Hid (ExD m os (l2.map Prod.fst)) ∧ Hid (R = exG m c os (G + 1 - i) i (l2.map Prod.fst))) (fun _ _ _ s9 _ _ _ => G + 1 - (intOf s9).toNat)
 case atStart => exact ⟨0, 1, _, _, _, _, _, _, [(⟨0, 0, -1, 0⟩, ⟨none, 0, 0, []⟩)], rfl, rfl, rfl, rfl, rfl, rfl, by omega, by have h9 := HXD.out.len; rw [HGN.out] at h9; exact h9, HEX, HXI, HXD, HRR⟩
 case round =>
  clear HEX HXI HXD HRR
  obtain ⟨i, nl, LA, lc, v6, v7, v11, v12, l2, rfl, rfl, rfl, rfl, rfl, rfl, hi, hnl, HEX, HXI, HXD, HRR⟩ := hrel
  by_cases hlt : i < nl
  case neg =>
   obtain rfl : i = nl := by omega
   have b1 : ¬ (i : Int) < (i : Int) := by omega
   have HR2 := Lib.hid (show R = none by rw [HRR.out]; exact exG_end (by rw [List.getElem?_eq_none]; rw [List.length_map, HEX.out.ln]; exact Nat.le_refl _))
   have HF := Lib.hid (HBL.out _ HEX.out.bel)
   go_wp2
   refine bodyPost_ret (v := .tuple #[.slice none 0 0, .bool false]) (by simp [results, Try.results31, go_sem]) rfl ?_
   rw [HR2.out]
   exact RetLx.none_ HF.out
  have b1 : (i : Int) < (nl : Int) := by omega
  obtain ⟨ad, tt, rfl, hab, htt, hcl⟩ := (RdR.of_own (f := plc) (by omega) (fun _ _ => rfl) HEX.out.own).get (k := i) (by rw [HEX.out.ln]; exact hlt)
  obtain ⟨tv, tx⟩ := tt
  have htv : (l2.map Prod.fst)[i]? = some tv := by rw [List.getElem?_map, htt]; rfl
  have htr := HXD.out.rng tv (List.mem_of_getElem? htv)
  have htn : tv.k ≤ ns := by rw [← HNS.out]; exact htr.2
  have htt0 : 0 ≤ tv.s := htr.1.1
  have HTT := Lib.hid htt
  have HTV := Lib.hid htv
  have c0 : wr.cell? (ad.add (i * 3)) = some (.int .i64 tv.s) := hcl 0 _ rfl
  have c1 : wr.cell? ⟨(ad.add (i * 3)).block, (ad.add (i * 3)).off + 1, none⟩ = some (.int .i64 (tv.k : Int)) := ev_cells (j := 0) (hcl 1 _ rfl)
  have c2 : wr.cell? ⟨(ad.add (i * 3)).block, (ad.add (i * 3)).off + 2, none⟩ = some tx.v := ev_cells (j := 1) (hcl 2 _ rfl)
  obtain ⟨tk, htk⟩ : ∃ k, tv.k = k := ⟨_, rfl⟩
  obtain ⟨ts, hts⟩ : ∃ k, tv.s = k := ⟨_, rfl⟩
  rw [htk] at c1 htn
  rw [hts] at c0 htt0
  have HTK := Lib.hid htk
  have HTS := Lib.hid hts
  clear hcl htt htr htv
  by_cases hkn : tk = ns
  case pos =>
   have HRX := Lib.hid (show R = some tx.l by
    rw [HRR.out, show G + 1 - i = (G - i) + 1 by omega, exG_hit HTV.out (by rw [HTK.out, hkn, HNS.out]), exB_fin HXI.out (by rw [List.length_map, HEX.out.ln]; exact hlt), HEX.out.wrd i _ HTT.out])
   have b2 : ((tk : Int) == (ns : Int)) = true := by rw [hkn]; exact beq_self_eq_true _
   have hwd := HEX.out.wds _ (List.mem_of_getElem? HTT.out)
   obtain ⟨XA, xn, xc, xl⟩ := tx
   dsimp only [IV.v] at c2 hwd HRX
   have ho := hwd.2
   rw [← hwd.1] at ho
   obtain ⟨XB, xd, hxe, x1, x2, rdx⟩ := own_slI ho
   obtain ⟨rfl, rfl⟩ : XA = XB ∧ xc = xd := by injection hxe with e1 _ e2; exact ⟨e1, e2⟩
   have HF := Lib.hid (show IV.ok wr wr.heap.size ⟨XA, xn, xc, xl⟩ ∧ Below w.heap.size w wr from ⟨⟨hwd.1, by rw [← hwd.1]; exact x1, x2, rdx⟩, HBL.out _ HEX.out.bel⟩)
   clear hwd ho hxe x1 x2 rdx
   go_wp2
   refine bodyPost_ret (v := .tuple #[.slice XA xn xc, .bool true]) (by simp [results, Try.results31, go_sem]) rfl ?_
   rw [HRX.out]
   exact ⟨⟨XA, xn, xc, xl⟩, rfl, rfl, HF.out⟩
  have hkl : tk < ns := by omega
  have b2 : ((tk : Int) == (ns : Int)) = false := beq_eq_false_iff_ne.2 (by omega)
  have HRX := Lib.hid (show R = exG m c os (G - i) (i + 1) (exX m c os i tv (m.a.al.drop 0) (l2.map Prod.fst)) by
   rw [HRR.out, show G + 1 - i = (G - i) + 1 by omega]; exact exG_round HTV.out (by rw [HTK.out, HNS.out]; exact hkn))
  obtain ⟨yk, hyk⟩ : ∃ x, os[tk]? = some x := ⟨_, List.getElem?_eq_getElem (by rw [HNS.out]; exact hkl)⟩
  have HYK := Lib.hid hyk
  obtain ⟨a0, a1, a2, a3, a4⟩ := HK.out wr HEX.out.bel
  clear hyk HRR
  go_upto_region 10 with fail
  clear c0 c1 c2 a0 a1 a2 a3 a4
  go_loopw [8, 11, 12, 45] (fun s8 s11 s12 s45 wr => ∃ (j nl : Nat) (LA : Option Addr) (lc : Nat) (v11 v12 : Value) (l2 : List (Vst × IV)), s8 = .slice LA nl lc ∧ s11 = v11 ∧ s12 = v12 ∧ s45 = .int .i64 j ∧ j ≤ na ∧ i + 1 ≤ nl ∧ nl ≤ G ∧ Hid (LwN w1.heap.size w1 wr (.slice LA nl lc) nl l2) ∧ Hid (ExI m c os (l2.map Prod.fst)) ∧ Hid (ExD m os (l2.map Prod.fst)) ∧ Hid (l2[i]? = some (tv, tx)) ∧ Hid (R = exG m c os (G - i) (i + 1) (exX m c os i tv (m.a.al.drop j) (l2.map Prod.fst)))) (fun _ _ _ s45 _ => na - (intOf s45).toNat)
  case atStart => exact ⟨0, nl, _, _, _, _, l2, rfl, rfl, rfl, rfl, by omega, by omega, hnl, HEX, HXI, HXD, HTT, HRX⟩
  case round =>
   clear HEX HXI HXD HTT HTV HRX hab hnl hlt hi b1
   obtain ⟨j, nl, LA, lc, v11, v12, l2, rfl, rfl, rfl, rfl, hj, hil, hnl, HEX, HXI, HXD, HTT, HRX⟩ := hrel
   by_cases hja : j < na
   case neg =>
    obtain rfl : j = na := by omega
    have b3 : ¬ (j : Int) < (j : Int) := by omega
    have HR9 := Lib.hid (show R = exG m c os (G + 1 - (i + 1)) (i + 1) (l2.map Prod.fst) by
     rw [HRX.out, List.drop_of_length_le (by have := HLA.out; omega), show G + 1 - (i + 1) = G - i by omega]; rfl)
    go_wp2
    go_roundw
    case rel => exact ⟨i + 1, nl, _, _, _, _, _, _, l2, rfl, rfl, rfl, by go_num, rfl, rfl, by omega, hnl, HEX, HXI, HXD, HR9⟩
    case measure => simp [intOf]; omega
   have b3 : (j : Int) < (na : Int) := by omega
   have b1 : (i : Int) < (nl : Int) := by omega
   obtain ⟨x, hx⟩ : ∃ x, m.a.al[j]? = some x := ⟨_, List.getElem?_eq_getElem (by have := HLA.out; omega)⟩
   have hbw := HEX.out.bel
   obtain ⟨aa, rfl, haa, hca⟩ := (HOK.out wr hbw).x.ra j (.int .i64 x) (by simp [iv, hx])
   have hxr := HEV.out x (List.mem_of_getElem? hx)
   have HXM := Lib.hid (List.mem_of_getElem? hx)
   have HRY := Lib.hid (show R = exG m c os (G - i) (i + 1) (exX m c os i tv (x :: m.a.al.drop (j + 1)) (l2.map Prod.fst)) by rw [← drop_cons' hx]; exact HRX.out)
   obtain ⟨ad, tt', rfl, hab, htt', hcl⟩ := (RdR.of_own (f := plc) (by omega) (fun _ _ => rfl) HEX.out.own).get (k := i) (by rw [HEX.out.ln]; omega)
   obtain rfl : (tv, tx) = tt' := by have := HTT.out; rw [htt'] at this; exact (Option.some.inj this).symm
   obtain ⟨jx, rfl⟩ : ∃ j : Nat, x = (j : Int) := ⟨x.toNat, by omega⟩
   have b4 : (jx : Int) < (nv : Int) := hxr.2
   have HTV := Lib.hid (show (l2.map Prod.fst)[i]? = some tv by rw [List.getElem?_map, HTT.out]; rfl)
   clear hx HRX htt'
   go_upto_region 12 with fail
   have HCV := Lib.hid (fun (W : World) (hW : Below wr.heap.size wr W) => (show W.cell? (ad.add (i * 3)) = some (.int .i64 ts) ∧ W.cell? ⟨(ad.add (i * 3)).block, (ad.add (i * 3)).off + 1, none⟩ = some (.int .i64 (tk : Int)) from
    ⟨(hW.cell (by rw [block_of_add]; exact hab)).trans (by rw [← HTS.out]; exact hcl 0 _ rfl), ev_cells (j := 0) ((hW.cell (by rw [block_of_add]; exact hab)).trans (by rw [← HTK.out]; exact hcl 1 _ rfl))⟩))
   have HKW := Lib.hid (fun (W : World) (hW : Below wr.heap.size wr W) => HK.out W (HEX.out.bel.trans (hW.mono HEX.out.siz)))
   have HOW := Lib.hid (fun (W : World) (hW : Below wr.heap.size wr W) => HOK.out W (HEX.out.bel.trans (hW.mono HEX.out.siz)))
   clear hcl hca haa hbw
   obtain ⟨nx, hnx⟩ : ∃ z, nxt m.a ts (jx : Int) = z := ⟨_, rfl⟩
   go_cut [12, 45] from 49 to 114 (fun s12 s45 wx => ∃ (nb : Nat), s12 = .pointer (some ⟨nb, 0, none⟩) ∧ s45 = .int .i64 j ∧ Hid (Blk wx nb 140 [.int .i64 nx, .int .i64 (tk : Int)] ∧ w1.heap.size ≤ nb) ∧ Hid (LwN w1.heap.size w1 wx (.slice (some ad) nl lc) nl l2))
   case first =>
    refine wp_region_U (fun W => (W.cell? ⟨w.heap.size, 0, none⟩ = some (.slice (some aa) na ca) ∧ W.cell? ⟨w.heap.size, 1, none⟩ = some (.int .i64 sv) ∧ W.cell? ⟨w.heap.size, 2, none⟩ = some (.slice M nm cm) ∧ W.cell? ⟨w.heap.size, 3, none⟩ = some (.slice E ne ce)) ∧ W.cell? (ad.add (i * 3)) = some (.int .i64 ts) ∧ W.cell? ⟨(ad.add (i * 3)).block, (ad.add (i * 3)).off + 1, none⟩ = some (.int .i64 (tk : Int))) (fun _ => True) 18 (by kernel_rfl) ?_
    change anyU _ _ _ _ _ _ _ 19 _ _ _
    have hB0 : True := trivial
    have HAW := Lib.hid (fun (W : World) (hW : Below wr.heap.size wr W) => (show (W.cell? ⟨w.heap.size, 0, none⟩ = some (.slice (some aa) na ca) ∧ W.cell? ⟨w.heap.size, 1, none⟩ = some (.int .i64 sv) ∧ W.cell? ⟨w.heap.size, 2, none⟩ = some (.slice M nm cm) ∧ W.cell? ⟨w.heap.size, 3, none⟩ = some (.slice E ne ce)) ∧ W.cell? (ad.add (i * 3)) = some (.int .i64 ts) ∧ W.cell? ⟨(ad.add (i * 3)).block, (ad.add (i * 3)).off + 1, none⟩ = some (.int .i64 (tk : Int)) from ⟨⟨(HKW.out W hW).1, (HKW.out W hW).2.1, (HKW.out W hW).2.2.1, (HKW.out W hW).2.2.2.1⟩, (HCV.out W hW).1, (HCV.out W hW).2⟩))
    have HBD := Lib.hid (below_dr wr)
    generalize wr.drew = wd at HBD ⊢
    have hA0 := HAW.out wd HBD.out
    (refine uA 0 ?_ rfl hA0 hB0 (fun W hA => ?_) ?_; rotate_left; (· (obtain ⟨⟨a0, a1, a2, a3⟩, c0, c1⟩ := hA; go_simp; try with_reducible rfl)); (try simp only [Act.put, List.setIfInBounds_toArray, List.set_cons_zero, List.set_cons_succ]))
    (refine uA 1 ?_ rfl hA0 hB0 (fun W hA => ?_) ?_; rotate_left; (· (obtain ⟨⟨a0, a1, a2, a3⟩, c0, c1⟩ := hA; go_simp; try with_reducible rfl)); (try simp only [Act.put, List.setIfInBounds_toArray, List.set_cons_zero, List.set_cons_succ]))
    (refine uA 2 ?_ rfl hA0 hB0 (fun W hA => ?_) ?_; rotate_left; (· (go_simp; try with_reducible rfl)); refine uA 3 ?_ rfl hA0 hB0 (fun W hA => ?_) ?_; rotate_left; (· (go_simp; try with_reducible rfl)); refine uA 4 ?_ rfl hA0 hB0 (fun W hA => ?_) ?_; rotate_left; (· (go_simp; try with_reducible rfl)); refine uA 5 ?_ rfl hA0 hB0 (fun W hA => ?_) ?_; rotate_left; (· (go_simp; try with_reducible rfl)); refine uA 6 ?_ rfl hA0 hB0 (fun W hA => ?_) ?_; rotate_left; (· (go_simp; try with_reducible rfl)); (try simp only [Act.put, List.setIfInBounds_toArray, List.set_cons_zero, List.set_cons_succ]))
    (refine uA 7 ?_ rfl hA0 hB0 (fun W hA => ?_) ?_; rotate_left; (· (obtain ⟨⟨a0, a1, a2, a3⟩, c0, c1⟩ := hA; go_simp; try with_reducible rfl)); (try simp only [Act.put, List.setIfInBounds_toArray, List.set_cons_zero, List.set_cons_succ]))
    (refine uA 8 ?_ rfl hA0 hB0 (fun W hA => ?_) ?_; rotate_left; (· (go_simp; try with_reducible rfl)); refine uA 10 ?_ rfl hA0 hB0 (fun W hA => ?_) ?_; rotate_left; (· (go_simp; try with_reducible rfl)); refine uA 11 ?_ rfl hA0 hB0 (fun W hA => ?_) ?_; rotate_left; (· (go_simp; try with_reducible rfl)); refine uA 12 ?_ rfl hA0 hB0 (fun W hA => ?_) ?_; rotate_left; (· (go_simp; try with_reducible rfl)); refine uA 13 ?_ rfl hA0 hB0 (fun W hA => ?_) ?_; rotate_left; (· (go_simp; try with_reducible rfl)); refine uA 14 ?_ rfl hA0 hB0 (fun W hA => ?_) ?_; rotate_left; (· (go_simp; try with_reducible rfl)); (try simp only [Act.put, List.setIfInBounds_toArray, List.set_cons_zero, List.set_cons_succ]))
    (refine uA 15 ?_ rfl hA0 hB0 (fun W hA => ?_) ?_; rotate_left; (· (obtain ⟨⟨a0, a1, a2, a3⟩, c0, c1⟩ := hA; go_simp; try with_reducible rfl)); (try simp only [Act.put, List.setIfInBounds_toArray, List.set_cons_zero, List.set_cons_succ]))
    clear hA0
    refine uTwo (i := 9) (j := 17) rfl rfl (by kernel_rfl) (fun K hK => ?_) (fun K hK => ?_)
    ·have HC := Lib.hid (HST.out wd (HOW.out wd HBD.out) ts (jx : Int))
     rw [hnx] at HC
     go_simp
     go_at_call 32
     refine HC.out.mono ?_
     rintro _ w7 ⟨rfl, hb7⟩
     have HB7 := Lib.hid (HBD.out.trans (hb7.mono HBD.out.size))
     have hA0 := HAW.out w7 HB7.out
     clear HC hb7
     go_simp
     (refine hK _ _ ⟨hA0, fun _ => hB0⟩ ?_; clear hK K; (try simp only [Act.put, List.setIfInBounds_toArray, List.set_cons_zero, List.set_cons_succ]))
     (refine uA 16 ?_ rfl hA0 hB0 (fun W hA => ?_) ?_; rotate_left; (· (go_simp; try with_reducible rfl)); (try simp only [Act.put, List.setIfInBounds_toArray, List.set_cons_zero, List.set_cons_succ]))
     clear hA0
     have hbx := box_below w7 (.cells #[.int .i64 0, .int .i64 0] 140)
     have hA0 := HAW.out _ (HB7.out.trans (hbx.mono HB7.out.size))
     refine uOne (i := 17) rfl (by kernel_rfl) (fun K hK => ?_)
     go_simp
     (refine hK _ _ ⟨hA0, fun _ => hB0⟩ ?_; clear hK K; (try simp only [Act.put, List.setIfInBounds_toArray, List.set_cons_zero, List.set_cons_succ]))
     have kz : Blk (w7.alloc (.cells #[.int .i64 0, .int .i64 0] 140)) w7.heap.size 140 [.int .i64 0, .int .i64 0] := Blk.new _ _ [_, _]
     have HX7 := Lib.hid (HEX.out.quiet (HB7.out.trans (hbx.mono HB7.out.size)))
     have hsz7 : wr.heap.size ≤ w7.heap.size := HB7.out.size
     obtain ⟨nb, hnb⟩ : ∃ b, w7.heap.size = b := ⟨_, rfl⟩
     rw [hnb] at kz ⊢
     generalize w7.alloc (.cells #[.int .i64 0, .int .i64 0] 140) = w8 at kz HX7 hbx hA0 ⊢
     have g0 := kz.cell (j := 0) rfl
     have g1 := kz.cell (j := 1) rfl
     have f0 := kz.free 0
     have f1 := kz.free 1
     have l0 := kz.lt
     have HKS := Lib.hid ((kz.set (j := 0) (by simp) (.int .i64 nx)).set (j := 1) (by simp) (.int .i64 (tk : Int)))
     have HGS := Lib.hid ((grown_setCell w8 nb 0 (.int .i64 nx)).trans (grown_setCell (w8.setCell ⟨nb, 0, none⟩ (.int .i64 nx)) nb 1 (.int .i64 (tk : Int))))
     have HX8 := Lib.hid (HX7.out.kept kz (by decide) (by decide) (by have := HEX.out.siz; omega) HGS.out)
     have hA9 : (fun W : World => (W.cell? ⟨w.heap.size, 0, none⟩ = some (.slice (some aa) na ca) ∧ W.cell? ⟨w.heap.size, 1, none⟩ = some (.int .i64 sv) ∧ W.cell? ⟨w.heap.size, 2, none⟩ = some (.slice M nm cm) ∧ W.cell? ⟨w.heap.size, 3, none⟩ = some (.slice E ne ce)) ∧ W.cell? (ad.add (i * 3)) = some (.int .i64 ts) ∧ W.cell? ⟨(ad.add (i * 3)).block, (ad.add (i * 3)).off + 1, none⟩ = some (.int .i64 (tk : Int))) ((w8.setCell ⟨nb, 0, none⟩ (.int .i64 nx)).setCell ⟨nb, 1, none⟩ (.int .i64 (tk : Int))) :=
      HAW.out _ (((HB7.out.trans ((show Below w7.heap.size w7 w8 from hbx).mono HB7.out.size))).grown HGS.out (by omega) (fun j hj => by injection hj with hj; omega))
     have hA1 := hA9
     clear hA0 HX7
     refine uOne (i := 18) rfl (by kernel_rfl) (fun K hK => ?_)
     go_simp
     generalize (w8.setCell ⟨nb, 0, none⟩ (.int .i64 nx)).setCell ⟨nb, 1, none⟩ (.int .i64 (tk : Int)) = w9 at HKS HX8 hA1 hA9 ⊢
     (refine hK _ _ ⟨hA1, fun _ => hB0⟩ ?_; clear hK K; (try simp only [Act.put, List.setIfInBounds_toArray, List.set_cons_zero, List.set_cons_succ]))
     refine anyU_done (by kernel_rfl) ?_ _
     go_wp2_with fail
     go_meet
     case rel => exact ⟨nb, rfl, rfl, Lib.hid ⟨HKS.out, by have := HEX.out.siz; omega⟩, HX8⟩
    ·have hbx := box_below wd (.cells #[.int .i64 0, .int .i64 0] 140)
     have HBX := Lib.hid (HBD.out.trans (hbx.mono HBD.out.size))
     have hA0 := HAW.out _ HBX.out
     have kz0 : Blk (wd.alloc (.cells #[.int .i64 0, .int .i64 0] 140)) wd.heap.size 140 [.int .i64 0, .int .i64 0] := Blk.new _ _ [_, _]
     have hsz7 : wr.heap.size ≤ wd.heap.size := HBD.out.size
     go_simp
     (refine hK _ _ ⟨hA0, fun _ => hB0⟩ ?_; clear hK K; (try simp only [Act.put, List.setIfInBounds_toArray, List.set_cons_zero, List.set_cons_succ]))
     obtain ⟨nb, hnb⟩ : ∃ b, wd.heap.size = b := ⟨_, rfl⟩
     rw [hnb] at kz0 ⊢
     generalize wd.alloc (.cells #[.int .i64 0, .int .i64 0] 140) = w6 at kz0 HBX hbx hA0 ⊢
     have HC := Lib.hid (HST.out w6 (HOW.out w6 HBX.out) ts (jx : Int))
     rw [hnx] at HC
     refine uOne (i := 9) rfl (by kernel_rfl) (fun K hK => ?_)
     go_simp
     go_at_call 32
     refine HC.out.mono ?_
     rintro _ w8 ⟨rfl, hb8⟩
     have HB8 := Lib.hid (HBX.out.trans (hb8.mono HBX.out.size))
     have kz := kz0.below hb8 kz0.lt
     clear hA0
     have hA0 := HAW.out w8 HB8.out
     have HX7 := Lib.hid (HEX.out.quiet HB8.out)
     clear HC hb8 kz0 hbx
     go_simp
     (refine hK _ _ ⟨hA0, fun _ => hB0⟩ ?_; clear hK K; (try simp only [Act.put, List.setIfInBounds_toArray, List.set_cons_zero, List.set_cons_succ]))
     (refine uA 16 ?_ rfl hA0 hB0 (fun W hA => ?_) ?_; rotate_left; (· (go_simp; try with_reducible rfl)); (try simp only [Act.put, List.setIfInBounds_toArray, List.set_cons_zero, List.set_cons_succ]))
     have g0 := kz.cell (j := 0) rfl
     have g1 := kz.cell (j := 1) rfl
     have f0 := kz.free 0
     have f1 := kz.free 1
     have l0 := kz.lt
     have HKS := Lib.hid ((kz.set (j := 0) (by simp) (.int .i64 nx)).set (j := 1) (by simp) (.int .i64 (tk : Int)))
     have HGS := Lib.hid ((grown_setCell w8 nb 0 (.int .i64 nx)).trans (grown_setCell (w8.setCell ⟨nb, 0, none⟩ (.int .i64 nx)) nb 1 (.int .i64 (tk : Int))))
     have HX8 := Lib.hid (HX7.out.kept kz (by decide) (by decide) (by have := HEX.out.siz; omega) HGS.out)
     have hA9 : (fun W : World => (W.cell? ⟨w.heap.size, 0, none⟩ = some (.slice (some aa) na ca) ∧ W.cell? ⟨w.heap.size, 1, none⟩ = some (.int .i64 sv) ∧ W.cell? ⟨w.heap.size, 2, none⟩ = some (.slice M nm cm) ∧ W.cell? ⟨w.heap.size, 3, none⟩ = some (.slice E ne ce)) ∧ W.cell? (ad.add (i * 3)) = some (.int .i64 ts) ∧ W.cell? ⟨(ad.add (i * 3)).block, (ad.add (i * 3)).off + 1, none⟩ = some (.int .i64 (tk : Int))) ((w8.setCell ⟨nb, 0, none⟩ (.int .i64 nx)).setCell ⟨nb, 1, none⟩ (.int .i64 (tk : Int))) :=
      HAW.out _ ((HB8.out).grown HGS.out (by omega) (fun j hj => by injection hj with hj; omega))
     have hA1 := hA9
     clear hA0 HX7
     refine uOne (i := 18) rfl (by kernel_rfl) (fun K hK => ?_)
     go_simp
     generalize (w8.setCell ⟨nb, 0, none⟩ (.int .i64 nx)).setCell ⟨nb, 1, none⟩ (.int .i64 (tk : Int)) = w9 at HKS HX8 hA1 hA9 ⊢
     (refine hK _ _ ⟨hA1, fun _ => hB0⟩ ?_; clear hK K; (try simp only [Act.put, List.setIfInBounds_toArray, List.set_cons_zero, List.set_cons_succ]))
     refine anyU_done (by kernel_rfl) ?_ _
     go_wp2_with fail
     go_meet
     case rel => exact ⟨nb, rfl, rfl, Lib.hid ⟨HKS.out, by have := HEX.out.siz; omega⟩, HX8⟩
   case rest =>
    obtain ⟨nb, rfl, rfl, HND, HEX7⟩ := hcut
    clear HEX HKW HOW HCV hab
    have n0 : wc.cell? ⟨nb, 0, none⟩ = some (.int .i64 nx) := HND.out.1.cell (j := 0) rfl
    have n1 : wc.cell? ⟨nb, 1, none⟩ = some (.int .i64 (tk : Int)) := HND.out.1.cell (j := 1) rfl
    have hln := HND.out.1.lt
    have hnb := HND.out.2
    obtain ⟨a0, a1, a2, a3, a4⟩ := HK.out wc HEX7.out.bel
    obtain ⟨ev, e, rfl, hvb, hje, hes, q0, q1, q2, q3, q4⟩ := (HOK.out wc HEX7.out.bel).rl.at_ (k := jx) (by have h9 := HLL.out; dsimp only at h9 ⊢; omega)
    have p2' := ev_cells (j := 1) q2
    have p4' := ev_cells (j := 3) q4
    obtain ⟨f1, f2⟩ := HFT.out jx e hje
    obtain ⟨fv, hfv⟩ : ∃ v, e.fault = v := ⟨_, rfl⟩
    obtain ⟨ob, hob⟩ : ∃ v, e.o = v := ⟨_, rfl⟩
    rw [hfv] at p4' f1
    rw [hob] at p2' f2
    obtain ⟨sd, rfl, hsb, hsc⟩ := (HOY.out wc HEX7.out.bel).ra tk (.int .i64 yk) (by simp [iv, HYK.out])
    have b5 : (tk : Int) < (ns : Int) := by omega
    have HF1 := Lib.hid f1
    have HF2 := Lib.hid f2
    have HNX := Lib.hid hnx
    clear hje hes hvb q0 q1 q2 q3 q4 hfv hob f1 f2 hnx a0 a1 a2 a3 hsb
    by_cases hnn : nx < 0
    ·have HR9 := Lib.hid (show R = exG m c os (G - i) (i + 1) (exX m c os i tv (m.a.al.drop (j + 1)) (l2.map Prod.fst)) by rw [HRY.out, exX_none (by rw [HTS.out, HTK.out]; exact exN_imp (by rw [HNX.out]; omega))])
     go_wp2
     go_roundw
     case rel => exact ⟨j + 1, nl, _, _, _, _, l2, rfl, rfl, rfl, by go_num, by omega, hil, hnl, HEX7, HXI, HXD, HTT, HR9⟩
     case measure => simp [intOf]; omega
    by_cases hfc : fv = c
    ·have b6 : (fv == c) = true := by simp [hfc]
     have HR9 := Lib.hid (show R = exG m c os (G - i) (i + 1) (exX m c os i tv (m.a.al.drop (j + 1)) (l2.map Prod.fst)) by rw [HRY.out, exX_none (by rw [HTS.out, HTK.out]; exact exN_flt (by rw [HF1.out]; exact hfc))])
     go_wp2
     go_roundw
     case rel => exact ⟨j + 1, nl, _, _, _, _, l2, rfl, rfl, rfl, by go_num, by omega, hil, hnl, HEX7, HXI, HXD, HTT, HR9⟩
     case measure => simp [intOf]; omega
    have b6 : (fv == c) = false := by simpa using hfc
    have hf9 : m.ft (jx : Int) ≠ c := by rw [HF1.out]; exact hfc
    have h0n : 0 ≤ nxt m.a ts (jx : Int) := by rw [HNX.out]; omega
    obtain ⟨XA, xn, xc, xl⟩ := tx
    have hwl := HEX7.out.wrd i _ HTT.out
    have hwd := HEX7.out.wds _ (List.mem_of_getElem? HTT.out)
    dsimp only at hwl hwd
    have hxn : xn ≤ 163880 := by
     rw [← hwd.1, hwl]
     have h9 := exB_len (l := l2.map Prod.fst) (i + 1) (i : Nat)
     have h8 : (exW (l2.map Prod.fst) i).length ≤ i + 1 := by unfold exW; rw [List.length_reverse]; exact h9
     omega
    have HWL := Lib.hid hwl
    have HWN := Lib.hid hwd.1
    clear hwl hwd
    cases ob
    case false =>
     have hEN : exN m c os tv.s tv.k (jx : Int) = some (nx, tk) := by rw [HTS.out, HTK.out, exN_hid h0n hf9 HF2.out, HNX.out]
     have HEN := Lib.hid hEN
     obtain ⟨q, hq⟩ : ∃ q, exH (l2.map Prod.fst) nx (tk) = q := ⟨_, rfl⟩
     have HKB := Lib.hid hq
     rw [← any_exH] at hq
     have HC := Lib.hid (places_ContainsFunc (some ad) lc nl l2 75 (.pointer (some ⟨nb, 0, none⟩)) (fun p => p.1.s == nx && ((p.1.k : Int) == ((tk : Nat) : Int))) q wc HEX7.out.ln (RdR.of_own (f := plc) (by omega) (fun _ _ => rfl) HEX7.out.own) (by omega) (fun _ _ => rfl)
      (fun x W' hb => excuse1_ok nb x.1.s (x.1.k : Int) nx ((tk : Nat) : Int) x.2.v W' (((HND.out.1).below hb hln).cell (j := 0) rfl) (((HND.out.1).below hb hln).cell (j := 1) rfl) ((HND.out.1).below hb hln).lt) hq)
     clear hEN hq
     go_wp2_with fail
     refine HC.out.mono ?_
     rintro _ w10 ⟨rfl, hb10⟩
     have HEXa := Lib.hid (HEX7.out.quiet hb10)
     have HNDa := Lib.hid ((HND.out.1).below hb10 hln)
     clear HC hb10
     cases q
     case true =>
      have HR9 := Lib.hid (show R = exG m c os (G - i) (i + 1) (exX m c os i tv (m.a.al.drop (j + 1)) (l2.map Prod.fst)) by rw [HRY.out, exX_old HEN.out HKB.out])
      go_wp2
      go_roundw
      case rel => exact ⟨j + 1, nl, _, _, _, _, l2, rfl, rfl, rfl, by go_num, by omega, hil, hnl, HEXa, HXI, HXD, HTT, HR9⟩
      case measure => simp [intOf]; omega
     case false =>
      obtain ⟨vx, hvx⟩ : ∃ v : Vst, v = ⟨nx, tk, (i : Int), (jx : Int)⟩ := ⟨_, rfl⟩
      have HXI9 := Lib.hid (show ExI m c os (l2.map Prod.fst ++ [vx]) by rw [hvx]; exact HXI.out.push HTV.out HXM.out HEN.out)
      have HXD9 := Lib.hid (show ExD m os (l2.map Prod.fst ++ [vx]) by rw [hvx]; exact HXD.out.push HMW.out (List.mem_of_getElem? HTV.out) HEN.out HKB.out _)
      have HR9 := Lib.hid (show R = exG m c os (G - i) (i + 1) (exX m c os i tv (m.a.al.drop (j + 1)) (l2.map Prod.fst ++ [vx])) by rw [HRY.out, exX_new HEN.out HKB.out, hvx])
      have hn9 : nl + 1 ≤ G := by have h9 := HXD9.out.len; rw [HGN.out, List.length_append, List.length_map, HEXa.out.ln] at h9; exact h9
      have HVX := Lib.hid hvx
      clear hvx
      go_upto_region 18 with fail
      obtain ⟨ad', tt', hae, hab, htt', hcl⟩ := (RdR.of_own (f := plc) (by omega) (fun _ _ => rfl) HEXa.out.own).get (k := i) (by rw [HEXa.out.ln]; omega)
      obtain rfl : ad = ad' := by injection hae
      obtain rfl : (tv, (⟨XA, xn, xc, xl⟩ : IV)) = tt' := by have := HTT.out; rw [htt'] at this; exact (Option.some.inj this).symm
      have HBF := Lib.hid (fun (W : World) (hW : Below w10.heap.size w10 W) => (show (W.cell? ⟨nb, 0, none⟩ = some (.int .i64 nx) ∧ W.cell? ⟨nb, 1, none⟩ = some (.int .i64 (tk : Int))) ∧ W.cell? ⟨(ad.add (i * 3)).block, (ad.add (i * 3)).off + 2, none⟩ = some (.slice XA xn xc) from
       ⟨⟨(HNDa.out.below hW HNDa.out.lt).cell (j := 0) rfl, (HNDa.out.below hW HNDa.out.lt).cell (j := 1) rfl⟩, ev_cells (j := 1) ((hW.cell (by rw [block_of_add]; exact hab)).trans (hcl 2 _ rfl))⟩))
      clear hae hab htt' hcl
      refine wp_region_U (fun W => W.cell? ⟨nb, 0, none⟩ = some (.int .i64 nx) ∧ W.cell? ⟨nb, 1, none⟩ = some (.int .i64 (tk : Int))) (fun W => W.cell? ⟨(ad.add (i * 3)).block, (ad.add (i * 3)).off + 2, none⟩ = some (.slice XA xn xc)) 7 (by kernel_rfl) ?_
      change anyU _ _ _ _ _ _ _ 15 _ _ _
      have HBD := Lib.hid (below_dr w10)
      generalize w10.drew = wd at HBD ⊢
      have hA0 := (HBF.out wd HBD.out).1
      have hB0 := (HBF.out wd HBD.out).2
      have HEXd := Lib.hid (HEXa.out.quiet HBD.out)
      have hwd := HEXd.out.wds _ (List.mem_of_getElem? HTT.out)
      have ho := hwd.2
      dsimp only [IV.v] at ho
      rw [← HWN.out] at ho
      obtain ⟨XB, xd, hxe, x1, x2, rdx⟩ := own_slI ho
      obtain ⟨rfl, rfl⟩ : XA = XB ∧ xc = xd := by injection hxe with e1 _ e2; exact ⟨e1, e2⟩
      have HRW := Lib.hid rdx
      clear hwd ho hxe x1 x2 rdx
      (refine uA 0 ?_ rfl hA0 hB0 (fun W hA => ?_) ?_; rotate_left; (· (go_simp; try with_reducible rfl)); (try simp only [Act.put, List.setIfInBounds_toArray, List.set_cons_zero, List.set_cons_succ]))
      (refine uA 1 ?_ rfl hA0 hB0 (fun W hA => ?_) ?_; rotate_left; (· (obtain ⟨n0, n1⟩ := hA; go_simp; try with_reducible rfl)); (try simp only [Act.put, List.setIfInBounds_toArray, List.set_cons_zero, List.set_cons_succ]))
      (refine uA 2 ?_ rfl hA0 hB0 (fun W hA => ?_) ?_; rotate_left; (· (go_simp; try with_reducible rfl)); refine uA 3 ?_ rfl hA0 hB0 (fun W hA => ?_) ?_; rotate_left; (· (go_simp; try with_reducible rfl)); refine uA 4 ?_ rfl hA0 hB0 (fun W hA => ?_) ?_; rotate_left; (· (go_simp; try with_reducible rfl)); refine uA 5 ?_ rfl hA0 hB0 (fun W hA => ?_) ?_; rotate_left; (· (go_simp; try with_reducible rfl)); (try simp only [Act.put, List.setIfInBounds_toArray, List.set_cons_zero, List.set_cons_succ]))
      (refine uB 6 ?_ rfl hA0 hB0 (fun W hA hB => ?_) ?_; rotate_left; (· (go_simp; try with_reducible rfl)); (try simp only [Act.put, List.setIfInBounds_toArray, List.set_cons_zero, List.set_cons_succ]))
      (refine uA 8 ?_ rfl hA0 hB0 (fun W hA => ?_) ?_; rotate_left; (· (go_simp; try with_reducible rfl)); (try simp only [Act.put, List.setIfInBounds_toArray, List.set_cons_zero, List.set_cons_succ]))
      clear hA0 hB0
      refine uTwo (i := 7) (j := 9) rfl rfl (by kernel_rfl) (fun K hK => ?_) (fun K hK => ?_)
      ·have HCL := Lib.hid (slices_Clone_n XA xc xn xl wd HWN.out HRW.out (by omega))
       go_simp
       go_at_call 33
       refine HCL.out.mono ?_
       rintro _ w11 ⟨v11, rfl, ho11, hb11⟩
       obtain ⟨A11, c11, rfl, y1, y2, _⟩ := own_slI ho11
       rw [HWN.out] at ho11 ⊢
       have hA1 := (HBF.out w11 (HBD.out.trans (hb11.mono HBD.out.size))).1
       go_simp
       (refine hK _ _ ⟨hA1, fun h => absurd (h.symm.trans (by kernel_rfl : _ = true)) Bool.false_ne_true⟩ ?_; clear hK K; (try simp only [Act.put, List.setIfInBounds_toArray, List.set_cons_zero, List.set_cons_succ]))
       have hbx := box_below w11 (.cells #[.int .i64 (jx : Int)] 3)
       have hA2 := (HBF.out _ ((HBD.out.trans (hb11.mono HBD.out.size)).trans (hbx.mono (Nat.le_trans HBD.out.size hb11.size)))).1
       have hkx : Blk (w11.alloc (.cells #[.int .i64 (jx : Int)] 3)) w11.heap.size 3 [.int .i64 (jx : Int)] := Blk.new _ _ [_]
       have HO12 := Lib.hid (own_below ho11 hbx)
       have HB12 := Lib.hid (hb11.trans (hbx.mono hb11.size))
       refine uOne (i := 9) rfl (by kernel_rfl) (fun K hK => ?_)
       go_simp
       (refine hK _ _ ⟨hA2, fun h => absurd (h.symm.trans (by kernel_rfl : _ = true)) Bool.false_ne_true⟩ ?_; clear hK K; (try simp only [Act.put, List.setIfInBounds_toArray, List.set_cons_zero, List.set_cons_succ]))
       generalize w11.heap.size = qb at hkx ⊢
       generalize w11.alloc (.cells #[.int .i64 (jx : Int)] 3) = w12 at hkx HO12 HB12 ⊢
       clear ho11 hb11 hbx HCL y1 y2 hA1 hA2
       have hsw : wd.heap.size ≤ w12.heap.size := HB12.out.size
       refine uOne (i := 10) rfl (by kernel_rfl) (fun K hK => ?_)
       refine step_pushW rfl (.tmp 107) (.tmp 109) 31 rfl wd.heap.size 3 (.int .i64 0) 1 8 Try.underlying31 int_info rfl (by decide) rfl _ [.int .i64 (jx : Int)] rfl HO12.out hsw hkx rfl (fun z hz => by simp at hz; subst hz; rfl) (by omega) (by omega) ?_
       intro A13 c13 w13 ho13 hg13 hl13
       have HSZ := Lib.hid hg13.size
       have hB13 := HB12.out.grown hg13 hsw (fun g hg => (HO12.out.lt g hg).1)
       have HEXe := Lib.hid (HEXd.out.quiet hB13)
       have hA0 := (HBF.out w13 (HBD.out.trans (hB13.mono HBD.out.size))).1
       have hB0 := (HBF.out w13 (HBD.out.trans (hB13.mono HBD.out.size))).2
       have HND13 := Lib.hid (HNDa.out.below (HBD.out.trans (hB13.mono HBD.out.size)) HNDa.out.lt)
       have HO13 := Lib.hid (own_base (base := w1.heap.size) ho13 HEXd.out.siz)
       clear hB13 ho13 hg13 hl13 hkx HO12 HB12
       (refine hK _ _ ⟨hA0, fun h => absurd (h.symm.trans (by kernel_rfl : _ = true)) Bool.false_ne_true⟩ ?_; clear hK K; (try simp only [Act.put, List.setIfInBounds_toArray, List.set_cons_zero, List.set_cons_succ]))
       (refine uA 11 ?_ rfl hA0 hB0 (fun W hA => ?_) ?_; rotate_left; (· (go_simp; try with_reducible rfl)); (try simp only [Act.put, List.setIfInBounds_toArray, List.set_cons_zero, List.set_cons_succ]))
       clear hA0 hB0
       have hbz := box_below w13 (.cells #[.int .i64 nx, .int .i64 (tk : Int), .slice A13 (xn + 1) c13] 142)
       have hkz : Blk (w13.alloc (.cells #[.int .i64 nx, .int .i64 (tk : Int), .slice A13 (xn + 1) c13] 142)) w13.heap.size 142 [.int .i64 nx, .int .i64 (tk : Int), .slice A13 (xn + 1) c13] := Blk.new _ _ [_, _, _]
       have HEXf := Lib.hid (HEXe.out.quiet hbz)
       have HO14 := Lib.hid (own_below HO13.out hbz)
       have hs13 := HEXe.out.siz
       have HND14 := Lib.hid (HND13.out.below hbz HND13.out.lt)
       have hA4 := And.intro (HND14.out.cell (j := 0) rfl) (HND14.out.cell (j := 1) rfl)
       refine uOne (i := 12) rfl (by kernel_rfl) (fun K hK => ?_)
       go_simp
       (refine hK _ _ ⟨hA4, fun h => absurd (h.symm.trans (by kernel_rfl : _ = true)) Bool.false_ne_true⟩ ?_; clear hK K; (try simp only [Act.put, List.setIfInBounds_toArray, List.set_cons_zero, List.set_cons_succ]))
       generalize w13.heap.size = zb at hkz ⊢
       generalize w13.alloc (.cells #[.int .i64 nx, .int .i64 (tk : Int), .slice A13 (xn + 1) c13] 142) = w14 at hkz HEXf HO14 HND14 ⊢
       clear hbz hA4
       refine uOne (i := 13) rfl (by kernel_rfl) (fun K hK => ?_)
       refine step_pushW rfl (.tmp 100) (.tmp 112) 138 rfl w1.heap.size 142 (.agg #[.int .i64 0, .int .i64 0, .slice none 0 0]) 3 40 Try.underlying138 plc_info rfl (by decide) rfl _ [.int .i64 nx, .int .i64 (tk : Int), .slice A13 (xn + 1) c13] rfl HEXf.out.own HEXf.out.siz hkz rfl (fun u hu => by simp at hu; rcases hu with rfl | rfl | rfl <;> rfl) (by omega) (by omega) ?_
       intro A15 c15 w15 ho15 hg15 hl15
       have HE15 := Lib.hid (show LwN w1.heap.size w1 w15 (.slice A15 (nl + 1) c15) (nl + 1) (l2 ++ [(vx, (⟨A13, xn + 1, c13, xl ++ [(jx : Int)]⟩ : IV))]) by
        rw [HVX.out]
        exact HEXf.out.add (x := ⟨A13, xn + 1, c13, xl ++ [(jx : Int)]⟩) HXI.out (by omega) ho15 hg15 (by rw [iv_append]; exact HO14.out) (by rw [List.length_append, HWN.out]; rfl) (by rw [HWL.out]))
       have HND15 := Lib.hid (HND14.out.kept hg15 (blk_ne_own HEXf.out.own HND14.out (by decide)))
       have hA5 := And.intro (HND15.out.cell (j := 0) rfl) (HND15.out.cell (j := 1) rfl)
       have hA6 := And.intro (HND15.out.cell (j := 0) rfl) (HND15.out.cell (j := 1) rfl)
       clear ho15 hg15 hl15
       (refine hK _ _ ⟨hA5, fun h => absurd (h.symm.trans (by kernel_rfl : _ = true)) Bool.false_ne_true⟩ ?_; clear hK K; (try simp only [Act.put, List.setIfInBounds_toArray, List.set_cons_zero, List.set_cons_succ]))
       refine uOne (i := 14) rfl (by kernel_rfl) (fun K hK => ?_)
       go_simp
       (refine hK _ _ ⟨hA6, fun h => absurd (h.symm.trans (by kernel_rfl : _ = true)) Bool.false_ne_true⟩ ?_; clear hK K; (try simp only [Act.put, List.setIfInBounds_toArray, List.set_cons_zero, List.set_cons_succ]))
       refine anyU_done (by kernel_rfl) ?_ _
       have HM9 := Lib.hid (show (l2 ++ [(vx, (⟨A13, xn + 1, c13, xl ++ [(jx : Int)]⟩ : IV))]).map Prod.fst = l2.map Prod.fst ++ [vx] by simp)
       have HTT9 := Lib.hid (show (l2 ++ [(vx, (⟨A13, xn + 1, c13, xl ++ [(jx : Int)]⟩ : IV))])[i]? = some (tv, (⟨XA, xn, xc, xl⟩ : IV)) by rw [List.getElem?_append_left (by rw [HEXa.out.ln]; omega)]; exact HTT.out)
       go_wp2
       go_roundw
       case rel => exact ⟨j + 1, nl + 1, _, _, _, _, l2 ++ [(vx, (⟨A13, xn + 1, c13, xl ++ [(jx : Int)]⟩ : IV))], rfl, rfl, rfl, by go_num, by omega, by omega, hn9, HE15, by rw [HM9.out]; exact HXI9, by rw [HM9.out]; exact HXD9, HTT9, by rw [HM9.out]; exact HR9⟩
       case measure => simp [intOf]; omega
      ·have hbx := box_below wd (.cells #[.int .i64 (jx : Int)] 3)
       have hA1 := (HBF.out _ (HBD.out.trans (hbx.mono HBD.out.size))).1
       have hB1 := (HBF.out _ (HBD.out.trans (hbx.mono HBD.out.size))).2
       have hkx0 : Blk (wd.alloc (.cells #[.int .i64 (jx : Int)] 3)) wd.heap.size 3 [.int .i64 (jx : Int)] := Blk.new _ _ [_]
       go_simp
       (refine hK _ _ ⟨hA1, fun _ => hB1⟩ ?_; clear hK K; (try simp only [Act.put, List.setIfInBounds_toArray, List.set_cons_zero, List.set_cons_succ]))
       clear hA1 hB1
       generalize wd.heap.size = qb at hkx0 ⊢
       have HBX : Hid (Below wd.heap.size wd (wd.alloc (.cells #[.int .i64 (jx : Int)] 3))) := Lib.hid hbx
       clear hbx
       generalize wd.alloc (.cells #[.int .i64 (jx : Int)] 3) = w11 at hkx0 HBX ⊢
       have HCL := Lib.hid (slices_Clone_n XA xc xn xl w11 HWN.out ((HRW.out.below HBX.out).more HBX.out.size) (by omega))
       refine uOne (i := 7) rfl (by kernel_rfl) (fun K hK => ?_)
       go_simp
       go_at_call 33
       refine HCL.out.mono ?_
       rintro _ w12 ⟨v11, rfl, ho11, hb11⟩
       obtain ⟨A11, c11, rfl, y1, y2, _⟩ := own_slI ho11
       rw [HWN.out] at ho11 ⊢
       have hkx := hkx0.below hb11 hkx0.lt
       have HB12 := Lib.hid (HBX.out.trans (hb11.mono HBX.out.size))
       have HO12 := Lib.hid (own_base ho11 HBX.out.size)
       have hA1 := (HBF.out w12 (HBD.out.trans (HB12.out.mono HBD.out.size))).1
       go_simp
       (refine hK _ _ ⟨hA1, fun h => absurd (h.symm.trans (by kernel_rfl : _ = true)) Bool.false_ne_true⟩ ?_; clear hK K; (try simp only [Act.put, List.setIfInBounds_toArray, List.set_cons_zero, List.set_cons_succ]))
       clear hA1 ho11 hb11 HCL y1 y2 hkx0
       have hsw : wd.heap.size ≤ w12.heap.size := HB12.out.size
       refine uOne (i := 10) rfl (by kernel_rfl) (fun K hK => ?_)
       refine step_pushW rfl (.tmp 107) (.tmp 109) 31 rfl wd.heap.size 3 (.int .i64 0) 1 8 Try.underlying31 int_info rfl (by decide) rfl _ [.int .i64 (jx : Int)] rfl HO12.out hsw hkx rfl (fun z hz => by simp at hz; subst hz; rfl) (by omega) (by omega) ?_
       intro A13 c13 w13 ho13 hg13 hl13
       have HSZ := Lib.hid hg13.size
       have hB13 := HB12.out.grown hg13 hsw (fun g hg => (HO12.out.lt g hg).1)
       have HEXe := Lib.hid (HEXd.out.quiet hB13)
       have hA0 := (HBF.out w13 (HBD.out.trans (hB13.mono HBD.out.size))).1
       have hB0 := (HBF.out w13 (HBD.out.trans (hB13.mono HBD.out.size))).2
       have HND13 := Lib.hid (HNDa.out.below (HBD.out.trans (hB13.mono HBD.out.size)) HNDa.out.lt)
       have HO13 := Lib.hid (own_base (base := w1.heap.size) ho13 HEXd.out.siz)
       clear hB13 ho13 hg13 hl13 hkx HO12 HB12
       (refine hK _ _ ⟨hA0, fun h => absurd (h.symm.trans (by kernel_rfl : _ = true)) Bool.false_ne_true⟩ ?_; clear hK K; (try simp only [Act.put, List.setIfInBounds_toArray, List.set_cons_zero, List.set_cons_succ]))
       (refine uA 11 ?_ rfl hA0 hB0 (fun W hA => ?_) ?_; rotate_left; (· (go_simp; try with_reducible rfl)); (try simp only [Act.put, List.setIfInBounds_toArray, List.set_cons_zero, List.set_cons_succ]))
       clear hA0 hB0
       have hbz := box_below w13 (.cells #[.int .i64 nx, .int .i64 (tk : Int), .slice A13 (xn + 1) c13] 142)
       have hkz : Blk (w13.alloc (.cells #[.int .i64 nx, .int .i64 (tk : Int), .slice A13 (xn + 1) c13] 142)) w13.heap.size 142 [.int .i64 nx, .int .i64 (tk : Int), .slice A13 (xn + 1) c13] := Blk.new _ _ [_, _, _]
       have HEXf := Lib.hid (HEXe.out.quiet hbz)
       have HO14 := Lib.hid (own_below HO13.out hbz)
       have hs13 := HEXe.out.siz
       have HND14 := Lib.hid (HND13.out.below hbz HND13.out.lt)
       have hA4 := And.intro (HND14.out.cell (j := 0) rfl) (HND14.out.cell (j := 1) rfl)
       refine uOne (i := 12) rfl (by kernel_rfl) (fun K hK => ?_)
       go_simp
       (refine hK _ _ ⟨hA4, fun h => absurd (h.symm.trans (by kernel_rfl : _ = true)) Bool.false_ne_true⟩ ?_; clear hK K; (try simp only [Act.put, List.setIfInBounds_toArray, List.set_cons_zero, List.set_cons_succ]))
       generalize w13.heap.size = zb at hkz ⊢
       generalize w13.alloc (.cells #[.int .i64 nx, .int .i64 (tk : Int), .slice A13 (xn + 1) c13] 142) = w14 at hkz HEXf HO14 HND14 ⊢
       clear hbz hA4
       refine uOne (i := 13) rfl (by kernel_rfl) (fun K hK => ?_)
       refine step_pushW rfl (.tmp 100) (.tmp 112) 138 rfl w1.heap.size 142 (.agg #[.int .i64 0, .int .i64 0, .slice none 0 0]) 3 40 Try.underlying138 plc_info rfl (by decide) rfl _ [.int .i64 nx, .int .i64 (tk : Int), .slice A13 (xn + 1) c13] rfl HEXf.out.own HEXf.out.siz hkz rfl (fun u hu => by simp at hu; rcases hu with rfl | rfl | rfl <;> rfl) (by omega) (by omega) ?_
       intro A15 c15 w15 ho15 hg15 hl15
       have HE15 := Lib.hid (show LwN w1.heap.size w1 w15 (.slice A15 (nl + 1) c15) (nl + 1) (l2 ++ [(vx, (⟨A13, xn + 1, c13, xl ++ [(jx : Int)]⟩ : IV))]) by
        rw [HVX.out]
        exact HEXf.out.add (x := ⟨A13, xn + 1, c13, xl ++ [(jx : Int)]⟩) HXI.out (by omega) ho15 hg15 (by rw [iv_append]; exact HO14.out) (by rw [List.length_append, HWN.out]; rfl) (by rw [HWL.out]))
       have HND15 := Lib.hid (HND14.out.kept hg15 (blk_ne_own HEXf.out.own HND14.out (by decide)))
       have hA5 := And.intro (HND15.out.cell (j := 0) rfl) (HND15.out.cell (j := 1) rfl)
       have hA6 := And.intro (HND15.out.cell (j := 0) rfl) (HND15.out.cell (j := 1) rfl)
       clear ho15 hg15 hl15
       (refine hK _ _ ⟨hA5, fun h => absurd (h.symm.trans (by kernel_rfl : _ = true)) Bool.false_ne_true⟩ ?_; clear hK K; (try simp only [Act.put, List.setIfInBounds_toArray, List.set_cons_zero, List.set_cons_succ]))
       refine uOne (i := 14) rfl (by kernel_rfl) (fun K hK => ?_)
       go_simp
       (refine hK _ _ ⟨hA6, fun h => absurd (h.symm.trans (by kernel_rfl : _ = true)) Bool.false_ne_true⟩ ?_; clear hK K; (try simp only [Act.put, List.setIfInBounds_toArray, List.set_cons_zero, List.set_cons_succ]))
       refine anyU_done (by kernel_rfl) ?_ _
       have HM9 := Lib.hid (show (l2 ++ [(vx, (⟨A13, xn + 1, c13, xl ++ [(jx : Int)]⟩ : IV))]).map Prod.fst = l2.map Prod.fst ++ [vx] by simp)
       have HTT9 := Lib.hid (show (l2 ++ [(vx, (⟨A13, xn + 1, c13, xl ++ [(jx : Int)]⟩ : IV))])[i]? = some (tv, (⟨XA, xn, xc, xl⟩ : IV)) by rw [List.getElem?_append_left (by rw [HEXa.out.ln]; omega)]; exact HTT.out)
       go_wp2
       go_roundw
       case rel => exact ⟨j + 1, nl + 1, _, _, _, _, l2 ++ [(vx, (⟨A13, xn + 1, c13, xl ++ [(jx : Int)]⟩ : IV))], rfl, rfl, rfl, by go_num, by omega, by omega, hn9, HE15, by rw [HM9.out]; exact HXI9, by rw [HM9.out]; exact HXD9, HTT9, by rw [HM9.out]; exact HR9⟩
       case measure => simp [intOf]; omega
    case true =>
     by_cases hyx : yk = (jx : Int)
     case neg =>
      have b7 : (yk != (jx : Int)) = true := by simpa using hyx
      have HR9 := Lib.hid (show R = exG m c os (G - i) (i + 1) (exX m c os i tv (m.a.al.drop (j + 1)) (l2.map Prod.fst)) by rw [HRY.out, exX_none (by rw [HTS.out, HTK.out]; exact exN_not HYK.out HF2.out hyx)])
      go_wp2
      go_roundw
      case rel => exact ⟨j + 1, nl, _, _, _, _, l2, rfl, rfl, rfl, by go_num, by omega, hil, hnl, HEX7, HXI, HXD, HTT, HR9⟩
      case measure => simp [intOf]; omega
     have b7 : (yk != (jx : Int)) = false := by simpa using hyx
     have fr1 := HND.out.1.free 1
     have HKS := Lib.hid (HND.out.1.set (j := 1) (by simp) (.int .i64 ((tk : Int) + 1)))
     have HGS := Lib.hid (grown_setCell wc nb 1 (.int .i64 ((tk : Int) + 1)))
     have HEX8 := Lib.hid (HEX7.out.kept HND.out.1 (by decide) (by decide) hnb HGS.out)
     go_upto_region 17 with fail
     generalize wc.setCell ⟨nb, 1, none⟩ (.int .i64 ((tk : Int) + 1)) = wq at HKS HGS HEX8 ⊢
     clear n0 n1 fr1 a4 p2' p4' hsc hln HEX7
     have hln := HKS.out.lt
     have hEN : exN m c os tv.s tv.k (jx : Int) = some (nx, tk + 1) := by rw [HTS.out, HTK.out, exN_see HYK.out h0n hf9 HF2.out hyx, HNX.out]
     have HEN := Lib.hid hEN
     obtain ⟨q, hq⟩ : ∃ q, exH (l2.map Prod.fst) nx (tk + 1) = q := ⟨_, rfl⟩
     have HKB := Lib.hid hq
     rw [← any_exH] at hq
     have HC := Lib.hid (places_ContainsFunc (some ad) lc nl l2 75 (.pointer (some ⟨nb, 0, none⟩)) (fun p => p.1.s == nx && ((p.1.k : Int) == ((tk + 1 : Nat) : Int))) q wq HEX8.out.ln (RdR.of_own (f := plc) (by omega) (fun _ _ => rfl) HEX8.out.own) (by omega) (fun _ _ => rfl)
      (fun x W' hb => excuse1_ok nb x.1.s (x.1.k : Int) nx ((tk + 1 : Nat) : Int) x.2.v W' (((HKS.out).below hb hln).cell (j := 0) rfl) (((HKS.out).below hb hln).cell (j := 1) rfl) ((HKS.out).below hb hln).lt) hq)
     clear hEN hq
     go_wp2_with fail
     refine HC.out.mono ?_
     rintro _ w10 ⟨rfl, hb10⟩
     have HEXa := Lib.hid (HEX8.out.quiet hb10)
     have HNDa := Lib.hid ((HKS.out).below hb10 hln)
     clear HC hb10
     cases q
     case true =>
      have HR9 := Lib.hid (show R = exG m c os (G - i) (i + 1) (exX m c os i tv (m.a.al.drop (j + 1)) (l2.map Prod.fst)) by rw [HRY.out, exX_old HEN.out HKB.out])
      go_wp2
      go_roundw
      case rel => exact ⟨j + 1, nl, _, _, _, _, l2, rfl, rfl, rfl, by go_num, by omega, hil, hnl, HEXa, HXI, HXD, HTT, HR9⟩
      case measure => simp [intOf]; omega
     case false =>
      obtain ⟨vx, hvx⟩ : ∃ v : Vst, v = ⟨nx, tk + 1, (i : Int), (jx : Int)⟩ := ⟨_, rfl⟩
      have HXI9 := Lib.hid (show ExI m c os (l2.map Prod.fst ++ [vx]) by rw [hvx]; exact HXI.out.push HTV.out HXM.out HEN.out)
      have HXD9 := Lib.hid (show ExD m os (l2.map Prod.fst ++ [vx]) by rw [hvx]; exact HXD.out.push HMW.out (List.mem_of_getElem? HTV.out) HEN.out HKB.out _)
      have HR9 := Lib.hid (show R = exG m c os (G - i) (i + 1) (exX m c os i tv (m.a.al.drop (j + 1)) (l2.map Prod.fst ++ [vx])) by rw [HRY.out, exX_new HEN.out HKB.out, hvx])
      have hn9 : nl + 1 ≤ G := by have h9 := HXD9.out.len; rw [HGN.out, List.length_append, List.length_map, HEXa.out.ln] at h9; exact h9
      have HVX := Lib.hid hvx
      clear hvx
      go_upto_region 18 with fail
      obtain ⟨ad', tt', hae, hab, htt', hcl⟩ := (RdR.of_own (f := plc) (by omega) (fun _ _ => rfl) HEXa.out.own).get (k := i) (by rw [HEXa.out.ln]; omega)
      obtain rfl : ad = ad' := by injection hae
      obtain rfl : (tv, (⟨XA, xn, xc, xl⟩ : IV)) = tt' := by have := HTT.out; rw [htt'] at this; exact (Option.some.inj this).symm
      have HBF := Lib.hid (fun (W : World) (hW : Below w10.heap.size w10 W) => (show (W.cell? ⟨nb, 0, none⟩ = some (.int .i64 nx) ∧ W.cell? ⟨nb, 1, none⟩ = some (.int .i64 ((tk : Int) + 1))) ∧ W.cell? ⟨(ad.add (i * 3)).block, (ad.add (i * 3)).off + 2, none⟩ = some (.slice XA xn xc) from
       ⟨⟨(HNDa.out.below hW HNDa.out.lt).cell (j := 0) rfl, (HNDa.out.below hW HNDa.out.lt).cell (j := 1) rfl⟩, ev_cells (j := 1) ((hW.cell (by rw [block_of_add]; exact hab)).trans (hcl 2 _ rfl))⟩))
      clear hae hab htt' hcl
      refine wp_region_U (fun W => W.cell? ⟨nb, 0, none⟩ = some (.int .i64 nx) ∧ W.cell? ⟨nb, 1, none⟩ = some (.int .i64 ((tk : Int) + 1))) (fun W => W.cell? ⟨(ad.add (i * 3)).block, (ad.add (i * 3)).off + 2, none⟩ = some (.slice XA xn xc)) 7 (by kernel_rfl) ?_
      change anyU _ _ _ _ _ _ _ 15 _ _ _
      have HBD := Lib.hid (below_dr w10)
      generalize w10.drew = wd at HBD ⊢
      have hA0 := (HBF.out wd HBD.out).1
      have hB0 := (HBF.out wd HBD.out).2
      have HEXd := Lib.hid (HEXa.out.quiet HBD.out)
      have hwd := HEXd.out.wds _ (List.mem_of_getElem? HTT.out)
      have ho := hwd.2
      dsimp only [IV.v] at ho
      rw [← HWN.out] at ho
      obtain ⟨XB, xd, hxe, x1, x2, rdx⟩ := own_slI ho
      obtain ⟨rfl, rfl⟩ : XA = XB ∧ xc = xd := by injection hxe with e1 _ e2; exact ⟨e1, e2⟩
      have HRW := Lib.hid rdx
      clear hwd ho hxe x1 x2 rdx
      (refine uA 0 ?_ rfl hA0 hB0 (fun W hA => ?_) ?_; rotate_left; (· (go_simp; try with_reducible rfl)); (try simp only [Act.put, List.setIfInBounds_toArray, List.set_cons_zero, List.set_cons_succ]))
      (refine uA 1 ?_ rfl hA0 hB0 (fun W hA => ?_) ?_; rotate_left; (· (obtain ⟨n0, n1⟩ := hA; go_simp; try with_reducible rfl)); (try simp only [Act.put, List.setIfInBounds_toArray, List.set_cons_zero, List.set_cons_succ]))
      (refine uA 2 ?_ rfl hA0 hB0 (fun W hA => ?_) ?_; rotate_left; (· (go_simp; try with_reducible rfl)); refine uA 3 ?_ rfl hA0 hB0 (fun W hA => ?_) ?_; rotate_left; (· (go_simp; try with_reducible rfl)); refine uA 4 ?_ rfl hA0 hB0 (fun W hA => ?_) ?_; rotate_left; (· (go_simp; try with_reducible rfl)); refine uA 5 ?_ rfl hA0 hB0 (fun W hA => ?_) ?_; rotate_left; (· (go_simp; try with_reducible rfl)); (try simp only [Act.put, List.setIfInBounds_toArray, List.set_cons_zero, List.set_cons_succ]))
      (refine uB 6 ?_ rfl hA0 hB0 (fun W hA hB => ?_) ?_; rotate_left; (· (go_simp; try with_reducible rfl)); (try simp only [Act.put, List.setIfInBounds_toArray, List.set_cons_zero, List.set_cons_succ]))
      (refine uA 8 ?_ rfl hA0 hB0 (fun W hA => ?_) ?_; rotate_left; (· (go_simp; try with_reducible rfl)); (try simp only [Act.put, List.setIfInBounds_toArray, List.set_cons_zero, List.set_cons_succ]))
      clear hA0 hB0
      refine uTwo (i := 7) (j := 9) rfl rfl (by kernel_rfl) (fun K hK => ?_) (fun K hK => ?_)
      ·have HCL := Lib.hid (slices_Clone_n XA xc xn xl wd HWN.out HRW.out (by omega))
       go_simp
       go_at_call 33
       refine HCL.out.mono ?_
       rintro _ w11 ⟨v11, rfl, ho11, hb11⟩
       obtain ⟨A11, c11, rfl, y1, y2, _⟩ := own_slI ho11
       rw [HWN.out] at ho11 ⊢
       have hA1 := (HBF.out w11 (HBD.out.trans (hb11.mono HBD.out.size))).1
       go_simp
       (refine hK _ _ ⟨hA1, fun h => absurd (h.symm.trans (by kernel_rfl : _ = true)) Bool.false_ne_true⟩ ?_; clear hK K; (try simp only [Act.put, List.setIfInBounds_toArray, List.set_cons_zero, List.set_cons_succ]))
       have hbx := box_below w11 (.cells #[.int .i64 (jx : Int)] 3)
       have hA2 := (HBF.out _ ((HBD.out.trans (hb11.mono HBD.out.size)).trans (hbx.mono (Nat.le_trans HBD.out.size hb11.size)))).1
       have hkx : Blk (w11.alloc (.cells #[.int .i64 (jx : Int)] 3)) w11.heap.size 3 [.int .i64 (jx : Int)] := Blk.new _ _ [_]
       have HO12 := Lib.hid (own_below ho11 hbx)
       have HB12 := Lib.hid (hb11.trans (hbx.mono hb11.size))
       refine uOne (i := 9) rfl (by kernel_rfl) (fun K hK => ?_)
       go_simp
       (refine hK _ _ ⟨hA2, fun h => absurd (h.symm.trans (by kernel_rfl : _ = true)) Bool.false_ne_true⟩ ?_; clear hK K; (try simp only [Act.put, List.setIfInBounds_toArray, List.set_cons_zero, List.set_cons_succ]))
       generalize w11.heap.size = qb at hkx ⊢
       generalize w11.alloc (.cells #[.int .i64 (jx : Int)] 3) = w12 at hkx HO12 HB12 ⊢
       clear ho11 hb11 hbx HCL y1 y2 hA1 hA2
       have hsw : wd.heap.size ≤ w12.heap.size := HB12.out.size
       refine uOne (i := 10) rfl (by kernel_rfl) (fun K hK => ?_)
       refine step_pushW rfl (.tmp 107) (.tmp 109) 31 rfl wd.heap.size 3 (.int .i64 0) 1 8 Try.underlying31 int_info rfl (by decide) rfl _ [.int .i64 (jx : Int)] rfl HO12.out hsw hkx rfl (fun z hz => by simp at hz; subst hz; rfl) (by omega) (by omega) ?_
       intro A13 c13 w13 ho13 hg13 hl13
       have HSZ := Lib.hid hg13.size
       have hB13 := HB12.out.grown hg13 hsw (fun g hg => (HO12.out.lt g hg).1)
       have HEXe := Lib.hid (HEXd.out.quiet hB13)
       have hA0 := (HBF.out w13 (HBD.out.trans (hB13.mono HBD.out.size))).1
       have hB0 := (HBF.out w13 (HBD.out.trans (hB13.mono HBD.out.size))).2
       have HND13 := Lib.hid (HNDa.out.below (HBD.out.trans (hB13.mono HBD.out.size)) HNDa.out.lt)
       have HO13 := Lib.hid (own_base (base := w1.heap.size) ho13 HEXd.out.siz)
       clear hB13 ho13 hg13 hl13 hkx HO12 HB12
       (refine hK _ _ ⟨hA0, fun h => absurd (h.symm.trans (by kernel_rfl : _ = true)) Bool.false_ne_true⟩ ?_; clear hK K; (try simp only [Act.put, List.setIfInBounds_toArray, List.set_cons_zero, List.set_cons_succ]))
       (refine uA 11 ?_ rfl hA0 hB0 (fun W hA => ?_) ?_; rotate_left; (· (go_simp; try with_reducible rfl)); (try simp only [Act.put, List.setIfInBounds_toArray, List.set_cons_zero, List.set_cons_succ]))
       clear hA0 hB0
       have hbz := box_below w13 (.cells #[.int .i64 nx, .int .i64 ((tk : Int) + 1), .slice A13 (xn + 1) c13] 142)
       have hkz : Blk (w13.alloc (.cells #[.int .i64 nx, .int .i64 ((tk : Int) + 1), .slice A13 (xn + 1) c13] 142)) w13.heap.size 142 [.int .i64 nx, .int .i64 ((tk : Int) + 1), .slice A13 (xn + 1) c13] := Blk.new _ _ [_, _, _]
       have HEXf := Lib.hid (HEXe.out.quiet hbz)
       have HO14 := Lib.hid (own_below HO13.out hbz)
       have hs13 := HEXe.out.siz
       have HND14 := Lib.hid (HND13.out.below hbz HND13.out.lt)
       have hA4 := And.intro (HND14.out.cell (j := 0) rfl) (HND14.out.cell (j := 1) rfl)
       refine uOne (i := 12) rfl (by kernel_rfl) (fun K hK => ?_)
       go_simp
       (refine hK _ _ ⟨hA4, fun h => absurd (h.symm.trans (by kernel_rfl : _ = true)) Bool.false_ne_true⟩ ?_; clear hK K; (try simp only [Act.put, List.setIfInBounds_toArray, List.set_cons_zero, List.set_cons_succ]))
       generalize w13.heap.size = zb at hkz ⊢
       generalize w13.alloc (.cells #[.int .i64 nx, .int .i64 ((tk : Int) + 1), .slice A13 (xn + 1) c13] 142) = w14 at hkz HEXf HO14 HND14 ⊢
       clear hbz hA4
       refine uOne (i := 13) rfl (by kernel_rfl) (fun K hK => ?_)
       refine step_pushW rfl (.tmp 100) (.tmp 112) 138 rfl w1.heap.size 142 (.agg #[.int .i64 0, .int .i64 0, .slice none 0 0]) 3 40 Try.underlying138 plc_info rfl (by decide) rfl _ [.int .i64 nx, .int .i64 ((tk : Int) + 1), .slice A13 (xn + 1) c13] rfl HEXf.out.own HEXf.out.siz hkz rfl (fun u hu => by simp at hu; rcases hu with rfl | rfl | rfl <;> rfl) (by omega) (by omega) ?_
       intro A15 c15 w15 ho15 hg15 hl15
       have HE15 := Lib.hid (show LwN w1.heap.size w1 w15 (.slice A15 (nl + 1) c15) (nl + 1) (l2 ++ [(vx, (⟨A13, xn + 1, c13, xl ++ [(jx : Int)]⟩ : IV))]) by
        rw [HVX.out]
        exact HEXf.out.add (x := ⟨A13, xn + 1, c13, xl ++ [(jx : Int)]⟩) HXI.out (by omega) ho15 hg15 (by rw [iv_append]; exact HO14.out) (by rw [List.length_append, HWN.out]; rfl) (by rw [HWL.out]))
       have HND15 := Lib.hid (HND14.out.kept hg15 (blk_ne_own HEXf.out.own HND14.out (by decide)))
       have hA5 := And.intro (HND15.out.cell (j := 0) rfl) (HND15.out.cell (j := 1) rfl)
       have hA6 := And.intro (HND15.out.cell (j := 0) rfl) (HND15.out.cell (j := 1) rfl)
       clear ho15 hg15 hl15
       (refine hK _ _ ⟨hA5, fun h => absurd (h.symm.trans (by kernel_rfl : _ = true)) Bool.false_ne_true⟩ ?_; clear hK K; (try simp only [Act.put, List.setIfInBounds_toArray, List.set_cons_zero, List.set_cons_succ]))
       refine uOne (i := 14) rfl (by kernel_rfl) (fun K hK => ?_)
       go_simp
       (refine hK _ _ ⟨hA6, fun h => absurd (h.symm.trans (by kernel_rfl : _ = true)) Bool.false_ne_true⟩ ?_; clear hK K; (try simp only [Act.put, List.setIfInBounds_toArray, List.set_cons_zero, List.set_cons_succ]))
       refine anyU_done (by kernel_rfl) ?_ _
       have HM9 := Lib.hid (show (l2 ++ [(vx, (⟨A13, xn + 1, c13, xl ++ [(jx : Int)]⟩ : IV))]).map Prod.fst = l2.map Prod.fst ++ [vx] by simp)
       have HTT9 := Lib.hid (show (l2 ++ [(vx, (⟨A13, xn + 1, c13, xl ++ [(jx : Int)]⟩ : IV))])[i]? = some (tv, (⟨XA, xn, xc, xl⟩ : IV)) by rw [List.getElem?_append_left (by rw [HEXa.out.ln]; omega)]; exact HTT.out)
       go_wp2
       go_roundw
       case rel => exact ⟨j + 1, nl + 1, _, _, _, _, l2 ++ [(vx, (⟨A13, xn + 1, c13, xl ++ [(jx : Int)]⟩ : IV))], rfl, rfl, rfl, by go_num, by omega, by omega, hn9, HE15, by rw [HM9.out]; exact HXI9, by rw [HM9.out]; exact HXD9, HTT9, by rw [HM9.out]; exact HR9⟩
       case measure => simp [intOf]; omega
      ·have hbx := box_below wd (.cells #[.int .i64 (jx : Int)] 3)
       have hA1 := (HBF.out _ (HBD.out.trans (hbx.mono HBD.out.size))).1
       have hB1 := (HBF.out _ (HBD.out.trans (hbx.mono HBD.out.size))).2
       have hkx0 : Blk (wd.alloc (.cells #[.int .i64 (jx : Int)] 3)) wd.heap.size 3 [.int .i64 (jx : Int)] := Blk.new _ _ [_]
       go_simp
       (refine hK _ _ ⟨hA1, fun _ => hB1⟩ ?_; clear hK K; (try simp only [Act.put, List.setIfInBounds_toArray, List.set_cons_zero, List.set_cons_succ]))
       clear hA1 hB1
       generalize wd.heap.size = qb at hkx0 ⊢
       have HBX : Hid (Below wd.heap.size wd (wd.alloc (.cells #[.int .i64 (jx : Int)] 3))) := Lib.hid hbx
       clear hbx
       generalize wd.alloc (.cells #[.int .i64 (jx : Int)] 3) = w11 at hkx0 HBX ⊢
       have HCL := Lib.hid (slices_Clone_n XA xc xn xl w11 HWN.out ((HRW.out.below HBX.out).more HBX.out.size) (by omega))
       refine uOne (i := 7) rfl (by kernel_rfl) (fun K hK => ?_)
       go_simp
       go_at_call 33
       refine HCL.out.mono ?_
       rintro _ w12 ⟨v11, rfl, ho11, hb11⟩
       obtain ⟨A11, c11, rfl, y1, y2, _⟩ := own_slI ho11
       rw [HWN.out] at ho11 ⊢
       have hkx := hkx0.below hb11 hkx0.lt
       have HB12 := Lib.hid (HBX.out.trans (hb11.mono HBX.out.size))
       have HO12 := Lib.hid (own_base ho11 HBX.out.size)
       have hA1 := (HBF.out w12 (HBD.out.trans (HB12.out.mono HBD.out.size))).1
       go_simp
       (refine hK _ _ ⟨hA1, fun h => absurd (h.symm.trans (by kernel_rfl : _ = true)) Bool.false_ne_true⟩ ?_; clear hK K; (try simp only [Act.put, List.setIfInBounds_toArray, List.set_cons_zero, List.set_cons_succ]))
       clear hA1 ho11 hb11 HCL y1 y2 hkx0
       have hsw : wd.heap.size ≤ w12.heap.size := HB12.out.size
       refine uOne (i := 10) rfl (by kernel_rfl) (fun K hK => ?_)
       refine step_pushW rfl (.tmp 107) (.tmp 109) 31 rfl wd.heap.size 3 (.int .i64 0) 1 8 Try.underlying31 int_info rfl (by decide) rfl _ [.int .i64 (jx : Int)] rfl HO12.out hsw hkx rfl (fun z hz => by simp at hz; subst hz; rfl) (by omega) (by omega) ?_
       intro A13 c13 w13 ho13 hg13 hl13
       have HSZ := Lib.hid hg13.size
       have hB13 := HB12.out.grown hg13 hsw (fun g hg => (HO12.out.lt g hg).1)
       have HEXe := Lib.hid (HEXd.out.quiet hB13)
       have hA0 := (HBF.out w13 (HBD.out.trans (hB13.mono HBD.out.size))).1
       have hB0 := (HBF.out w13 (HBD.out.trans (hB13.mono HBD.out.size))).2
       have HND13 := Lib.hid (HNDa.out.below (HBD.out.trans (hB13.mono HBD.out.size)) HNDa.out.lt)
       have HO13 := Lib.hid (own_base (base := w1.heap.size) ho13 HEXd.out.siz)
       clear hB13 ho13 hg13 hl13 hkx HO12 HB12
       (refine hK _ _ ⟨hA0, fun h => absurd (h.symm.trans (by kernel_rfl : _ = true)) Bool.false_ne_true⟩ ?_; clear hK K; (try simp only [Act.put, List.setIfInBounds_toArray, List.set_cons_zero, List.set_cons_succ]))
       (refine uA 11 ?_ rfl hA0 hB0 (fun W hA => ?_) ?_; rotate_left; (· (go_simp; try with_reducible rfl)); (try simp only [Act.put, List.setIfInBounds_toArray, List.set_cons_zero, List.set_cons_succ]))
       clear hA0 hB0
       have hbz := box_below w13 (.cells #[.int .i64 nx, .int .i64 ((tk : Int) + 1), .slice A13 (xn + 1) c13] 142)
       have hkz : Blk (w13.alloc (.cells #[.int .i64 nx, .int .i64 ((tk : Int) + 1), .slice A13 (xn + 1) c13] 142)) w13.heap.size 142 [.int .i64 nx, .int .i64 ((tk : Int) + 1), .slice A13 (xn + 1) c13] := Blk.new _ _ [_, _, _]
       have HEXf := Lib.hid (HEXe.out.quiet hbz)
       have HO14 := Lib.hid (own_below HO13.out hbz)
       have hs13 := HEXe.out.siz
       have HND14 := Lib.hid (HND13.out.below hbz HND13.out.lt)
       have hA4 := And.intro (HND14.out.cell (j := 0) rfl) (HND14.out.cell (j := 1) rfl)
       refine uOne (i := 12) rfl (by kernel_rfl) (fun K hK => ?_)
       go_simp
       (refine hK _ _ ⟨hA4, fun h => absurd (h.symm.trans (by kernel_rfl : _ = true)) Bool.false_ne_true⟩ ?_; clear hK K; (try simp only [Act.put, List.setIfInBounds_toArray, List.set_cons_zero, List.set_cons_succ]))
       generalize w13.heap.size = zb at hkz ⊢
       generalize w13.alloc (.cells #[.int .i64 nx, .int .i64 ((tk : Int) + 1), .slice A13 (xn + 1) c13] 142) = w14 at hkz HEXf HO14 HND14 ⊢
       clear hbz hA4
       refine uOne (i := 13) rfl (by kernel_rfl) (fun K hK => ?_)
       refine step_pushW rfl (.tmp 100) (.tmp 112) 138 rfl w1.heap.size 142 (.agg #[.int .i64 0, .int .i64 0, .slice none 0 0]) 3 40 Try.underlying138 plc_info rfl (by decide) rfl _ [.int .i64 nx, .int .i64 ((tk : Int) + 1), .slice A13 (xn + 1) c13] rfl HEXf.out.own HEXf.out.siz hkz rfl (fun u hu => by simp at hu; rcases hu with rfl | rfl | rfl <;> rfl) (by omega) (by omega) ?_
       intro A15 c15 w15 ho15 hg15 hl15
       have HE15 := Lib.hid (show LwN w1.heap.size w1 w15 (.slice A15 (nl + 1) c15) (nl + 1) (l2 ++ [(vx, (⟨A13, xn + 1, c13, xl ++ [(jx : Int)]⟩ : IV))]) by
        rw [HVX.out]
        exact HEXf.out.add (x := ⟨A13, xn + 1, c13, xl ++ [(jx : Int)]⟩) HXI.out (by omega) ho15 hg15 (by rw [iv_append]; exact HO14.out) (by rw [List.length_append, HWN.out]; rfl) (by rw [HWL.out]))
       have HND15 := Lib.hid (HND14.out.kept hg15 (blk_ne_own HEXf.out.own HND14.out (by decide)))
       have hA5 := And.intro (HND15.out.cell (j := 0) rfl) (HND15.out.cell (j := 1) rfl)
       have hA6 := And.intro (HND15.out.cell (j := 0) rfl) (HND15.out.cell (j := 1) rfl)
       clear ho15 hg15 hl15
       (refine hK _ _ ⟨hA5, fun h => absurd (h.symm.trans (by kernel_rfl : _ = true)) Bool.false_ne_true⟩ ?_; clear hK K; (try simp only [Act.put, List.setIfInBounds_toArray, List.set_cons_zero, List.set_cons_succ]))
       refine uOne (i := 14) rfl (by kernel_rfl) (fun K hK => ?_)
       go_simp
       (refine hK _ _ ⟨hA6, fun h => absurd (h.symm.trans (by kernel_rfl : _ = true)) Bool.false_ne_true⟩ ?_; clear hK K; (try simp only [Act.put, List.setIfInBounds_toArray, List.set_cons_zero, List.set_cons_succ]))
       refine anyU_done (by kernel_rfl) ?_ _
       have HM9 := Lib.hid (show (l2 ++ [(vx, (⟨A13, xn + 1, c13, xl ++ [(jx : Int)]⟩ : IV))]).map Prod.fst = l2.map Prod.fst ++ [vx] by simp)
       have HTT9 := Lib.hid (show (l2 ++ [(vx, (⟨A13, xn + 1, c13, xl ++ [(jx : Int)]⟩ : IV))])[i]? = some (tv, (⟨XA, xn, xc, xl⟩ : IV)) by rw [List.getElem?_append_left (by rw [HEXa.out.ln]; omega)]; exact HTT.out)
       go_wp2
       go_roundw
       case rel => exact ⟨j + 1, nl + 1, _, _, _, _, l2 ++ [(vx, (⟨A13, xn + 1, c13, xl ++ [(jx : Int)]⟩ : IV))], rfl, rfl, rfl, by go_num, by omega, by omega, hn9, HE15, by rw [HM9.out]; exact HXI9, by rw [HM9.out]; exact HXD9, HTT9, by rw [HM9.out]; exact HR9⟩
       case measure => simp [intOf]; omega
end Go.Proofs.Ytddhaidimadliaa

/- The statement DiagnosabilityExcuses: the walk. -/
namespace Go.Proofs.Ytddhaidimadliaa
open Go.RowKit Go

theorem run_none {m : Dm} {c : Int} {ws : List Int} (hw : WF m.a) (h : endsL m.a 0 ws < 0) : runC m c 0 ws false = none := by
 cases hr : runC m c 0 ws false with
 | none => rfl
 | some p =>
  obtain ⟨t, g⟩ := p
  obtain ⟨h0, hg, _⟩ := (runC_go hw _ _ _ _ _).1 hr
  unfold endsL at h
  rw [if_neg (by omega)] at h
  have := (endL_go hw ws 0 (Int.le_refl 0)).1 t hg
  omega
theorem run_some {m : Dm} {c : Int} {ws : List Int} (hw : WF m.a) (h : ¬ endsL m.a 0 ws < 0) : ∃ p, runC m c 0 ws false = some p := by
 unfold endsL at h
 by_cases h0 : (0 : Int) < 0 ∨ m.a.st ≤ 0
 ·rw [if_pos h0] at h; exact absurd (by decide) h
 rw [if_neg h0] at h
 cases hg : goS (stA m.a) 0 ws with
 | none => have := (endL_go hw ws 0 (Int.le_refl 0)).2 hg; omega
 | some t => exact ⟨(t, _), (runC_go hw _ _ _ _ _).2 ⟨by omega, hg, rfl⟩⟩
set_option maxRecDepth 100000 in
set_option maxHeartbeats 6400000 in
theorem excuses_walk (x : S4) (cl : Int) (y : IV) (w : World) (hx : x.ok) (hc : 0 ≤ cl ∧ cl ≤ 255) (hy : y.ok w w.heap.size) :
  Calls Try.prog 6 #[.agg (s4c x).toArray, .int .u8 cl, y.v] w fun e w' => e = .returned (.bool true) ∧ Below w.heap.size w w' := by
 obtain ⟨w1, hw1⟩ : ∃ w1, w1 = w.alloc (.cells (s4c x).toArray 29) := ⟨_, rfl⟩
 have hb1 := box_below w (.cells (s4c x).toArray 29)
 have kx : Blk w1 w.heap.size 29 (s4c x) := by rw [hw1]; exact Blk.new _ _ _
 rw [← hw1] at hb1
 have HK := Lib.hid (fun (W : World) (hb : Below w1.heap.size w1 W) => kx.below hb kx.lt)
 have HY := Lib.hid (fun (W : World) (hb : Below w1.heap.size w1 W) => (hy.below (hb1.trans (hb.mono hb1.size))).more (hb1.trans (hb.mono hb1.size)).size)
 have HBL := Lib.hid (fun (W : World) (hb : Below w1.heap.size w1 W) => hb1.trans (hb.mono hb1.size))
 have HX := Lib.hid hx
 have HSL := Lib.hid (s4_len hx)
 have HYL := Lib.hid hy.la
 have hyc := hy.ac
 have hyc2 := hy.cA
 have HW1 := Lib.hid hw1; clear hw1
 clear hx hy kx hb1
 obtain ⟨YA, yn, yc, yl⟩ := y
 dsimp only [IV.v] at HY hyc hyc2 HYL ⊢
 have HKN := Lib.hid (fun (W : World) => known41 W)
 go_enter Try.func6, Try.ntmps6
 go_upto_region 1 with fail
 rw [← HW1.out]
 go_wp2_with fail
 refine (HKN.out w1).mono ?_
 rintro _ w3 ⟨rfl, hb3⟩
 have HB3 := Lib.hid hb3
 clear hb3
 by_cases g8 : (8 : Int) < (yn : Int)
 case' pos =>
  by_cases g9 : (yn : Int) ≤ 4096
  ·go_wp2_with fail
   refine (HKN.out w3).mono ?_
   rintro _ w4 ⟨rfl, hb4⟩
   have HB4 := Lib.hid (HB3.out.trans (hb4.mono HB3.out.size))
   clear hb4
   go_wp2
   go_ret
   exact ⟨rfl, HBL.out _ HB4.out⟩
  by_cases g98 : (4098 : Int) < (yn : Int)
  ·go_wp2_with fail
   refine (HKN.out w3).mono ?_
   rintro _ w4 ⟨rfl, hb4⟩
   have HB4 := Lib.hid (HB3.out.trans (hb4.mono HB3.out.size))
   clear hb4
   go_wp2
   go_ret
   exact ⟨rfl, HBL.out _ HB4.out⟩
 case' neg =>
  have g98 : ¬ (4098 : Int) < (yn : Int) := by omega
 all_goals
  have hrg : w3.rangeAt w.heap.size 0 (s4c x) := fun j v hv => by rw [Nat.zero_add]; exact (HK.out w3 HB3.out).cell hv
  clear HKN
  go_upto_region 3 with fail
  go_wp2_with (first
   | (refine wpList_load_mid rfl 29 (.tmp 3) rfl w.heap.size 0 rfl (s4c x) _ hrg Try.underlying29 rfl (by rw [HSL.out]; kernel_rfl) ?_)
   | fail)
  refine (law_Make41 x w3 HX.out).mono ?_
  rintro _ w4 ⟨z, rfl, hz, his, hb4⟩
  have HDM := Lib.hid (his.dm HX.out)
  have HST := Lib.hid (show z.x.a.st ≤ 40 by rw [his.a]; have := S4.st_le HX.out; omega)
  have HZ := Lib.hid hz
  have HB4 := Lib.hid (HB3.out.trans (hb4.mono HB3.out.size))
  clear hb4 his hz hrg HK
  have HWF := Lib.hid (dmE_wf HDM.out)
  have HEA := Lib.hid (dmE_al HDM.out)
  obtain ⟨c, hcv⟩ : ∃ c : Int, 1 + cl % 4 = c := ⟨_, rfl⟩
  have hc1 : 1 ≤ c ∧ c ≤ 4 := by omega
  have HCL := Lib.hid (clsE_zero HDM.out hc1.1 hc1.2)
  have HEX := Lib.hid (fun (W : World) (hzz : z.ok W W.heap.size) (hb : Below w1.heap.size w1 W) => dm_Excuse z c ⟨YA, yn, yc, yl⟩ W hzz HCL.out HST.out (HY.out W hb))
  have HEN := Lib.hid (fun (W : World) (hzz : z.ok W W.heap.size) (hb : Below w1.heap.size w1 W) => law_ends z.x 0 ⟨YA, yn, yc, yl⟩ _ W hzz.x (HY.out W hb) rfl)
  have HSN := Lib.hid (fun (W : World) (hzz : z.ok W W.heap.size) (hb : Below w1.heap.size w1 W) (hn : yn ≤ 1000000) (hin : ∀ v ∈ yl, 0 ≤ v ∧ v < (z.nv : Int)) => law_seen z c ⟨YA, yn, yc, yl⟩ W hzz (HY.out W hb) hn hin)
  have HLX := Lib.hid (fun (W : World) (hzz : z.ok W W.heap.size) (u : IV) (hu : u.ok W W.heap.size) (hn : u.n ≤ 4096) => law_excuse z c u W hzz HWF.out HEA.out HST.out hu hn)
  dsimp only [IV.v] at HEX HEN HSN HLX
  obtain ⟨m, hm⟩ : ∃ m, z.m = m := ⟨_, rfl⟩
  have HMA := Lib.hid (show z.x.a = m.a by rw [← hm]; rfl)
  rw [hm] at HEX HSN HLX
  rw [HMA.out] at HWF HEA HEN
  clear hm
  obtain ⟨⟨A, na, ca, M, nm, cm, E, ne, ce, a⟩, V, nv, cv, l⟩ := z
  unfold dvc at HEX HSN HLX ⊢
  dsimp only at HEX HEN HSN HLX HEA ⊢
  obtain ⟨sv, hsv⟩ : ∃ s, a.st = s := ⟨_, rfl⟩
  have HSV := Lib.hid (show m.a.st = sv by rw [← hsv]; exact congrArg Aut.st HMA.out.symm)
  rw [hsv] at HEX HSN HLX ⊢
  rw [HSV.out] at HEN
  clear hsv
  have hbx := box_below w4 (.cells #[.slice A na ca, .int .i64 sv, .slice M nm cm, .slice E ne ce, .slice V nv cv] 37)
  have kb : Blk (w4.alloc (.cells #[.slice A na ca, .int .i64 sv, .slice M nm cm, .slice E ne ce, .slice V nv cv] 37)) w4.heap.size 37 [.slice A na ca, .int .i64 sv, .slice M nm cm, .slice E ne ce, .slice V nv cv] := Blk.new _ _ [_, _, _, _, _]
  have HB5 := Lib.hid (HB4.out.trans (hbx.mono HB4.out.size))
  have HZ5 := Lib.hid ((HZ.out.below hbx).more hbx.size)
  clear hbx HZ HB4
  go_upto_region 4 with fail
  generalize w4.heap.size = bx at kb ⊢
  generalize w4.alloc (.cells #[.slice A na ca, .int .i64 sv, .slice M nm cm, .slice E ne ce, .slice V nv cv] 37) = w5 at kb HB5 HZ5 ⊢
  try rw [hcv]
  have HKB := Lib.hid kb
  obtain ⟨a0, a1, a2, a3, a4⟩ := Blk.c5 kb
  have HC := Lib.hid (HEX.out w5 HZ5.out HB5.out)
  clear kb HEX hcv
  obtain ⟨RE, hRE⟩ : ∃ r, excR m c yl = r := ⟨_, rfl⟩
  rw [hRE] at HC
  have HRE := Lib.hid hRE
  clear hRE
  go_wp2_with fail
  refine HC.out.mono ?_
  rintro _ w6 ⟨v6, rfl, ho6, hb6⟩
  have HB6 := Lib.hid (HB5.out.trans (hb6.mono HB5.out.size))
  have HZ6 := Lib.hid ((HZ5.out.below hb6).more hb6.size)
  have HKB6 := Lib.hid (HKB.out.below hb6 HKB.out.lt)
  obtain ⟨VA, vc, rfl, v1, v2, vrd⟩ := own_slI ho6
  have HVR := Lib.hid vrd
  clear a0 a1 a2 a3 a4 HC hb6 ho6 vrd HKB HZ5
 rotate_left
 ·have b46 : (4096 : Int) < (yn : Int) := by omega
  have hre : RE = (none, 15) := by rw [← HRE.out]; unfold excR; rw [if_pos (by rw [HYL.out]; omega)]
  subst hre
  dsimp only [Option.isSome_none, Option.getD_none, List.length_nil] at v1 ⊢
  go_wp2
  go_ret
  exact ⟨rfl, HBL.out _ HB6.out⟩
 ·have b46 : ¬ (4096 : Int) < (yn : Int) := by omega
  obtain ⟨a0, a1, a2, a3, a4⟩ := Blk.c5 HKB6.out
  have HC := Lib.hid (HEN.out w6 HZ6.out HB6.out)
  obtain ⟨en, hen⟩ : ∃ s, endsL m.a 0 yl = s := ⟨_, rfl⟩
  rw [hen] at HC
  have HEN0 := Lib.hid hen
  clear hen
  go_wp2_with fail
  refine HC.out.mono ?_
  rintro _ w7 ⟨rfl, hb7⟩
  have HB7 := Lib.hid (HB6.out.trans (hb7.mono HB6.out.size))
  have HZ7 := Lib.hid ((HZ6.out.below hb7).more hb7.size)
  have HKB7 := Lib.hid (HKB6.out.below hb7 HKB6.out.lt)
  have HVR7 := Lib.hid ((HVR.out.below hb7).more hb7.size)
  clear a0 a1 a2 a3 a4 HC hb7 HEN HZ6 HKB6 HVR
  by_cases he0 : en < 0
  ·have hre : RE = (none, 10) := by rw [← HRE.out]; unfold excR; rw [if_neg (by rw [HYL.out]; omega), run_none HWF.out (by rw [HEN0.out]; exact he0)]
   subst hre
   dsimp only [Option.isSome_none, Option.getD_none, List.length_nil] at v1 ⊢
   go_wp2
   go_ret
   exact ⟨rfl, HBL.out _ HB7.out⟩
  ·obtain ⟨pr, hpr⟩ := run_some (c := c) HWF.out (show ¬ endsL m.a 0 yl < 0 by rw [HEN0.out]; exact he0)
   have hin : ∀ v ∈ yl, 0 ≤ v ∧ v < (nv : Int) := fun v hv => HEA.out v (runC_al (t := pr.1) (g := pr.2) hpr v hv)
   have hre : RE = (excE m c (obsW m yl), 0) := by rw [← HRE.out]; unfold excR; rw [if_neg (by rw [HYL.out]; omega), hpr]
   obtain ⟨X, hX⟩ : ∃ s, excE m c (obsW m yl) = s := ⟨_, rfl⟩
   rw [hX] at hre
   have HXX := Lib.hid hX
   subst hre
   dsimp only at v1 HVR7 ⊢
   obtain ⟨a0, a1, a2, a3, a4⟩ := Blk.c5 HKB7.out
   have HC := Lib.hid (HSN.out w7 HZ7.out HB7.out (by omega) hin)
   clear hpr hX hin
   obtain ⟨fb, hfb⟩ : ∃ s, fltB m c yl = s := ⟨_, rfl⟩
   rw [hfb] at HC
   clear hfb
   go_wp2_with fail
   refine HC.out.mono ?_
   rintro _ w8 ⟨v8, rfl, ho8, hb8⟩
   obtain ⟨OA, oc, rfl, o1, o2, ord⟩ := own_slI ho8
   have HB8 := Lib.hid (HB7.out.trans (hb8.mono HB7.out.size))
   have HZ8 := Lib.hid ((HZ7.out.below hb8).more hb8.size)
   have HKB8 := Lib.hid (HKB7.out.below hb8 HKB7.out.lt)
   have HVR8 := Lib.hid ((HVR7.out.below hb8).more hb8.size)
   have hol : (obsW m yl).length ≤ 4096 := by
    have h1 : (obsW m yl).length ≤ yl.length := by unfold obsW; exact List.length_filter_le _ _
    rw [HYL.out] at h1
    omega
   have HC2 := Lib.hid (HLX.out w8 HZ8.out ⟨OA, (obsW m yl).length, oc, obsW m yl⟩ ⟨rfl, o1, o2, ord⟩ hol)
   dsimp only at HC2
   rw [HXX.out] at HC2
   clear a0 a1 a2 a3 a4 HC hb8 ho8 HSN HLX ord HZ7 HKB7 HVR7
   obtain ⟨a0, a1, a2, a3, a4⟩ := Blk.c5 HKB8.out
   generalize (obsW m yl).length = on at o1 hol HC2 ⊢
   go_wp2_with fail
   refine HC2.out.mono ?_
   rintro _ w9 ⟨u, rfl, hul, huk, hb9⟩
   have HB9 := Lib.hid (HB8.out.trans (hb9.mono HB8.out.size))
   have HVR9 := Lib.hid ((HVR8.out.below hb9).more hb9.size)
   obtain ⟨UA, un, uc, ul⟩ := u
   dsimp only at hul
   subst hul
   have HE := Lib.hid (slices_Equal_n VA UA vc uc (X.getD []).length un (X.getD []) (X.getD []) true w9 rfl huk.la (eqB_of rfl) HVR9.out v1 v2 huk.ra)
   clear a0 a1 a2 a3 a4 HC2 hb9 huk HKB8 HVR8 HZ8
   dsimp only [IV.v]
   generalize (X.getD []).length = xn9 at v1 HE ⊢
   obtain ⟨is9, his9⟩ : ∃ s, X.isSome = s := ⟨_, rfl⟩
   rw [his9]
   clear his9
   cases is9 with
   | true =>
    go_wp2_with fail
    refine HE.out.mono ?_
    rintro _ w10 ⟨rfl, n10, rfl⟩
    go_wp2
    go_ret
    exact ⟨rfl, HBL.out _ (below_drewN HB9.out _)⟩
   | false =>
    go_wp2_with fail
    refine HE.out.mono ?_
    rintro _ w10 ⟨rfl, n10, rfl⟩
    go_wp2
    go_ret
    exact ⟨rfl, HBL.out _ (below_drewN HB9.out _)⟩
end Go.Proofs.Ytddhaidimadliaa
