/- Walks: Check, Refusals, Supremal, Infimal at a wrong problem. -/
import Derived.Test.YtcchnibgehonoaaDoorCi
import Derived.Test.YtcchnibgehonoaaDoorGa
namespace Go.Proofs.YtcchnibgehonoaaDoor
open Go.RowKit Go Go.Maps

end Go.Proofs.YtcchnibgehonoaaDoor

/- Walks: Refusals at a right problem. -/
namespace Go.Proofs.YtcchnibgehonoaaDoor
open Go.RowKit Go Go.Maps

/-- two rows of ints that grow apart from each other -/
structure TwoR (B : Nat) (w0 w : World) (v1 v2 : Value) (n1 n2 : Nat) (l1 l2 : List Int) : Prop where
 bel : Below B w0 w
 siz : B ≤ w.heap.size
 o1 : w.ownsRow B 3 1 v1 n1 (iv l1)
 o2 : w.ownsRow B 3 1 v2 n2 (iv l2)
 e1 : l1.length = n1
 e2 : l2.length = n2
 apt : ∀ g, v1.ownBlock = some g → v2.ownBlock ≠ some g
section
variable {B : Nat} {w0 w w' : World} {v1 v2 : Value} {n1 n2 : Nat} {l1 l2 : List Int}
theorem TwoR.quiet (h : TwoR B w0 w v1 v2 n1 n2 l1 l2) (hb : Below w.heap.size w w') : TwoR B w0 w' v1 v2 n1 n2 l1 l2 :=
 ⟨h.bel.trans (hb.mono h.siz), Nat.le_trans h.siz hb.size, own_below h.o1 hb, own_below h.o2 hb, h.e1, h.e2, h.apt⟩
theorem TwoR.push (h : TwoR B w0 w v1 v2 n1 n2 l1 l2) {A : Option Addr} {c : Nat} {i : Int} (ho : w'.ownsRow B 3 1 (.slice A (n1 + 1) c) (n1 + 1) (iv l1 ++ [.int .i64 i])) (hg : w.grownBy w' v1.ownBlock)
  (hl : (Value.slice A (n1 + 1) c).ownBlock = v1.ownBlock ∨ ∃ g, (Value.slice A (n1 + 1) c).ownBlock = some g ∧ w.heap.size ≤ g) : TwoR B w0 w' (.slice A (n1 + 1) c) v2 (n1 + 1) n2 (l1 ++ [i]) l2 := by
 refine ⟨h.bel.grown hg h.siz (fun j hj => (h.o1.lt j hj).1), Nat.le_trans h.siz hg.size, by rw [iv_append]; exact ho, own_far h.o2 hg (fun g e1 e2 => h.apt g e2 e1), by simp [h.e1], h.e2, fun g hg1 hg2 => ?_⟩
 rcases hl with hl | ⟨g', hl, hle⟩
 ·rw [hl] at hg1; exact h.apt g hg1 hg2
 ·rw [hl] at hg1; injection hg1 with hg1
  have := (h.o2.lt g hg2).2
  omega
theorem TwoR.start (w : World) : TwoR w.heap.size w w (.slice none 0 0) (.slice none 0 0) 0 0 [] [] :=
 ⟨Below.refl _ _, Nat.le_refl _, World.ownsRow_nil _ _ _ _, World.ownsRow_nil _ _ _ _, rfl, rfl, fun g hg => by simp [Value.ownBlock] at hg⟩
end
end Go.Proofs.YtcchnibgehonoaaDoor

/- Walks: the law's has, next. -/
namespace Go.Proofs.YtcchnibgehonoaaDoor
open Go.RowKit Go Go.Maps

end Go.Proofs.YtcchnibgehonoaaDoor

/- Walks: the law's refuses. -/
namespace Go.Proofs.YtcchnibgehonoaaDoor
open Go.RowKit Go Go.Maps

end Go.Proofs.YtcchnibgehonoaaDoor

/- Plain: tuples do not lie in a zero automaton's block; events outside the plant's alphabet are not refused. -/
namespace Go.Proofs.YtcchnibgehonoaaDoor
open Go.RowKit Go Go.Maps

theorem Blk.inv {W : World} {q : Nat} {t : TypeId} {vs : List Value} (h : Blk W q t vs) {p : Addr} {u : Value} (hp : p.block = q) (hc : W.cell? p = some u) : p.spot = none ∧ vs[p.off]? = some u := by
 unfold World.cell? at hc
 rw [hp, show W.heap[q]? = some (.cells vs.toArray t (0, 0)) from h] at hc
 simp only at hc
 cases hs : p.spot with
 | none => rw [hs] at hc; exact ⟨rfl, by simpa using hc⟩
 | some z => rw [hs] at hc; simp at hc
theorem ref_mem {P R : Aut} (hp : WF P) (s r : Int) : ∀ u : List Int, refF P R s r u = refF P R s r (intS u P.al)
 | [] => rfl
 | x :: u => by
  have ih := ref_mem (R := R) hp s r u
  by_cases hx : hasB P.al x = true
  ·rw [show intS (x :: u) P.al = x :: intS u P.al by unfold intS; rw [List.filter_cons, if_pos hx]]
   unfold refF
   rw [ih]
  ·rw [show intS (x :: u) P.al = intS u P.al by unfold intS; rw [List.filter_cons, if_neg hx], ← ih]
   have hb : refB P R s r x = false := by
    unfold refB
    rw [lkE_none (fun y hy he => hx (by rw [← he.2]; exact (hp.erng y hy).2))]; rfl
   show (if refB P R s r x = true then x else refF P R s r u) = _
   rw [hb]; rfl
theorem badI_mem {P R : Aut} (hp : WF P) (u : List Int) (T : List (List Int)) (k : Nat) : badI P R u T k = badI P R (intS u P.al) T k := by
 unfold badI refT
 congr 1
 funext i
 rw [ref_mem hp]
end Go.Proofs.YtcchnibgehonoaaDoor

/- Walks: the law's refusals. -/
namespace Go.Proofs.YtcchnibgehonoaaDoor
open Go.RowKit Go Go.Maps

end Go.Proofs.YtcchnibgehonoaaDoor

/- Walks: the law's problem. -/
namespace Go.Proofs.YtcchnibgehonoaaDoor
open Go.RowKit Go Go.Maps

end Go.Proofs.YtcchnibgehonoaaDoor

/- Walks: the law's few. -/
namespace Go.Proofs.YtcchnibgehonoaaDoor
open Go.RowKit Go Go.Maps

end Go.Proofs.YtcchnibgehonoaaDoor

/- Walks: automaton.Closed. -/
namespace Go.Proofs.YtcchnibgehonoaaDoor
open Go.RowKit Go Go.Maps

/-- all states marked -/
def cloA (a : Aut) : Aut := ⟨(canA a).al, (canA a).st, rngI (canA a).st, (canA a).ed⟩
structure ClsM (p b : Nat) (w0 w : World) (V : Option Addr) (nv cv : Nat) (al : List Int) (sv : Value) (E : Option Addr) (ne ce : Nat) (es : List Ed) (mv : Value) (nm : Nat) (mk : List Int) : Prop where
 pb : p + 1 < b
 bel : Below p w0 w
 res : Blk w (p + 1) 25 [.slice none 0 0, .int .i64 0, .slice none 0 0, .slice none 0 0]
 out : Blk w b 25 [.slice V nv cv, sv, mv, .slice E ne ce]
 alo : w.ownsRow (p + 2) 3 1 (.slice V nv cv) nv (iv al)
 edo : w.ownsRow (p + 2) 83 3 (.slice E ne ce) ne (es.flatMap edc)
 vlt : ∀ g, (Value.slice V nv cv).ownBlock = some g → g < b
 elt : ∀ g, (Value.slice E ne ce).ownBlock = some g → g < b
 mrk : w.ownsRow (b + 1) 3 1 mv nm (iv mk)
 mkl : mk.length = nm
section
variable {p b : Nat} {w0 w w' : World} {V E : Option Addr} {nv cv ne ce nm : Nat} {al mk : List Int} {sv mv : Value} {es : List Ed}
theorem ClsM.mark (h : ClsM p b w0 w V nv cv al sv E ne ce es mv nm mk) {A : Option Addr} {c : Nat} {i : Int} (ho : w'.ownsRow (b + 1) 3 1 (.slice A (nm + 1) c) (nm + 1) (iv mk ++ [.int .i64 i])) (hg : w.grownBy w' mv.ownBlock) :
  ClsM p b w0 (w'.setCell ⟨b, 2, none⟩ (.slice A (nm + 1) c)) V nv cv al sv E ne ce es (.slice A (nm + 1) c) (nm + 1) (mk ++ [i]) := by
 have hp := h.pb
 have hlt : b < w.heap.size := h.out.lt
 have hb := h.bel.grown hg (by omega) (fun j hj => by have := (h.mrk.lt j hj).1; omega)
 have hal := own_far h.alo hg (fun g e1 e2 => by have := h.vlt g e1; have := (h.mrk.lt g e2).1; omega)
 have hed := own_far h.edo hg (fun g e1 e2 => by have := h.elt g e1; have := (h.mrk.lt g e2).1; omega)
 have hout := h.out.kept hg (own_lt_ne h.mrk (Nat.lt_succ_self _))
 have hres := h.res.kept hg (own_lt_ne h.mrk (by omega))
 have hs := grown_setCell w' b 2 (.slice A (nm + 1) c)
 refine ⟨h.pb, hb.setCell (by show p ≤ b; omega) _, hres.kept hs (by intro e; injection e with e; omega), hout.set (by simp) _, hal.kept hs ?_, hed.kept hs ?_, h.vlt, h.elt, own_kept_low (by rw [iv_append]; exact ho) hs (Nat.lt_succ_self _), by simp [h.mkl]⟩
 ·cases hv : (Value.slice V nv cv).ownBlock with
  | none => exact .inl rfl
  | some g => exact .inr (fun e => by injection e with e; have := h.vlt g hv; omega)
 ·cases hv : (Value.slice E ne ce).ownBlock with
  | none => exact .inl rfl
  | some g => exact .inr (fun e => by injection e with e; have := h.elt g hv; omega)
end
set_option maxRecDepth 100000 in
set_option maxHeartbeats 3200000 in
theorem automaton_Closed (A : Option Addr) (na ca : Nat) (M : Option Addr) (nm cm : Nat) (E : Option Addr) (ne ce : Nat) (a : Aut) (w : World) (h : AutR w w.heap.size A na ca M nm cm E ne ce a) (hw : WF a) :
  Calls Tryd.prog 31 #[.agg #[.slice A na ca, .int .i64 a.st, .slice M nm cm, .slice E ne ce]] w (RetAE (cloA a) w) := by
 obtain ⟨st, hst⟩ : ∃ st, a.st = st := ⟨_, rfl⟩
 rw [hst]
 have hb1 := (box_below w (.cells #[.slice A na ca, .int .i64 st, .slice M nm cm, .slice E ne ce] 25)).alloc (by simp) (.cells #[.slice none 0 0, .int .i64 0, .slice none 0 0, .slice none 0 0] 25)
 obtain ⟨w1, hw1⟩ : ∃ w1, w1 = (w.alloc (.cells #[.slice A na ca, .int .i64 st, .slice M nm cm, .slice E ne ce] 25)).alloc (.cells #[.slice none 0 0, .int .i64 0, .slice none 0 0, .slice none 0 0] 25) := ⟨_, rfl⟩
 have k3 : Blk w1 w.heap.size 25 [.slice A na ca, .int .i64 st, .slice M nm cm, .slice E ne ce] := by rw [hw1]; exact (Blk.new _ _ [_, _, _, _]).al _
 have kR : Blk w1 (w.heap.size + 1) 25 [.slice none 0 0, .int .i64 0, .slice none 0 0, .slice none 0 0] := by rw [hw1]; exact Blk.at_ _ _ [_, _, _, _] (by simp)
 rw [← hw1] at hb1
 have h1 := (h.below hb1).more hb1.size
 have HC := Lib.hid (automaton_Check A na ca M nm cm E ne ce a w1 h1)
 rw [hw.chk, hst] at HC
 have HW1 := Lib.hid hw1; clear hw1
 have HST := Lib.hid hst; clear hst
 have HW := Lib.hid hw; clear hw
 have HB1 := Lib.hid hb1; clear hb1
 have HH := Lib.hid h1; clear h1
 have K3 := Lib.hid k3; clear k3
 have KR := Lib.hid kR; clear kR
 clear h
 go_enter Tryd.func31, Tryd.ntmps31
 go_wp2_with fail
 rw [← HW1.out]
 refine HC.out.mono ?_
 rintro e w2 ⟨rfl, hb2⟩
 have HCA := Lib.hid (automaton_canonical A na ca M nm cm E ne ce a w2 ((HH.out.below hb2).more hb2.size) HW.out)
 rw [HST.out] at HCA
 have k4 := K3.out.below hb2 K3.out.lt
 have c0 := k4.cell (j := 0) rfl
 have c1 := k4.cell (j := 1) rfl
 have c2 := k4.cell (j := 2) rfl
 have c3 := k4.cell (j := 3) rfl
 have HB2 := Lib.hid (HB1.out.trans (hb2.mono HB1.out.size))
 have KR2 := Lib.hid (KR.out.below hb2 KR.out.lt)
 clear k4 hb2
 go_wp2_with fail
 refine HCA.out.mono ?_
 rintro e w8 ⟨A9, na9, ca9, M9, nm9, cm9, E9, ne9, ce9, rfl, ho9, hb9⟩
 have hwc := canA_wf HW.out
 obtain ⟨n, hn⟩ : ∃ n : Nat, (canA a).st = (n : Int) := ⟨(canA a).st.toNat, by have := hwc.st0; omega⟩
 have hn4 : n ≤ 4096 := by have := hwc.st1; omega
 rw [hn]
 have l2 : w.heap.size + 1 < w2.heap.size := KR2.out.lt
 have l8 : w2.heap.size ≤ w8.heap.size := hb9.size
 have hba := box_below w8 (.cells #[.slice A9 na9 ca9, .int .i64 (n : Int), .slice M9 nm9 cm9, .slice E9 ne9 ce9] 25)
 have HM0 := Lib.hid (show ClsM w.heap.size w8.heap.size w (w8.alloc (.cells #[.slice A9 na9 ca9, .int .i64 (n : Int), .slice M9 nm9 cm9, .slice E9 ne9 ce9] 25)) A9 na9 ca9 (canA a).al (.int .i64 (n : Int)) E9 ne9 ce9 (canA a).ed (.slice M9 nm9 cm9) 0 [] → True from fun _ => trivial)
 have hbl := (HB2.out.trans (hb9.mono HB2.out.size)).trans (hba.mono (Nat.le_trans (by omega) l8))
 have hre := (KR2.out.below hb9 KR2.out.lt).below hba (KR2.out.below hb9 KR2.out.lt).lt
 have hou : Blk (w8.alloc (.cells #[.slice A9 na9 ca9, .int .i64 (n : Int), .slice M9 nm9 cm9, .slice E9 ne9 ce9] 25)) w8.heap.size 25 [.slice A9 na9 ca9, .int .i64 (n : Int), .slice M9 nm9 cm9, .slice E9 ne9 ce9] := Blk.new _ _ [_, _, _, _]
 have hv := own_base (base := w.heap.size + 2) (own_below ho9.oa hba) (by omega)
 have he := own_base (base := w.heap.size + 2) (own_below ho9.oe hba) (by omega)
 have hvl : ∀ g, (Value.slice A9 na9 ca9).ownBlock = some g → g < w8.heap.size := fun g hg => (ho9.oa.lt g hg).2
 have hel : ∀ g, (Value.slice E9 ne9 ce9).ownBlock = some g → g < w8.heap.size := fun g hg => (ho9.oe.lt g hg).2
 have hla := ho9.la
 have hle := ho9.le
 clear c0 c1 c2 c3 hb9 ho9 HM0
 go_upto_region 5 with fail
 obtain ⟨b, hbe⟩ : ∃ b, w8.heap.size = b := ⟨_, rfl⟩
 rw [hbe] at hou hvl hel ⊢
 generalize w8.alloc (.cells #[.slice A9 na9 ca9, .int .i64 (n : Int), .slice M9 nm9 cm9, .slice E9 ne9 ce9] 25) = wz at hbl hre hou hv he hba ⊢
 have hpb : w.heap.size + 1 < b := by omega
 have g0 := hou.cell (j := 2) rfl
 have g1 := hou.free 2
 have g2 : b < wz.heap.size := hou.lt
 have hs := grown_setCell wz b 2 (.slice none 0 0)
 have HM := Lib.hid (show ClsM w.heap.size b w (wz.setCell ⟨b, 2, none⟩ (.slice none 0 0)) A9 na9 ca9 (canA a).al (.int .i64 (n : Int)) E9 ne9 ce9 (canA a).ed (.slice none 0 0) 0 (rngI ((0 : Nat) : Int)) from by
  refine ⟨hpb, hbl.setCell (by show w.heap.size ≤ b; omega) _, hre.kept hs (by intro e; injection e with e; omega), hou.set (by simp) _, hv.kept hs ?_, he.kept hs ?_, hvl, hel, World.ownsRow_nil _ _ _ _, rfl⟩
  ·cases hq : (Value.slice A9 na9 ca9).ownBlock with
   | none => exact .inl rfl
   | some g => exact .inr (fun e => by injection e with e; have := hvl g hq; omega)
  ·cases hq : (Value.slice E9 ne9 ce9).ownBlock with
   | none => exact .inl rfl
   | some g => exact .inr (fun e => by injection e with e; have := hel g hq; omega))
 have HLA := Lib.hid hla; clear hla
 have HLE := Lib.hid hle; clear hle
 have HCN := Lib.hid hn; clear hn
 clear hbl hre hou hv he hvl hel hs hba l8 l2 hwc hbe
 go_upto_region 6 with fail
 clear g0 g1 g2
 generalize wz.setCell ⟨b, 2, none⟩ (.slice none 0 0) = wy at HM ⊢
 have o1 := HM.out.out.cell (j := 1) rfl
 go_wp2
 clear o1
 go_loopw [18] (fun s18 wr => ∃ (k : Nat) (MA : Option Addr) (mc : Nat), s18 = .int .i64 k ∧ k ≤ n ∧ Hid (ClsM w.heap.size b w wr A9 na9 ca9 (canA a).al (.int .i64 (n : Int)) E9 ne9 ce9 (canA a).ed (.slice MA k mc) k (rngI (k : Int)))) (fun s18 _ => n - (intOf s18).toNat)
 case atStart => exact ⟨0, none, 0, rfl, Nat.zero_le _, HM⟩
 case round =>
  clear HM
  obtain ⟨k, MA, mc, rfl, hk, HM⟩ := hrel
  by_cases hlt : k < n
  ·have b1 : (k : Int) < (n : Int) := by omega
   have o2 := HM.out.out.cell (j := 2) rfl
   have hbs : b + 1 ≤ wr.heap.size := HM.out.out.lt
   go_wp2_with (at_builtin; go_loud (refine wpList_pushA wr [.int .i64 (k : Int)] rfl (.tmp 22) (.tmp 24) 22 rfl (b + 1) 3 (.int .i64 0) 1 8 Tryd.underlying22 int_info rfl (by decide) rfl (.slice MA k mc) k _ rfl HM.out.mrk rfl (fun z hz => by simp at hz; subst hz; rfl) (by omega) (by omega) hbs ?_; intro A8 c8 w7 ho8 hg8 hl8; have B8 := HM.out.out.kept hg8 (own_lt_ne HM.out.mrk (Nat.lt_succ_self _)); have e8 := B8.cell (j := 2) rfl; have f8 := B8.free 2; have l8 := B8.lt; have HM8 := Lib.hid (HM.out.mark ho8 hg8); clear B8 ho8 hg8 hl8))
   have hM9 := HM8.out
   rw [← rngI_succ] at hM9
   have HM9 := Lib.hid hM9; clear hM9
   go_roundw
   case rel => exact ⟨k + 1, A8, c8, by go_num, by omega, HM9⟩
   case measure => simp [intOf]; omega
  ·obtain rfl : k = n := by omega
   have kR9 := HM.out.res
   have hB9 := HM.out.bel
   have f0 := kR9.free 0
   have f1 := kR9.free 1
   have f2 := kR9.free 2
   have f3 := kR9.free 3
   have e0 := kR9.cell (j := 0) rfl
   have e1 := kR9.cell (j := 1) rfl
   have e2 := kR9.cell (j := 2) rfl
   have e3 := kR9.cell (j := 3) rfl
   have l9 : w.heap.size + 1 < wr.heap.size := kR9.lt
   have o0 := HM.out.out.cell (j := 0) rfl
   have o1 := HM.out.out.cell (j := 1) rfl
   have o2 := HM.out.out.cell (j := 2) rfl
   have o3 := HM.out.out.cell (j := 3) rfl
   go_wp2
   have hb4 := (((kR9.set (j := 0) (by simp) (.slice A9 na9 ca9)).set (j := 1) (by simp) (.int .i64 (k : Int))).set (j := 2) (by simp) (.slice MA k mc)).set (j := 3) (by simp) (.slice E9 ne9 ce9)
   have z0 := hb4.cell (j := 0) rfl
   have z1 := hb4.cell (j := 1) rfl
   have z2 := hb4.cell (j := 2) rfl
   have z3 := hb4.cell (j := 3) rfl
   have hq : ∀ k : Nat, w.heap.size ≤ (⟨w.heap.size + 1, k, none⟩ : Addr).block := fun k => by show w.heap.size ≤ w.heap.size + 1; omega
   have F := (((hB9.setCell (p := ⟨w.heap.size + 1, 0, none⟩) (hq 0) (.slice A9 na9 ca9)).setCell (p := ⟨w.heap.size + 1, 1, none⟩) (hq 1) (.int .i64 (k : Int))).setCell (p := ⟨w.heap.size + 1, 2, none⟩) (hq 2) (.slice MA k mc)).setCell (p := ⟨w.heap.size + 1, 3, none⟩) (hq 3) (.slice E9 ne9 ce9)
   have hg : wr.grownBy ((((wr.setCell ⟨w.heap.size + 1, 0, none⟩ (.slice A9 na9 ca9)).setCell ⟨w.heap.size + 1, 1, none⟩ (.int .i64 (k : Int))).setCell ⟨w.heap.size + 1, 2, none⟩ (.slice MA k mc)).setCell ⟨w.heap.size + 1, 3, none⟩ (.slice E9 ne9 ce9)) (some (w.heap.size + 1)) := (((grown_setCell _ _ _ _).trans (grown_setCell _ _ _ _)).trans (grown_setCell _ _ _ _)).trans (grown_setCell _ _ _ _)
   refine bodyPost_ret (v := .tuple #[.agg #[.slice A9 na9 ca9, .int .i64 (k : Int), .slice MA k mc, .slice E9 ne9 ce9], .int .i64 0]) (by simp [results, Tryd.results31, go_sem, z0, z1, z2, z3]) rfl ?_
   refine ⟨A9, na9, ca9, MA, k, mc, E9, ne9, ce9, by rw [show (cloA a).st = (k : Int) from HCN.out], ⟨HLA.out, own_base (own_kept_low HM.out.alo hg (by omega)) (by omega), ?_, ?_, HLE.out, own_base (own_kept_low HM.out.edo hg (by omega)) (by omega)⟩, F⟩
   ·show (rngI (canA a).st).length = k; rw [HCN.out]; exact rngI_lenN k
   ·show World.ownsRow _ _ _ _ _ _ (iv (rngI (canA a).st)); rw [HCN.out]; exact own_base (own_kept_low HM.out.mrk hg (by omega)) (by omega)
end Go.Proofs.YtcchnibgehonoaaDoor
