/- Words on diagnosability.open: three rows made in any order; the moves of each pair, gathered. -/
import Derived.Test.YtddhaidimadliaaJk
import Derived.Test.YtddhaidimadliaaJl
namespace Go.Proofs.Ytddhaidimadliaa
open Go.RowKit Go

/-- three blocks made, in any order -/
structure Mk3 (w0 W : World) (t1 t2 t3 : TypeId) (k1 k2 k3 : List Value) (f1 f2 f3 : Bool) (b1 b2 b3 : Nat) : Prop where
 bel : Below w0.heap.size w0 W
 m1 : f1 = true → Blk W b1 t1 k1 ∧ w0.heap.size ≤ b1
 m2 : f2 = true → Blk W b2 t2 k2 ∧ w0.heap.size ≤ b2
 m3 : f3 = true → Blk W b3 t3 k3 ∧ w0.heap.size ≤ b3
 n12 : f1 = true → f2 = true → b1 ≠ b2
 n13 : f1 = true → f3 = true → b1 ≠ b3
 n23 : f2 = true → f3 = true → b2 ≠ b3
section
variable {w0 W : World} {t1 t2 t3 : TypeId} {k1 k2 k3 : List Value} {f1 f2 f3 : Bool} {b1 b2 b3 : Nat}
theorem Mk3.bl (h : Mk3 w0 W t1 t2 t3 k1 k2 k3 f1 f2 f3 b1 b2 b3) (t : TypeId) (k : List Value) : Below w0.heap.size w0 (W.alloc (.cells k.toArray t)) := h.bel.trans ((box_below W _).mono h.bel.size)
theorem Mk3.p1 (h : Mk3 w0 W t1 t2 t3 k1 k2 k3 false f2 f3 b1 b2 b3) : Mk3 w0 (W.alloc (.cells k1.toArray t1)) t1 t2 t3 k1 k2 k3 true f2 f3 W.heap.size b2 b3 :=
 ⟨h.bl t1 k1, fun _ => ⟨Blk.new W t1 k1, h.bel.size⟩, fun e => ⟨(h.m2 e).1.al _, (h.m2 e).2⟩, fun e => ⟨(h.m3 e).1.al _, (h.m3 e).2⟩, fun _ e => Nat.ne_of_gt (h.m2 e).1.lt, fun _ e => Nat.ne_of_gt (h.m3 e).1.lt, h.n23⟩
theorem Mk3.p2 (h : Mk3 w0 W t1 t2 t3 k1 k2 k3 f1 false f3 b1 b2 b3) : Mk3 w0 (W.alloc (.cells k2.toArray t2)) t1 t2 t3 k1 k2 k3 f1 true f3 b1 W.heap.size b3 :=
 ⟨h.bl t2 k2, fun e => ⟨(h.m1 e).1.al _, (h.m1 e).2⟩, fun _ => ⟨Blk.new W t2 k2, h.bel.size⟩, fun e => ⟨(h.m3 e).1.al _, (h.m3 e).2⟩, fun e _ => Nat.ne_of_lt (h.m1 e).1.lt, h.n13, fun _ e => Nat.ne_of_gt (h.m3 e).1.lt⟩
theorem Mk3.p3 (h : Mk3 w0 W t1 t2 t3 k1 k2 k3 f1 f2 false b1 b2 b3) : Mk3 w0 (W.alloc (.cells k3.toArray t3)) t1 t2 t3 k1 k2 k3 f1 f2 true b1 b2 W.heap.size :=
 ⟨h.bl t3 k3, fun e => ⟨(h.m1 e).1.al _, (h.m1 e).2⟩, fun e => ⟨(h.m2 e).1.al _, (h.m2 e).2⟩, fun _ => ⟨Blk.new W t3 k3, h.bel.size⟩, h.n12, fun e _ => Nat.ne_of_lt (h.m1 e).1.lt, fun e _ => Nat.ne_of_lt (h.m2 e).1.lt⟩
end
def put3g (a : Act) (d1 d2 d3 : Nat) (V1 V2 V3 : Value) : Act := { a with tmps := ((a.tmps.setIfInBounds d1 V1).setIfInBounds d2 V2).setIfInBounds d3 V3 }
def set3g (L : Array Bool) (i1 i2 i3 : Nat) (f1 f2 f3 : Bool) : Array Bool := ((L.setIfInBounds i1 f1).setIfInBounds i2 f2).setIfInBounds i3 f3
def makesAt (md : Region.Mode) (ops : Array Oper) (L : Array Bool) (i1 i2 i3 : Nat) (f1 f2 f3 : Bool) : Bool :=
 (f1 && f2 && f3) || !(Region.ready md ops (set3g L i1 i2 i3 f1 f2 f3)).isEmpty && (Region.ready md ops (set3g L i1 i2 i3 f1 f2 f3)).all fun i => (i == i1 && !f1) || (i == i2 && !f2) || (i == i3 && !f3)
def makesOk (md : Region.Mode) (ops : Array Oper) (L : Array Bool) (i1 i2 i3 : Nat) : Bool :=
 ([false, true] : List Bool).all fun f1 => ([false, true] : List Bool).all fun f2 => ([false, true] : List Bool).all fun f3 => makesAt md ops L i1 i2 i3 f1 f2 f3
section
variable {α : Type} {X : Array α} {i1 i2 i3 : Nat} {x1 x2 x3 z : α}
theorem s3_1 (h12 : i1 ≠ i2) (h13 : i1 ≠ i3) : (((X.setIfInBounds i1 x1).setIfInBounds i2 x2).setIfInBounds i3 x3).setIfInBounds i1 z = ((X.setIfInBounds i1 z).setIfInBounds i2 x2).setIfInBounds i3 x3 := by
 rw [Array.setIfInBounds_comm _ _ h13.symm, Array.setIfInBounds_comm _ _ h12.symm, Array.setIfInBounds_setIfInBounds]
theorem s3_2 (h23 : i2 ≠ i3) : (((X.setIfInBounds i1 x1).setIfInBounds i2 x2).setIfInBounds i3 x3).setIfInBounds i2 z = ((X.setIfInBounds i1 x1).setIfInBounds i2 z).setIfInBounds i3 x3 := by
 rw [Array.setIfInBounds_comm _ _ h23.symm, Array.setIfInBounds_setIfInBounds]
theorem s3_3 : (((X.setIfInBounds i1 x1).setIfInBounds i2 x2).setIfInBounds i3 x3).setIfInBounds i3 z = ((X.setIfInBounds i1 x1).setIfInBounds i2 x2).setIfInBounds i3 z := by
 rw [Array.setIfInBounds_setIfInBounds]
theorem s1_id {Y : Array α} {i : Nat} {v : α} (h : Y[i]? = some v) : Y.setIfInBounds i v = Y := by
 apply Array.ext_getElem?
 intro k
 rw [Array.getElem?_setIfInBounds]
 by_cases hk : i = k
 ·subst hk; rw [if_pos rfl, h]
  split
  ·rfl
  ·rename_i hn; rw [Array.getElem?_eq_none (by omega)] at h; cases h
 ·rw [if_neg hk]
end
section
variable {P : Program} {l : List Oper} {md : Region.Mode} {Q : Exit → Act → World → Prop} {A B : World → Prop} {q : Nat}
theorem anyU_makes {L : Array Bool} {f0 : Nat} {a : Act} {w : World} {o1 o2 o3 : Oper} {r1 r2 r3 : List Oper} (d1 d2 d3 : Nat) (z1 z2 z3 : Value) (n : Nat) (t1 t2 t3 : TypeId) (k1 k2 k3 : List Value) (i1 i2 i3 : Nat)
  (hi1 : l.drop i1 = o1 :: r1) (hi2 : l.drop i2 = o2 :: r2) (hi3 : l.drop i3 = o3 :: r3)
  (hA : ∀ W, Below w.heap.size w W → A W) (hB : ∀ W, B W)
  (hl1 : ∀ (V1 V2 V3 : Value) (W : World) (K : Act → World → Prop), K (put3g a d1 d2 d3 (.slice (some ⟨W.heap.size, 0, none⟩) n n) V2 V3) (W.alloc (.cells k1.toArray t1)) → if Region.wanted o1 (yielded l.toArray (put3g a d1 d2 d3 V1 V2 V3).tmps) then o1.wp P (put3g a d1 d2 d3 V1 V2 V3) W K Q else K ((put3g a d1 d2 d3 V1 V2 V3).put o1.dst undef) W)
  (hl2 : ∀ (V1 V2 V3 : Value) (W : World) (K : Act → World → Prop), K (put3g a d1 d2 d3 V1 (.slice (some ⟨W.heap.size, 0, none⟩) n n) V3) (W.alloc (.cells k2.toArray t2)) → if Region.wanted o2 (yielded l.toArray (put3g a d1 d2 d3 V1 V2 V3).tmps) then o2.wp P (put3g a d1 d2 d3 V1 V2 V3) W K Q else K ((put3g a d1 d2 d3 V1 V2 V3).put o2.dst undef) W)
  (hl3 : ∀ (V1 V2 V3 : Value) (W : World) (K : Act → World → Prop), K (put3g a d1 d2 d3 V1 V2 (.slice (some ⟨W.heap.size, 0, none⟩) n n)) (W.alloc (.cells k3.toArray t3)) → if Region.wanted o3 (yielded l.toArray (put3g a d1 d2 d3 V1 V2 V3).tmps) then o3.wp P (put3g a d1 d2 d3 V1 V2 V3) W K Q else K ((put3g a d1 d2 d3 V1 V2 V3).put o3.dst undef) W)
  (hend : ∀ (b1 b2 b3 : Nat) (W : World), Mk3 w W t1 t2 t3 k1 k2 k3 true true true b1 b2 b3 → A W → anyU P md l.toArray Q A B q f0 (set3g L i1 i2 i3 true true true) (put3g a d1 d2 d3 (.slice (some ⟨b1, 0, none⟩) n n) (.slice (some ⟨b2, 0, none⟩) n n) (.slice (some ⟨b3, 0, none⟩) n n)) W)
  (hz01 : a.tmps[d1]? = some z1 := by rfl) (hz02 : a.tmps[d2]? = some z2 := by rfl) (hz03 : a.tmps[d3]? = some z3 := by rfl)
  (hL1 : L[i1]? = some false := by rfl) (hL2 : L[i2]? = some false := by rfl) (hL3 : L[i3]? = some false := by rfl)
  (h12 : i1 ≠ i2 := by decide) (h13 : i1 ≠ i3 := by decide) (h23 : i2 ≠ i3 := by decide) (hok : makesOk md l.toArray L i1 i2 i3 = true := by kernel_rfl) :
  anyU P md l.toArray Q A B q (f0 + 3) L a w := by
 have hrd : ∀ f1 f2 f3 : Bool, makesAt md l.toArray L i1 i2 i3 f1 f2 f3 = true := by
  intro f1 f2 f3
  unfold makesOk at hok
  rw [List.all_eq_true] at hok
  have h1 := hok f1 (by cases f1 <;> simp)
  rw [List.all_eq_true] at h1
  have h2 := h1 f2 (by cases f2 <;> simp)
  rw [List.all_eq_true] at h2
  exact h2 f3 (by cases f3 <;> simp)
 refine anyJ (I := fun a0 f L' a' W => ∃ (f1 f2 f3 : Bool) (b1 b2 b3 : Nat) (V1 V2 V3 : Value), L' = set3g L i1 i2 i3 f1 f2 f3 ∧ f + f1.toNat + f2.toNat + f3.toNat = f0 + 3 ∧ (f1 = true → V1 = .slice (some ⟨b1, 0, none⟩) n n) ∧ (f2 = true → V2 = .slice (some ⟨b2, 0, none⟩) n n) ∧ (f3 = true → V3 = .slice (some ⟨b3, 0, none⟩) n n) ∧ a' = put3g a0 d1 d2 d3 V1 V2 V3 ∧ Mk3 w W t1 t2 t3 k1 k2 k3 f1 f2 f3 b1 b2 b3) ?_ ?_
 ·refine ⟨false, false, false, 0, 0, 0, z1, z2, z3, ?_, rfl, by simp, by simp, by simp, ?_, ⟨Below.refl _ _, by simp, by simp, by simp, by simp, by simp, by simp⟩⟩
  ·unfold set3g; rw [s1_id hL1, s1_id hL2, s1_id hL3]
  ·unfold put3g; rw [s1_id hz01, s1_id hz02, s1_id hz03]
 ·rintro f L' a' W ⟨f1, f2, f3, b1, b2, b3, V1, V2, V3, rfl, hf, g1, g2, g3, rfl, HC⟩
  have hAW := hA W HC.bel
  refine ⟨⟨hAW, fun _ => hB W⟩, ?_⟩
  have hr := hrd f1 f2 f3
  unfold makesAt at hr
  rw [Bool.or_eq_true, Bool.and_eq_true, Bool.and_eq_true, Bool.and_eq_true, List.all_eq_true] at hr
  rcases hr with ⟨⟨rfl, rfl⟩, rfl⟩ | ⟨hr1, hr2⟩
  ·obtain rfl := g1 rfl
   obtain rfl := g2 rfl
   obtain rfl := g3 rfl
   obtain rfl : f = f0 := by simp only [Bool.toNat_true] at hf; omega
   exact .inl (hend b1 b2 b3 W HC hAW)
  ·have hr3 : Region.ready md l.toArray (set3g L i1 i2 i3 f1 f2 f3) ≠ [] := by simpa using hr1
   have hf0 : f ≠ 0 := by
    rintro rfl
    obtain ⟨i, hi⟩ := List.exists_mem_of_ne_nil _ hr3
    have h9 := hr2 i hi
    revert hf h9
    cases f1 <;> cases f2 <;> cases f3 <;> simp <;> omega
   refine .inr ⟨hr3, hf0, ?_⟩
   intro i hi g hfg
   subst hfg
   have h9 := hr2 i hi
   simp only [Bool.or_eq_true, Bool.and_eq_true, beq_iff_eq, Bool.not_eq_true'] at h9
   rcases h9 with (⟨rfl, rfl⟩ | ⟨rfl, rfl⟩) | ⟨rfl, rfl⟩
   ·exact wpOp_at hi1 (fun K hK => hl1 V1 V2 V3 W K (hK _ _ ⟨true, f2, f3, W.heap.size, b2, b3, _, V2, V3, s3_1 h12 h13, by simp only [Bool.toNat_true, Bool.toNat_false] at hf ⊢; omega, fun _ => rfl, g2, g3, rfl, HC.p1⟩))
   ·exact wpOp_at hi2 (fun K hK => hl2 V1 V2 V3 W K (hK _ _ ⟨f1, true, f3, b1, W.heap.size, b3, V1, _, V3, s3_2 h23, by simp only [Bool.toNat_true, Bool.toNat_false] at hf ⊢; omega, g1, fun _ => rfl, g3, rfl, HC.p2⟩))
   ·exact wpOp_at hi3 (fun K hK => hl3 V1 V2 V3 W K (hK _ _ ⟨f1, f2, true, b1, b2, W.heap.size, V1, V2, _, s3_3, by simp only [Bool.toNat_true, Bool.toNat_false] at hf ⊢; omega, g1, g2, fun _ => rfl, rfl, HC.p3⟩))
end

/-- the moves gathered so far, by the pairs that they leave -/
structure OpM (w0 w : World) (fb n k : Nat) (es : List Ed) (F : List Value) : Prop where
 ex : Ex2 fb fb w0 w
 fr : Blk w fb 52 F
 lt : fb < w0.heap.size
 fl : F.length = n
 row : ∀ i : Nat, i < n → ∃ v, F[i]? = some v ∧ w.ownsRow w0.heap.size 62 4 v (outL (es.take k) (i : Int)).length ((outL (es.take k) (i : Int)).flatMap mvc)
 apt : ∀ (i j : Nat) (v u : Value), i ≠ j → F[i]? = some v → F[j]? = some u → ∀ g, v.ownBlock = some g → u.ownBlock ≠ some g
theorem OpM.quiet {w0 w w' : World} {fb n k : Nat} {es : List Ed} {F : List Value} (h : OpM w0 w fb n k es F) (hb : Below w.heap.size w w') : OpM w0 w' fb n k es F :=
 ⟨h.ex.trans (.below hb), h.fr.below hb h.fr.lt, h.lt, h.fl, fun i hi => by obtain ⟨v, e, o⟩ := h.row i hi; exact ⟨v, e, own_below o hb⟩, h.apt⟩
theorem outL_take {es : List Ed} {k : Nat} {x : Ed} (h : es[k]? = some x) (i : Int) : outL (es.take (k + 1)) i = outL (es.take k) i ++ (if x.f = i then [x] else []) := by
 unfold outL
 rw [take_snoc' h, List.filter_append]
 by_cases e : x.f = i <;> simp [e]
theorem OpM.step {w0 w w7 : World} {fb n k j : Nat} {es : List Ed} {F : List Value} {x : Ed} {A : Option Addr} {l c : Nat} {v : Value} (h : OpM w0 w fb n k es F) (hx : es[k]? = some x) (hj : j < n) (hf : x.f = (j : Int)) (hv : F[j]? = some v) (hl : (outL (es.take k) (j : Int)).length = l)
  (ho : w7.ownsRow w0.heap.size 62 4 (.slice A (l + 1) c) (l + 1) ((outL (es.take k) (j : Int)).flatMap mvc ++ mvc x)) (hg : w.grownBy w7 v.ownBlock) (hsz : w0.heap.size ≤ w.heap.size)
  (hn : (Value.slice A (l + 1) c).ownBlock = v.ownBlock ∨ ∃ g, (Value.slice A (l + 1) c).ownBlock = some g ∧ w.heap.size ≤ g) : OpM w0 (w7.setCell ⟨fb, j, none⟩ (.slice A (l + 1) c)) fb n (k + 1) es (F.set j (.slice A (l + 1) c)) := by
 have hs := grown_setCell w7 fb j (.slice A (l + 1) c)
 obtain ⟨v', e', hov⟩ := h.row j hj
 obtain rfl : v = v' := by rw [hv] at e'; injection e'
 have hlt := h.lt
 have hk7 : Blk w7 fb 52 F := h.fr.kept hg (fun e => by have := (hov.lt fb e.symm).1; omega)
 refine ⟨?_, hk7.set (by rw [h.fl]; exact hj) _, h.lt, by rw [List.length_set]; exact h.fl, fun i hi => ?_, fun i i' u u' hne hu hu' g e1 e2 => ?_⟩
 ·have e1 : Ex2 fb fb w0 w7 := ⟨hg.os.trans h.ex.os, hg.tape.trans h.ex.tape, hg.output.trans h.ex.output, Nat.le_trans h.ex.size hg.size, fun b hb h1 h2 => (hg.block b (Nat.lt_of_lt_of_le hb hsz) (fun e => by have := (hov.lt b e.symm).1; omega)).trans (h.ex.blk b hb h1 h2)⟩
  exact e1.trans (.grown1 hs)
 ·by_cases hij : i = j
  ·subst hij
   refine ⟨.slice A (l + 1) c, by rw [List.getElem?_set_self (by rw [h.fl]; exact hi)], ?_⟩
   rw [outL_take hx, if_pos hf, List.length_append, List.length_singleton, hl, List.flatMap_append]
   have := ho.kept hs (.inr (fun e => by have := (ho.lt fb e).1; omega))
   simpa using this
  ·obtain ⟨u, hu, hou⟩ := h.row i hi
   refine ⟨u, by rw [List.getElem?_set_ne (Ne.symm hij)]; exact hu, ?_⟩
   rw [outL_take hx, if_neg (by rw [hf]; omega), List.append_nil]
   have h1 := own_far hou hg (fun g e1 e2 => h.apt i j u v hij hu hv g e1 e2)
   exact h1.kept hs (.inr (fun e => by have := (h1.lt fb e).1; omega))
 ·have old : ∀ {i : Nat} {u : Value} {g : Nat}, F[i]? = some u → u.ownBlock = some g → g < w.heap.size := fun {i u g} hu hg => by
   have hi : i < n := by rw [← h.fl]; exact (List.getElem?_eq_some_iff.1 hu).1
   obtain ⟨u2, hu2, hou⟩ := h.row i hi
   obtain rfl : u = u2 := by rw [hu] at hu2; injection hu2
   exact (hou.lt g hg).2
  have hjl : j < F.length := by rw [h.fl]; exact hj
  by_cases hij : i = j
  ·subst hij
   rw [List.getElem?_set_self hjl] at hu
   injection hu with hu
   subst hu
   rw [List.getElem?_set_ne hne] at hu'
   rcases hn with hn | ⟨g2, hn, hle⟩
   ·rw [hn] at e1; exact h.apt i i' v u' hne hv hu' g e1 e2
   ·rw [hn] at e1; injection e1 with e1
    have := old hu' e2
    omega
  ·rw [List.getElem?_set_ne (Ne.symm hij)] at hu
   by_cases hij' : i' = j
   ·subst hij'
    rw [List.getElem?_set_self hjl] at hu'
    injection hu' with hu'
    subst hu'
    rcases hn with hn | ⟨g2, hn, hle⟩
    ·rw [hn] at e2; exact h.apt i i' u v hne hu hv g e1 e2
    ·rw [hn] at e2; injection e2 with e2
     have := old hu e1
     omega
   ·rw [List.getElem?_set_ne (Ne.symm hij')] at hu'
    exact h.apt i i' u u' hne hu hu' g e1 e2
end Go.Proofs.Ytddhaidimadliaa

/- Walks: diagnosability.open. -/
namespace Go.Proofs.Ytddhaidimadliaa
open Go.RowKit Go

/-- what open returns where all is right -/
def RetOp (R : Bs TwS) (w : World) (e : Ending) (w' : World) : Prop := ∃ T : TwP, e = .returned (.tuple #[.pointer (some ⟨T.tb, 0, none⟩), .int .i64 0]) ∧ T.ok w' R ∧ T.rs w' (List.replicate T.n 0, List.replicate T.n 0) ∧ w.heap.size ≤ T.rb ∧ w.heap.size ≤ T.sb ∧ Below w.heap.size w w' ∧ T.n ≤ 4096 ∧ R.es.length ≤ 262144
theorem made_sls (n : Nat) : madeCells #[.slice none 0 0] n = (List.replicate n (.slice none 0 0)).toArray := by
 apply Array.ext'
 rw [toList_madeCells_one]
theorem mvr_info : (Try.prog.info? 52).map (fun i => (i.zero, i.size, i.bytes)) = some (some (.slice none 0 0), 1, 24) := by kernel_rfl
theorem clsE_stl {z : DV} {c : Int} (h : stlE z c = 0) : clsE z c = 0 := by
 unfold stlE at h
 by_cases h1 : clsE z c ≠ 0
 ·rw [if_pos h1] at h; exact absurd h h1
 ·exact Classical.not_not.1 h1
theorem RkQ.zero (n : Nat) : RkQ n (List.replicate n 0, List.replicate n 0) := by
 have hg : ∀ j, gI (List.replicate n 0) j = 0 := gI_rep n
 refine ⟨List.length_replicate, List.length_replicate, fun j _ _ => .inl (hg j), fun j _ _ => ?_, fun j _ _ h => ?_⟩
 ·show -1 ≤ gI (List.replicate n 0) j ∧ gI (List.replicate n 0) j ≤ _
  rw [hg]
  omega
 ·rw [show gI (List.replicate n 0, List.replicate n (0 : Int)).2 j = gI (List.replicate n 0) j from rfl, hg] at h
  cases h
theorem OpM.start {w : World} {fb n : Nat} {es : List Ed} (hk : Blk w fb 52 (List.replicate n (.slice none 0 0))) : OpM w w fb n 0 es (List.replicate n (.slice none 0 0)) :=
 ⟨.refl, hk, hk.lt, List.length_replicate, fun i hi => ⟨.slice none 0 0, by rw [List.getElem?_replicate, if_pos hi], World.ownsRow_nil _ _ _ _⟩, fun i j v u _ hv hu g e1 e2 => by
  rw [List.getElem?_replicate] at hv
  split at hv
  ·injection hv with hv; subst hv; simp [Value.ownBlock] at e1
  ·cases hv⟩
/-- the blocks of an opened twin plant, its rows of moves still empty -/
structure OpB (w3 w : World) (tb fb rb sb n m : Nat) (A1 A2 : Option Addr) (c1 c2 : Nat) : Prop where
 blk : Blk w tb 151 [.slice A1 n c1, .slice A2 m c2, .slice (some ⟨fb, 0, none⟩) n n, .slice (some ⟨rb, 0, none⟩) n n, .slice (some ⟨sb, 0, none⟩) n n]
 fr : Blk w fb 52 (List.replicate n (.slice none 0 0))
 rk : Blk w rb 3 (iv (List.replicate n 0))
 st : Blk w sb 3 (iv (List.replicate n 0))
 g : w3.heap.size ≤ tb ∧ w3.heap.size ≤ fb ∧ w3.heap.size ≤ rb ∧ w3.heap.size ≤ sb
 n1 : tb ≠ fb ∧ tb ≠ rb ∧ tb ≠ sb
 n2 : fb ≠ rb ∧ fb ≠ sb
 n3 : rb ≠ sb
 bel : Below w3.heap.size w3 w
theorem OpB.below {w3 w w' : World} {tb fb rb sb n m : Nat} {A1 A2 : Option Addr} {c1 c2 : Nat} (h : OpB w3 w tb fb rb sb n m A1 A2 c1 c2) (hb : Below w.heap.size w w') : OpB w3 w' tb fb rb sb n m A1 A2 c1 c2 :=
 ⟨h.blk.below hb h.blk.lt, h.fr.below hb h.fr.lt, h.rk.below hb h.rk.lt, h.st.below hb h.st.lt, h.g, h.n1, h.n2, h.n3, h.bel.trans (hb.mono h.bel.size)⟩
theorem OpB.made {w3 wd W : World} {fb rb sb n m : Nat} {A1 A2 : Option Addr} {c1 c2 : Nat} (hd : Below w3.heap.size w3 wd) (h : Mk3 wd W 52 3 3 (List.replicate n (.slice none 0 0)) (iv (List.replicate n 0)) (iv (List.replicate n 0)) true true true fb rb sb) :
  OpB w3 (W.alloc (.cells #[.slice A1 n c1, .slice A2 m c2, .slice (some ⟨fb, 0, none⟩) n n, .slice (some ⟨rb, 0, none⟩) n n, .slice (some ⟨sb, 0, none⟩) n n] 151)) W.heap.size fb rb sb n m A1 A2 c1 c2 := by
 have m1 := h.m1 rfl
 have m2 := h.m2 rfl
 have m3 := h.m3 rfl
 have s1 := hd.size
 have s2 := h.bel.size
 have l1 := m1.1.lt
 have l2 := m2.1.lt
 have l3 := m3.1.lt
 refine ⟨Blk.new _ _ [_, _, _, _, _], m1.1.al _, m2.1.al _, m3.1.al _, by omega, by omega, ⟨h.n12 rfl rfl, h.n13 rfl rfl⟩, h.n23 rfl rfl, ?_⟩
 exact (hd.trans (h.bel.mono s1)).trans ((box_below W _).mono (by omega))
theorem OpM.mid {w0 w w7 : World} {fb n k j : Nat} {es : List Ed} {F : List Value} {v : Value} (h : OpM w0 w fb n k es F) (hj : j < n) (hv : F[j]? = some v) (hg : w.grownBy w7 v.ownBlock) (hsz : w0.heap.size ≤ w.heap.size) : Ex2 fb fb w0 w7 ∧ Blk w7 fb 52 F := by
 obtain ⟨v', e', hov⟩ := h.row j hj
 obtain rfl : v = v' := by rw [hv] at e'; injection e'
 have hlt := h.lt
 exact ⟨⟨hg.os.trans h.ex.os, hg.tape.trans h.ex.tape, hg.output.trans h.ex.output, Nat.le_trans h.ex.size hg.size, fun b hb h1 h2 => (hg.block b (Nat.lt_of_lt_of_le hb hsz) (fun e => by have := (hov.lt b e.symm).1; omega)).trans (h.ex.blk b hb h1 h2)⟩, h.fr.kept hg (fun e => by have := (hov.lt fb e.symm).1; omega)⟩
theorem OpB.done {w3 w0 w : World} {tb fb rb sb n m : Nat} {A1 A2 : Option Addr} {c1 c2 : Nat} {F : List Value} {R : Bs TwS} (h : OpB w3 w0 tb fb rb sb n m A1 A2 c1 c2) (hn : R.ts.length = n) (hm : R.es.length = m) (h1 : RdR 3 prC w3 w3.heap.size A1 R.ts) (h2 : RdR 4 mvc w3 w3.heap.size A2 R.es)
  (a1 : ∀ ad, A1 = some ad → ad.block < w3.heap.size) (a2 : ∀ ad, A2 = some ad → ad.block < w3.heap.size) (ho : OpM w0 w fb n R.es.length R.es F) :
  TwP.ok w ⟨tb, fb, rb, sb, n, m, A1, c1, A2, c2, F⟩ R ∧ TwP.rs w ⟨tb, fb, rb, sb, n, m, A1, c1, A2, c2, F⟩ (List.replicate n 0, List.replicate n 0) ∧ Below w3.heap.size w3 w := by
 obtain ⟨g1, g2, g3, g4⟩ := h.g
 have hlt := h.blk.lt
 have hl2 := h.rk.lt
 have hl3 := h.st.lt
 have hbel : Below w3.heap.size w3 w := ho.ex.toBelow h.bel h.bel.size g2 g2
 refine ⟨⟨h.blk.ex2 ho.ex h.n1.1 h.n1.1, hn, hm, ⟨(h1.below hbel).more hbel.size, fun ad e => by have := a1 ad e; dsimp only; omega⟩, ⟨(h2.below hbel).more hbel.size, fun ad e => by have := a2 ad e; dsimp only; omega⟩, ho.fr, fun i hi => ?_, h.n1.2, ⟨h.n2.1, h.n2.2⟩, h.n3⟩, ⟨h.rk.ex2 ho.ex h.n2.1.symm h.n2.1.symm, h.st.ex2 ho.ex h.n2.2.symm h.n2.2.symm, RkQ.zero n⟩, hbel⟩
 obtain ⟨v, hv, hov⟩ := ho.row i hi
 rw [List.take_of_length_le (Nat.le_refl _)] at hov
 obtain ⟨A, l, c, rfl⟩ : ∃ A l c, v = .slice A l c := by
  obtain ⟨A, c, e⟩ := own_shape hov
  exact ⟨A, _, c, e⟩
 obtain rfl : l = (outL R.es (i : Int)).length := by
  obtain ⟨A', c', e⟩ := own_shape hov
  injection e
 refine ⟨A, c, hv, RdR.of_own (by omega) (fun _ _ => rfl) hov, fun ad e => ?_⟩
 subst e
 have := (hov.lt ad.block rfl).1
 dsimp only
 omega
set_option maxRecDepth 100000 in
set_option maxHeartbeats 6400000 in
theorem dm_open_err (z : DV) (c r : Int) (w : World) (h : z.ok w w.heap.size) (hr : stlE z c = r) (h0 : r ≠ 0) :
  Calls Try.prog 67 #[.agg (dvc z).toArray, .int .i64 c] w fun e w' => e = .returned (.tuple #[.pointer none, .int .i64 r]) ∧ Below w.heap.size w w' := by
 obtain ⟨⟨A, na, ca, M, nm, cm, E, ne, ce, a⟩, V, nv, cv, l⟩ := z
 have hb1 := box_below w (.cells #[.slice A na ca, .int .i64 a.st, .slice M nm cm, .slice E ne ce, .slice V nv cv] 37)
 obtain ⟨w1, hw1⟩ : ∃ w1, w1 = w.alloc (.cells #[.slice A na ca, .int .i64 a.st, .slice M nm cm, .slice E ne ce, .slice V nv cv] 37) := ⟨_, rfl⟩
 have kx : Blk w1 w.heap.size 37 [.slice A na ca, .int .i64 a.st, .slice M nm cm, .slice E ne ce, .slice V nv cv] := by rw [hw1]; exact Blk.new _ _ [_, _, _, _, _]
 rw [← hw1] at hb1
 have HC := Lib.hid (dm_settled _ c r w1 ((h.below hb1).more hb1.size) hr)
 unfold dvc at HC ⊢
 dsimp only at HC ⊢
 obtain ⟨sv, hsv⟩ : ∃ s, a.st = s := ⟨_, rfl⟩
 rw [hsv] at hw1 HC kx ⊢
 have a0 := kx.cell (j := 0) rfl
 have a1 := kx.cell (j := 1) rfl
 have a2 := kx.cell (j := 2) rfl
 have a3 := kx.cell (j := 3) rfl
 have a4 := kx.cell (j := 4) rfl
 have b0 : (r != 0) = true := by simpa using h0
 have HW1 := Lib.hid hw1; clear hw1
 have HB1 := Lib.hid hb1; clear hb1
 clear hsv hr h0 h kx
 go_enter Try.func67, Try.ntmps67
 go_wp2_with fail
 rw [← HW1.out]
 refine HC.out.mono ?_
 rintro e w2 ⟨rfl, hb2⟩
 have HB2 := Lib.hid (HB1.out.trans (hb2.mono HB1.out.size))
 clear a0 a1 a2 a3 a4 HC hb2
 go_wp2
 refine bodyPost_ret (v := .tuple #[.pointer none, .int .i64 r]) (by simp [results, Try.results67, go_sem]) rfl ?_
 exact ⟨rfl, HB2.out⟩
set_option maxRecDepth 100000 in
set_option maxHeartbeats 6400000 in
theorem dm_open_ok (z : DV) (c : Int) (w : World) (h : z.ok w w.heap.size) (hc : stlE z c = 0) (hs : z.x.a.st ≤ 40) (R : Bs TwS) (hR : twin z.m c = some R) (hed : EdR R.ts.length R.es) :
  Calls Try.prog 67 #[.agg (dvc z).toArray, .int .i64 c] w (RetOp R w) := by
 have HTW := Lib.hid (fun (W : World) (hz : z.ok W W.heap.size) => dm_Twin z c W hz (clsE_stl hc) hs R hR)
 obtain ⟨⟨A, na, ca, M, nm, cm, E, ne, ce, a⟩, V, nv, cv, l⟩ := z
 have hb1 := box_below w (.cells #[.slice A na ca, .int .i64 a.st, .slice M nm cm, .slice E ne ce, .slice V nv cv] 37)
 obtain ⟨w1, hw1⟩ : ∃ w1, w1 = w.alloc (.cells #[.slice A na ca, .int .i64 a.st, .slice M nm cm, .slice E ne ce, .slice V nv cv] 37) := ⟨_, rfl⟩
 have kx : Blk w1 w.heap.size 37 [.slice A na ca, .int .i64 a.st, .slice M nm cm, .slice E ne ce, .slice V nv cv] := by rw [hw1]; exact Blk.new _ _ [_, _, _, _, _]
 rw [← hw1] at hb1
 have hok1 := (h.below hb1).more hb1.size
 have HC := Lib.hid (dm_settled _ c 0 w1 hok1 hc)
 unfold dvc at HC HTW ⊢
 dsimp only at HC HTW ⊢
 have HOK := Lib.hid hok1
 obtain ⟨sv, hsv⟩ : ∃ s, a.st = s := ⟨_, rfl⟩
 rw [hsv] at hw1 HC HTW kx ⊢
 have a0 := kx.cell (j := 0) rfl
 have a1 := kx.cell (j := 1) rfl
 have a2 := kx.cell (j := 2) rfl
 have a3 := kx.cell (j := 3) rfl
 have a4 := kx.cell (j := 4) rfl
 have HW1 := Lib.hid hw1; clear hw1
 have HB1 := Lib.hid hb1; clear hb1
 have HKX := Lib.hid kx; clear kx
 have HED := Lib.hid hed; clear hed
 clear hsv hc h hs hR hok1
 go_enter Try.func67, Try.ntmps67
 go_wp2_with fail
 rw [← HW1.out]
 refine HC.out.mono ?_
 rintro e w2 ⟨rfl, hb2⟩
 have HB2 := Lib.hid (HB1.out.trans (hb2.mono HB1.out.size))
 have k2 := HKX.out.below hb2 HKX.out.lt
 have HCT := Lib.hid (HTW.out w2 ((HOK.out.below hb2).more hb2.size))
 clear a0 a1 a2 a3 a4 HC hb2
 have a0 := k2.cell (j := 0) rfl
 have a1 := k2.cell (j := 1) rfl
 have a2 := k2.cell (j := 2) rfl
 have a3 := k2.cell (j := 3) rfl
 have a4 := k2.cell (j := 4) rfl
 go_wp2_with fail
 refine HCT.out.mono ?_
 rintro e w3 ⟨A1, A2, n, c1, m, c2, rfl, hn, hm, hn4, hm4, ho1, ho2, hb3⟩
 have HB3 := Lib.hid (HB2.out.trans (hb3.mono HB2.out.size))
 have hr1 : RdR 3 prC w3 w3.heap.size A1 R.ts := RdR.of_own (by omega) (fun _ _ => rfl) ho1
 have hr2 : RdR 4 mvc w3 w3.heap.size A2 R.es := RdR.of_own (by omega) (fun _ _ => rfl) ho2
 have HA1 := Lib.hid (show ∀ ad, A1 = some ad → ad.block < w3.heap.size from fun ad e => by subst e; exact (ho1.lt ad.block rfl).2)
 have HA2 := Lib.hid (show ∀ ad, A2 = some ad → ad.block < w3.heap.size from fun ad e => by subst e; exact (ho2.lt ad.block rfl).2)
 have HR1 := Lib.hid hr1
 have HR2 := Lib.hid hr2
 have HN := Lib.hid hn
 have HM := Lib.hid hm
 rw [hn] at HED
 clear a0 a1 a2 a3 a4 hb3 ho1 ho2 hr1 hr2 HCT HTW k2 hn hm
 go_upto_region 7 with fail
 have hm1 : ∀ W : World, (Instr.makeSlice 31 (.int .i64 (n : Int)) (.int .i64 (n : Int))).run Try.prog W = .ok (.slice (some ⟨W.heap.size, 0, none⟩) n n) (W.alloc (.cells (madeCells #[.int .i64 0] n) 3)) := fun W => run_make_row' 31 3 (.int .i64 0) 8 Try.underlying31 int_info rfl .i64 .i64 n (by omega) (by omega) W
 have hm2 : ∀ W : World, (Instr.makeSlice 149 (.int .i64 (n : Int)) (.int .i64 (n : Int))).run Try.prog W = .ok (.slice (some ⟨W.heap.size, 0, none⟩) n n) (W.alloc (.cells (madeCells #[.slice none 0 0] n) 52)) := fun W => run_make_row' 149 52 (.slice none 0 0) 24 Try.underlying149 mvr_info rfl .i64 .i64 n (by omega) (by omega) W
 rw [made_ints] at hm1
 rw [made_sls] at hm2
 go_cut [10] from 29 to 41 (fun s10 wx => ∃ (tb fb rb sb : Nat), s10 = .pointer (some ⟨tb, 0, none⟩) ∧ Hid (OpB w3 wx tb fb rb sb n m A1 A2 c1 c2))
 case first =>
  refine wp_region_U (fun _ => True) (fun _ => True) 12 (by kernel_rfl) ?_
  change anyU _ _ _ _ _ _ _ 14 _ _ _
  have hA0 : True := trivial
  have hB0 : True := trivial
  have HBD := Lib.hid (below_dr w3)
  generalize w3.drew = wd at HBD ⊢
  (refine uA 0 ?_ rfl hA0 hB0 (fun W hA => ?_) ?_; rotate_left; (· (go_simp; try with_reducible rfl)); refine uA 1 ?_ rfl hA0 hB0 (fun W hA => ?_) ?_; rotate_left; (· (go_simp; try with_reducible rfl)); refine uA 2 ?_ rfl hA0 hB0 (fun W hA => ?_) ?_; rotate_left; (· (go_simp; try with_reducible rfl)); refine uA 3 ?_ rfl hA0 hB0 (fun W hA => ?_) ?_; rotate_left; (· (go_simp; try with_reducible rfl)); refine uA 5 ?_ rfl hA0 hB0 (fun W hA => ?_) ?_; rotate_left; (· (go_simp; try with_reducible rfl)); refine uA 6 ?_ rfl hA0 hB0 (fun W hA => ?_) ?_; rotate_left; (· (go_simp; try with_reducible rfl)); refine uA 8 ?_ rfl hA0 hB0 (fun W hA => ?_) ?_; rotate_left; (· (go_simp; try with_reducible rfl)); refine uA 9 ?_ rfl hA0 hB0 (fun W hA => ?_) ?_; rotate_left; (· (go_simp; try with_reducible rfl)); (try simp only [Act.put, List.setIfInBounds_toArray, List.set_cons_zero, List.set_cons_succ]))
  refine anyU_makes (f0 := 3) 33 36 39 _ _ _ n 52 3 3 (List.replicate n (.slice none 0 0)) (iv (List.replicate n 0)) (iv (List.replicate n 0)) 4 7 10 rfl rfl rfl (fun _ _ => trivial) (fun _ => trivial) ?_ ?_ ?_ ?_
  ·intro V1 V2 V3 W K hK
   have hw2 := hm2 W
   simp only [put3g, List.setIfInBounds_toArray, List.set_cons_succ, List.set_cons_zero] at hK ⊢
   go_simp
   exact hK
  ·intro V1 V2 V3 W K hK
   have hw1 := hm1 W
   simp only [put3g, List.setIfInBounds_toArray, List.set_cons_succ, List.set_cons_zero] at hK ⊢
   go_simp
   exact hK
  ·intro V1 V2 V3 W K hK
   have hw1 := hm1 W
   simp only [put3g, List.setIfInBounds_toArray, List.set_cons_succ, List.set_cons_zero] at hK ⊢
   go_simp
   exact hK
  ·intro fb rb sb W hmk _
   simp only [put3g, List.setIfInBounds_toArray, List.set_cons_succ, List.set_cons_zero]
   (refine uA 11 ?_ rfl hA0 hB0 (fun W hA => ?_) ?_; rotate_left; (· (go_simp; try with_reducible rfl)); (try simp only [Act.put, List.setIfInBounds_toArray, List.set_cons_zero, List.set_cons_succ]))
   refine uOne (i := 12) rfl (by kernel_rfl) (fun K hK => ?_)
   go_simp
   (refine hK _ _ ⟨hA0, fun _ => hB0⟩ ?_; clear hK K; (try simp only [Act.put, List.setIfInBounds_toArray, List.set_cons_zero, List.set_cons_succ]))
   have HOB := Lib.hid (OpB.made (m := m) (A1 := A1) (A2 := A2) (c1 := c1) (c2 := c2) HBD.out hmk)
   clear hmk
   generalize W.alloc (.cells #[.slice A1 n c1, .slice A2 m c2, .slice (some ⟨fb, 0, none⟩) n n, .slice (some ⟨rb, 0, none⟩) n n, .slice (some ⟨sb, 0, none⟩) n n] 151) = w5 at HOB ⊢
   generalize W.heap.size = tb at HOB ⊢
   (refine uA 13 ?_ rfl hA0 hB0 (fun W hA => ?_) ?_; rotate_left; (· (go_simp; try with_reducible rfl)); (try simp only [Act.put, List.setIfInBounds_toArray, List.set_cons_zero, List.set_cons_succ]))
   refine anyU_done (by kernel_rfl) ?_ _
   go_wp2_with fail
   go_meet
   case rel => exact ⟨tb, fb, rb, sb, rfl, HOB⟩
 case rest =>
  obtain ⟨tb, fb, rb, sb, rfl, HOB⟩ := hcut
  clear hm1 hm2
  obtain ⟨w5, hw5⟩ : ∃ w : World, w = wc := ⟨_, rfl⟩
  rw [← hw5] at HOB ⊢
  clear hw5
  have HOM := Lib.hid (OpM.start (n := n) (es := R.es) HOB.out.fr)
  go_wp2
  go_loopw [12, 44] (fun s12 s44 wr => ∃ (k : Nat) (v12 : Value) (F : List Value), s44 = .int .i64 k ∧ s12 = v12 ∧ k ≤ m ∧ Hid (OpM w5 wr fb n k R.es F)) (fun _ s44 _ => m - (intOf s44).toNat)
  case atStart => exact ⟨0, _, _, rfl, rfl, Nat.zero_le _, HOM⟩
  case round =>
   clear HOM
   obtain ⟨k, v12, F, rfl, rfl, hk, HO⟩ := hrel
   by_cases hlt : k < m
   ·obtain ⟨x, hx⟩ : ∃ x, R.es[k]? = some x := ⟨_, List.getElem?_eq_getElem (by rw [HM.out]; exact hlt)⟩
    have hxr := (HED.out x (List.mem_of_getElem? hx)).1
    obtain ⟨j, hj⟩ : ∃ j : Nat, x.f = (j : Int) := ⟨x.f.toNat, by omega⟩
    have hjn : j < n := by omega
    have hbr : Below w3.heap.size w3 wr := HO.out.ex.toBelow HOB.out.bel HOB.out.bel.size HOB.out.g.2.1 HOB.out.g.2.1
    obtain ⟨ad, x', hA, hab, hx', hcx⟩ := (HR2.out.below hbr).get (k := k) (by rw [HM.out]; exact hlt)
    obtain rfl : x' = x := by rw [hx] at hx'; injection hx' with e; exact e.symm
    subst hA
    obtain ⟨v, hv, hov⟩ := HO.out.row j hjn
    obtain ⟨l, hl⟩ : ∃ l, (outL (R.es.take k) (j : Int)).length = l := ⟨_, rfl⟩
    rw [hl] at hov
    obtain ⟨RA, rc, rfl⟩ := own_shape hov
    obtain ⟨x, hxx⟩ : ∃ x, x = x' := ⟨_, rfl⟩
    subst hxx
    have HX := Lib.hid hx
    have HXF := Lib.hid hj
    have HV := Lib.hid hv
    have HL := Lib.hid hl
    have hlm : l ≤ 262144 := by
     have h1 := List.length_filter_le (fun y : Ed => decide (y.f = (j : Int))) (R.es.take k)
     have h2 : (outL (R.es.take k) (j : Int)).length = ((R.es.take k).filter fun y => decide (y.f = (j : Int))).length := rfl
     rw [List.length_take] at h1
     omega
    obtain ⟨ev, hev⟩ : ∃ q, x.e / 3 = q := ⟨_, rfl⟩
    obtain ⟨sd, hsd⟩ : ∃ q, x.e % 3 = q := ⟨_, rfl⟩
    obtain ⟨xt, hxt⟩ : ∃ q, x.t = q := ⟨_, rfl⟩
    have HMV := Lib.hid (show mvc x = [.int .i64 (j : Int), .int .i64 ev, .int .i64 sd, .int .i64 xt] by unfold mvc; rw [hj, hev, hsd, hxt])
    have q0 : wr.cell? (ad.add (k * 4)) = some (.int .i64 (j : Int)) := by rw [← hj]; exact hcx 0 _ rfl
    have q1 : wr.cell? ⟨(ad.add (k * 4)).block, (ad.add (k * 4)).off + 1, none⟩ = some (.int .i64 ev) := by rw [← hev]; exact ev_cells (j := 0) (hcx 1 _ rfl)
    have q2 : wr.cell? ⟨(ad.add (k * 4)).block, (ad.add (k * 4)).off + 2, none⟩ = some (.int .i64 sd) := by rw [← hsd]; exact ev_cells (j := 1) (hcx 2 _ rfl)
    have q3 : wr.cell? ⟨(ad.add (k * 4)).block, (ad.add (k * 4)).off + 3, none⟩ = some (.int .i64 xt) := by rw [← hxt]; exact ev_cells (j := 2) (hcx 3 _ rfl)
    have b2 : (k : Int) < (m : Int) := by omega
    have b3 : (j : Int) < (n : Int) := by omega
    have hbx := box_below wr (.cells #[.int .i64 (j : Int), .int .i64 ev, .int .i64 sd, .int .i64 xt] 62)
    have kb : Blk (wr.alloc (.cells #[.int .i64 (j : Int), .int .i64 ev, .int .i64 sd, .int .i64 xt] 62)) wr.heap.size 62 [.int .i64 (j : Int), .int .i64 ev, .int .i64 sd, .int .i64 xt] := Blk.new _ _ [_, _, _, _]
    have HOX := Lib.hid (HO.out.quiet hbx)
    have HOVX := Lib.hid (own_below hov hbx)
    have hnb : ∀ g, (Value.slice RA l rc).ownBlock = some g → g < wr.heap.size := fun g hg => (hov.lt g hg).2
    have hfx : fb < wr.heap.size := HO.out.fr.lt
    clear hx hx' hcx hbx hxr hj hev hsd hxt hab hv hl hbr hov HO
    go_upto_region 11 with fail
    obtain ⟨bx, hbe⟩ : ∃ b, wr.heap.size = b := ⟨_, rfl⟩
    rw [hbe] at kb hnb hfx ⊢
    generalize wr.alloc (.cells #[.int .i64 (j : Int), .int .i64 ev, .int .i64 sd, .int .i64 xt] 62) = we at HOX HOVX kb ⊢
    have HNB := Lib.hid hnb
    clear hbe q0 q1 q2 q3 hnb
    refine wp_region_U (fun W => W.cell? ⟨tb, 2, none⟩ = some (.slice (some ⟨fb, 0, none⟩) n n) ∧ W.cell? ⟨bx, 0, none⟩ = some (.int .i64 (j : Int)) ∧ W.cell? ⟨bx, 1, none⟩ = some (.int .i64 ev) ∧ W.cell? ⟨bx, 2, none⟩ = some (.int .i64 sd) ∧ W.cell? ⟨bx, 3, none⟩ = some (.int .i64 xt)) (fun W => W.cell? ⟨fb, j, none⟩ = some (.slice RA l rc)) 18 (by kernel_rfl) ?_
    change anyU _ _ _ _ _ _ _ 19 _ _ _
    have HOY := Lib.hid (HOX.out.quiet (below_dr we))
    have HOVY := Lib.hid (own_below HOVX.out (below_dr we))
    have HKB := Lib.hid (kb.below (below_dr we) kb.lt)
    generalize we.drew = wd at HOY HOVY HKB ⊢
    have HAW := Lib.hid (fun (W : World) (h1 : Ex2 fb fb w5 W) (h2 : Blk W bx 62 [.int .i64 (j : Int), .int .i64 ev, .int .i64 sd, .int .i64 xt]) => show W.cell? ⟨tb, 2, none⟩ = some (.slice (some ⟨fb, 0, none⟩) n n) ∧ W.cell? ⟨bx, 0, none⟩ = some (.int .i64 (j : Int)) ∧ W.cell? ⟨bx, 1, none⟩ = some (.int .i64 ev) ∧ W.cell? ⟨bx, 2, none⟩ = some (.int .i64 sd) ∧ W.cell? ⟨bx, 3, none⟩ = some (.int .i64 xt) from
     ⟨(HOB.out.blk.ex2 h1 HOB.out.n1.1 HOB.out.n1.1).cell (j := 2) rfl, h2.cell (j := 0) rfl, h2.cell (j := 1) rfl, h2.cell (j := 2) rfl, h2.cell (j := 3) rfl⟩)
    have hA0 := HAW.out wd HOY.out.ex HKB.out
    have hB0 : wd.cell? ⟨fb, j, none⟩ = some (.slice RA l rc) := HOY.out.fr.cell HV.out
    clear kb
    (refine uA 0 ?_ rfl hA0 hB0 (fun W hA => ?_) ?_; rotate_left; (· (go_simp; try with_reducible rfl)); refine uA 1 ?_ rfl hA0 hB0 (fun W hA => ?_) ?_; rotate_left; (· (go_simp; try with_reducible rfl)); refine uA 2 ?_ rfl hA0 hB0 (fun W hA => ?_) ?_; rotate_left; (· (go_simp; try with_reducible rfl)); (try simp only [Act.put, List.setIfInBounds_toArray, List.set_cons_zero, List.set_cons_succ]))
    (refine uA 3 ?_ rfl hA0 hB0 (fun W hA => ?_) ?_; rotate_left; (· (obtain ⟨h0, h1, h2, h3, h4⟩ := hA; go_simp; try with_reducible rfl)); (try simp only [Act.put, List.setIfInBounds_toArray, List.set_cons_zero, List.set_cons_succ]))
    (refine uA 4 ?_ rfl hA0 hB0 (fun W hA => ?_) ?_; rotate_left; (· (go_simp; try with_reducible rfl)); (try simp only [Act.put, List.setIfInBounds_toArray, List.set_cons_zero, List.set_cons_succ]))
    (refine uA 5 ?_ rfl hA0 hB0 (fun W hA => ?_) ?_; rotate_left; (· (obtain ⟨h0, h1, h2, h3, h4⟩ := hA; go_simp; try with_reducible rfl)); (try simp only [Act.put, List.setIfInBounds_toArray, List.set_cons_zero, List.set_cons_succ]))
    (refine uA 6 ?_ rfl hA0 hB0 (fun W hA => ?_) ?_; rotate_left; (· (go_simp; try with_reducible rfl)); refine uA 7 ?_ rfl hA0 hB0 (fun W hA => ?_) ?_; rotate_left; (· (go_simp; try with_reducible rfl)); refine uA 8 ?_ rfl hA0 hB0 (fun W hA => ?_) ?_; rotate_left; (· (go_simp; try with_reducible rfl)); (try simp only [Act.put, List.setIfInBounds_toArray, List.set_cons_zero, List.set_cons_succ]))
    (refine uA 9 ?_ rfl hA0 hB0 (fun W hA => ?_) ?_; rotate_left; (· (obtain ⟨h0, h1, h2, h3, h4⟩ := hA; go_simp; try with_reducible rfl)); (try simp only [Act.put, List.setIfInBounds_toArray, List.set_cons_zero, List.set_cons_succ]))
    (refine uA 10 ?_ rfl hA0 hB0 (fun W hA => ?_) ?_; rotate_left; (· (go_simp; try with_reducible rfl)); (try simp only [Act.put, List.setIfInBounds_toArray, List.set_cons_zero, List.set_cons_succ]))
    (refine uA 11 ?_ rfl hA0 hB0 (fun W hA => ?_) ?_; rotate_left; (· (obtain ⟨h0, h1, h2, h3, h4⟩ := hA; go_simp; try with_reducible rfl)); (try simp only [Act.put, List.setIfInBounds_toArray, List.set_cons_zero, List.set_cons_succ]))
    (refine uA 12 ?_ rfl hA0 hB0 (fun W hA => ?_) ?_; rotate_left; (· (go_simp; try with_reducible rfl)); (try simp only [Act.put, List.setIfInBounds_toArray, List.set_cons_zero, List.set_cons_succ]))
    (refine uB 13 ?_ rfl hA0 hB0 (fun W hA hB => ?_) ?_; rotate_left; (· (go_simp; try with_reducible rfl)); (try simp only [Act.put, List.setIfInBounds_toArray, List.set_cons_zero, List.set_cons_succ]))
    (refine uA 14 ?_ rfl hA0 hB0 (fun W hA => ?_) ?_; rotate_left; (· (obtain ⟨h0, h1, h2, h3, h4⟩ := hA; go_simp; try with_reducible rfl)); (try simp only [Act.put, List.setIfInBounds_toArray, List.set_cons_zero, List.set_cons_succ]))
    refine uOne (i := 15) rfl (by kernel_rfl) (fun K hK => ?_)
    go_simp
    have hbx := box_below wd (.cells #[.int .i64 (j : Int), .int .i64 ev, .int .i64 sd, .int .i64 xt] 62)
    have hkx : Blk (wd.alloc (.cells #[.int .i64 (j : Int), .int .i64 ev, .int .i64 sd, .int .i64 xt] 62)) wd.heap.size 62 [.int .i64 (j : Int), .int .i64 ev, .int .i64 sd, .int .i64 xt] := Blk.new _ _ [_, _, _, _]
    have HO6 := Lib.hid (HOY.out.quiet hbx)
    have HOV6 := Lib.hid (own_below HOVY.out hbx)
    have HK6 := Lib.hid (HKB.out.below hbx HKB.out.lt)
    clear hA0 hB0
    have hA0 := HAW.out _ HO6.out.ex HK6.out
    have hB0 : (wd.alloc (.cells #[.int .i64 (j : Int), .int .i64 ev, .int .i64 sd, .int .i64 xt] 62)).cell? ⟨fb, j, none⟩ = some (.slice RA l rc) := HO6.out.fr.cell HV.out
    (refine hK _ _ ⟨hA0, fun _ => hB0⟩ ?_; clear hK K; (try simp only [Act.put, List.setIfInBounds_toArray, List.set_cons_zero, List.set_cons_succ]))
    generalize wd.alloc (.cells #[.int .i64 (j : Int), .int .i64 ev, .int .i64 sd, .int .i64 xt] 62) = w6 at hkx HO6 HOV6 HK6 hA0 hB0 ⊢
    clear hbx
    refine uOne (i := 16) rfl (by kernel_rfl) (fun K hK => ?_)
    refine step_pushW rfl (.tmp 61) (.tmp 63) 52 rfl w5.heap.size 62 (.agg #[.int .i64 0, .int .i64 0, .int .i64 0, .int .i64 0]) 4 32 Try.underlying52 mov_info rfl (by decide) rfl _ [.int .i64 (j : Int), .int .i64 ev, .int .i64 sd, .int .i64 xt] rfl HOV6.out HO6.out.ex.size hkx rfl (mov_one _ _ _ _) (by omega) (by omega) ?_
    intro A7 c7 w7 ho7 hg7 hl7
    obtain ⟨he7, hk7⟩ := HO6.out.mid hjn HV.out hg7 HO6.out.ex.size
    have HK7 := Lib.hid (HK6.out.kept hg7 (fun e => by have := HNB.out bx e.symm; omega))
    have HO7 := Lib.hid (HO6.out.step HX.out hjn HXF.out HV.out HL.out (by rw [HMV.out]; exact ho7) hg7 HO6.out.ex.size hl7)
    clear hA0 hB0 ho7 hg7 hl7 hkx
    have hA0 := HAW.out w7 he7 HK7.out
    have hB0 : w7.cell? ⟨fb, j, none⟩ = some (.slice RA l rc) := hk7.cell HV.out
    (refine hK _ _ ⟨hA0, fun _ => hB0⟩ ?_; clear hK K; (try simp only [Act.put, List.setIfInBounds_toArray, List.set_cons_zero, List.set_cons_succ]))
    (refine uA 17 ?_ rfl hA0 hB0 (fun W hA => ?_) ?_; rotate_left; (· (go_simp; try with_reducible rfl)); (try simp only [Act.put, List.setIfInBounds_toArray, List.set_cons_zero, List.set_cons_succ]))
    refine uOne (i := 18) rfl (by kernel_rfl) (fun K hK => ?_)
    have f0 := hk7.free j
    have l0 := hk7.lt
    go_simp
    clear hA0 hB0
    have hA0 := HAW.out _ HO7.out.ex (HK7.out.kept (grown_setCell w7 fb j (.slice A7 (l + 1) c7)) (by intro e; injection e with e; omega))
    (refine hK _ _ ⟨hA0, fun h => absurd (h.symm.trans (by kernel_rfl : _ = true)) Bool.false_ne_true⟩ ?_; clear hK K; (try simp only [Act.put, List.setIfInBounds_toArray, List.set_cons_zero, List.set_cons_succ]))
    generalize w7.setCell ⟨fb, j, none⟩ (.slice A7 (l + 1) c7) = w8 at HO7 hA0 ⊢
    refine anyU_done (by kernel_rfl) ?_ _
    clear hA0 f0 l0 hk7 he7
    go_wp2
    go_roundw
    case rel => exact ⟨k + 1, _, _, by go_num, rfl, by omega, HO7⟩
    case measure => simp [intOf]; omega
   ·obtain rfl : k = m := by omega
    have b2 : ¬ (k : Int) < (k : Int) := by omega
    have hd := HOB.out.done HN.out HM.out HR1.out HR2.out HA1.out HA2.out (F := F) (by rw [HM.out]; exact HO.out)
    have HD := Lib.hid hd
    have hsz := HB3.out.size
    clear hd
    go_wp2
    refine bodyPost_ret (v := .tuple #[.pointer (some ⟨tb, 0, none⟩), .int .i64 0]) (by simp [results, Try.results67, go_sem]) rfl ?_
    exact ⟨_, rfl, HD.out.1, HD.out.2.1, Nat.le_trans hsz HOB.out.g.2.2.1, Nat.le_trans hsz HOB.out.g.2.2.2, HB3.out.trans (HD.out.2.2.mono hsz), hn4, by rw [HM.out]; exact hm4⟩
end Go.Proofs.Ytddhaidimadliaa
