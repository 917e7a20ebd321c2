/- Walks: Check, Refusals, Supremal, Infimal at a wrong problem. -/
import Derived.Test.YtcchnibgehonoaaDoorCi
import Derived.Test.YtcchnibgehonoaaDoorGa
namespace Go.Proofs.YtcchnibgehonoaaDoor
open Go.RowKit Go Go.Maps

end Go.Proofs.YtcchnibgehonoaaDoor

/- Walks: Refusals at a right problem. -/
namespace Go.Proofs.YtcchnibgehonoaaDoor
open Go.RowKit Go Go.Maps

/-- two rows of ints that grow apart from each other -/
structure TwoR (B : Nat) (w0 w : World) (v1 v2 : Value) (n1 n2 : Nat) (l1 l2 : List Int) : Prop where
 bel : Below B w0 w
 siz : B ≤ w.heap.size
 o1 : w.ownsRow B 3 1 v1 n1 (iv l1)
 o2 : w.ownsRow B 3 1 v2 n2 (iv l2)
 e1 : l1.length = n1
 e2 : l2.length = n2
 apt : ∀ g, v1.ownBlock = some g → v2.ownBlock ≠ some g
section
variable {B : Nat} {w0 w w' : World} {v1 v2 : Value} {n1 n2 : Nat} {l1 l2 : List Int}
theorem TwoR.quiet (h : TwoR B w0 w v1 v2 n1 n2 l1 l2) (hb : Below w.heap.size w w') : TwoR B w0 w' v1 v2 n1 n2 l1 l2 :=
 ⟨h.bel.trans (hb.mono h.siz), Nat.le_trans h.siz hb.size, own_below h.o1 hb, own_below h.o2 hb, h.e1, h.e2, h.apt⟩
theorem TwoR.push (h : TwoR B w0 w v1 v2 n1 n2 l1 l2) {A : Option Addr} {c : Nat} {i : Int} (ho : w'.ownsRow B 3 1 (.slice A (n1 + 1) c) (n1 + 1) (iv l1 ++ [.int .i64 i])) (hg : w.grownBy w' v1.ownBlock)
  (hl : (Value.slice A (n1 + 1) c).ownBlock = v1.ownBlock ∨ ∃ g, (Value.slice A (n1 + 1) c).ownBlock = some g ∧ w.heap.size ≤ g) : TwoR B w0 w' (.slice A (n1 + 1) c) v2 (n1 + 1) n2 (l1 ++ [i]) l2 := by
 refine ⟨h.bel.grown hg h.siz (fun j hj => (h.o1.lt j hj).1), Nat.le_trans h.siz hg.size, by rw [iv_append]; exact ho, own_far h.o2 hg (fun g e1 e2 => h.apt g e2 e1), by simp [h.e1], h.e2, fun g hg1 hg2 => ?_⟩
 rcases hl with hl | ⟨g', hl, hle⟩
 ·rw [hl] at hg1; exact h.apt g hg1 hg2
 ·rw [hl] at hg1; injection hg1 with hg1
  have := (h.o2.lt g hg2).2
  omega
theorem TwoR.start (w : World) : TwoR w.heap.size w w (.slice none 0 0) (.slice none 0 0) 0 0 [] [] :=
 ⟨Below.refl _ _, Nat.le_refl _, World.ownsRow_nil _ _ _ _, World.ownsRow_nil _ _ _ _, rfl, rfl, fun g hg => by simp [Value.ownBlock] at hg⟩
end
end Go.Proofs.YtcchnibgehonoaaDoor

/- Walks: the law's has, next. -/
namespace Go.Proofs.YtcchnibgehonoaaDoor
open Go.RowKit Go Go.Maps

theorem hasB_hitD {l : List Int} {k : Nat} {x y : Int} (h : l[k]? = some y) (he : y = x) : hasB (l.drop k) x = true := by
 rw [drop_cons' h]; subst he; simp [hasB]
theorem hasB_goD {l : List Int} {k : Nat} {x y : Int} (h : l[k]? = some y) (he : y ≠ x) : hasB (l.drop k) x = hasB (l.drop (k + 1)) x := by
 rw [drop_cons' h]; simp [hasB, Ne.symm he]
theorem hasB_endD {l : List Int} {k : Nat} {x : Int} (h : ¬ k < l.length) : hasB (l.drop k) x = false := by
 rw [List.drop_of_length_le (by omega)]; rfl
set_option maxRecDepth 100000 in
set_option maxHeartbeats 1600000 in
theorem law_next (A : Option Addr) (na ca : Nat) (M : Option Addr) (nm cm : Nat) (E : Option Addr) (ne ce : Nat) (a : Aut) (s v : Int) (w : World) (h : AutR w w.heap.size A na ca M nm cm E ne ce a) :
  Calls Tryd.prog 66 #[.agg #[.slice A na ca, .int .i64 a.st, .slice M nm cm, .slice E ne ce], .int .i64 s, .int .i64 v] w fun e w' => e = .returned (.int .i64 (nxt a s v)) ∧ Below w.heap.size w w' := by
 have hB0 := box_below w (.cells #[.slice A na ca, .int .i64 a.st, .slice M nm cm, .slice E ne ce] 25)
 have hE := (h.re.below hB0).more hB0.size
 have hle := h.le
 have hec := h.ec
 have hcE := h.cE
 obtain ⟨r, hr⟩ : ∃ r, nxt a s v = r := ⟨_, rfl⟩
 rw [hr]
 have HR := Lib.hid (show r = nxtE s v (a.ed.drop 0) from hr.symm)
 have HLE := Lib.hid hle; clear hle
 clear hr h
 go_enter Tryd.func66, Tryd.ntmps66
 go_wp2
 go_loop [7] (fun i => ∃ k : Nat, k ≤ ne ∧ i = .int .i64 k ∧ Hid (r = nxtE s v (a.ed.drop k))) (fun i => ne - (intOf i).toNat)
 case atStart => exact ⟨0, Nat.zero_le _, rfl, HR⟩
 case round =>
  obtain ⟨k, hk, rfl, HX⟩ := hrel
  clear HR
  by_cases hlt : k < ne
  ·obtain ⟨ad, x, rfl, hbb, hx, q0, q1, q2⟩ := hE.at_ (k := k) (by have := HLE.out; omega)
   have b1 : (k : Int) < (ne : Int) := by omega
   have p1 := st_cells (j := 0) q1
   have p2 := st_cells (j := 1) q2
   clear q1 q2
   simp only [Nat.zero_add, Nat.reduceAdd] at p1 p2
   have HGX := Lib.hid hx; clear hx
   by_cases c1 : x.f = s
   ·have d1 : (x.f == s) = true := by simpa using c1
    by_cases c2 : x.e = v
    ·have d2 : (x.e == v) = true := by simpa using c2
     have HB := Lib.hid (show r = x.t by rw [HX.out, nxtE_hit HGX.out c1 c2])
     clear c1 c2
     go_wp2
     go_ret
     exact ⟨ret_int HB.out.symm, hB0⟩
    ·have d2 : (x.e == v) = false := by simpa using c2
     have HB := Lib.hid (show r = nxtE s v (a.ed.drop (k + 1)) by rw [HX.out, nxtE_go HGX.out (fun e => c2 e.2)])
     clear c1 c2
     go_wp2
     go_round
     case rel => exact ⟨k + 1, by omega, by go_num, HB⟩
     case measure => simp [intOf]; omega
   ·have d1 : (x.f == s) = false := by simpa using c1
    have HB := Lib.hid (show r = nxtE s v (a.ed.drop (k + 1)) by rw [HX.out, nxtE_go HGX.out (fun e => c1 e.1)])
    clear c1
    go_wp2
    go_round
    case rel => exact ⟨k + 1, by omega, by go_num, HB⟩
    case measure => simp [intOf]; omega
  ·have hf : r = -1 := by rw [HX.out, nxtE_end (by have := HLE.out; omega)]
   have HF := Lib.hid hf; clear hf
   go_wp2
   go_ret
   exact ⟨ret_int HF.out.symm, hB0⟩
set_option maxRecDepth 100000 in
set_option maxHeartbeats 1600000 in
theorem law_has (A : Option Addr) (c n : Nat) (l : List Int) (x : Int) (r : Bool) (w : World) (hl : l.length = n) (h : RdI w w.heap.size A l) (hn : n ≤ 9223372036854775807) (hr : hasB l x = r) :
  Calls Tryd.prog 23 #[.slice A n c, .int .i64 x] w fun e w' => e = .returned (.bool r) ∧ w = w' := by
 have HR := Lib.hid (show r = hasB (l.drop 0) x from hr.symm)
 have HL := Lib.hid hl; clear hl
 clear hr
 go_enter Tryd.func23, Tryd.ntmps23
 go_wp2
 go_loop [5] (fun i => ∃ k : Nat, k ≤ n ∧ i = .int .i64 k ∧ Hid (r = hasB (l.drop k) x)) (fun i => n - (intOf i).toNat)
 case atStart => exact ⟨0, Nat.zero_le _, rfl, HR⟩
 case round =>
  obtain ⟨k, hk, rfl, HX⟩ := hrel
  clear HR
  by_cases hlt : k < n
  ·obtain ⟨ad, y, rfl, hbb, hy, q0⟩ := h.at_ (k := k) (by have := HL.out; omega)
   have b1 : (k : Int) < (n : Int) := by omega
   have HY := Lib.hid hy; clear hy
   by_cases c1 : y = x
   ·have d1 : (y == x) = true := by simpa using c1
    have HB := Lib.hid (show r = true by rw [HX.out, hasB_hitD HY.out c1])
    clear c1
    go_wp2
    go_ret
    exact ⟨ret_bool HB.out.symm, rfl⟩
   ·have d1 : (y == x) = false := by simpa using c1
    have HB := Lib.hid (show r = hasB (l.drop (k + 1)) x by rw [HX.out, hasB_goD HY.out c1])
    clear c1
    go_wp2
    go_round
    case rel => exact ⟨k + 1, by omega, by go_num, HB⟩
    case measure => simp [intOf]; omega
  ·have hf : r = false := by rw [HX.out, hasB_endD (by have := HL.out; omega)]
   have HF := Lib.hid hf; clear hf
   go_wp2
   go_ret
   exact ⟨ret_bool HF.out.symm, rfl⟩
end Go.Proofs.YtcchnibgehonoaaDoor

/- Walks: the law's refuses. -/
namespace Go.Proofs.YtcchnibgehonoaaDoor
open Go.RowKit Go Go.Maps

end Go.Proofs.YtcchnibgehonoaaDoor

/- Plain: tuples do not lie in a zero automaton's block; events outside the plant's alphabet are not refused. -/
namespace Go.Proofs.YtcchnibgehonoaaDoor
open Go.RowKit Go Go.Maps

theorem Blk.inv {W : World} {q : Nat} {t : TypeId} {vs : List Value} (h : Blk W q t vs) {p : Addr} {u : Value} (hp : p.block = q) (hc : W.cell? p = some u) : p.spot = none ∧ vs[p.off]? = some u := by
 unfold World.cell? at hc
 rw [hp, show W.heap[q]? = some (.cells vs.toArray t (0, 0)) from h] at hc
 simp only at hc
 cases hs : p.spot with
 | none => rw [hs] at hc; exact ⟨rfl, by simpa using hc⟩
 | some z => rw [hs] at hc; simp at hc
theorem ref_mem {P R : Aut} (hp : WF P) (s r : Int) : ∀ u : List Int, refF P R s r u = refF P R s r (intS u P.al)
 | [] => rfl
 | x :: u => by
  have ih := ref_mem (R := R) hp s r u
  by_cases hx : hasB P.al x = true
  ·rw [show intS (x :: u) P.al = x :: intS u P.al by unfold intS; rw [List.filter_cons, if_pos hx]]
   unfold refF
   rw [ih]
  ·rw [show intS (x :: u) P.al = intS u P.al by unfold intS; rw [List.filter_cons, if_neg hx], ← ih]
   have hb : refB P R s r x = false := by
    unfold refB
    rw [lkE_none (fun y hy he => hx (by rw [← he.2]; exact (hp.erng y hy).2))]; rfl
   show (if refB P R s r x = true then x else refF P R s r u) = _
   rw [hb]; rfl
theorem badI_mem {P R : Aut} (hp : WF P) (u : List Int) (T : List (List Int)) (k : Nat) : badI P R u T k = badI P R (intS u P.al) T k := by
 unfold badI refT
 congr 1
 funext i
 rw [ref_mem hp]
end Go.Proofs.YtcchnibgehonoaaDoor

/- Walks: the law's refusals. -/
namespace Go.Proofs.YtcchnibgehonoaaDoor
open Go.RowKit Go Go.Maps

end Go.Proofs.YtcchnibgehonoaaDoor

/- Walks: the law's problem. -/
namespace Go.Proofs.YtcchnibgehonoaaDoor
open Go.RowKit Go Go.Maps

end Go.Proofs.YtcchnibgehonoaaDoor

/- Walks: the law's few. -/
namespace Go.Proofs.YtcchnibgehonoaaDoor
open Go.RowKit Go Go.Maps

end Go.Proofs.YtcchnibgehonoaaDoor

/- Walks: automaton.Closed. -/
namespace Go.Proofs.YtcchnibgehonoaaDoor
open Go.RowKit Go Go.Maps

/-- all states marked -/
def cloA (a : Aut) : Aut := ⟨(canA a).al, (canA a).st, rngI (canA a).st, (canA a).ed⟩
structure ClsM (p b : Nat) (w0 w : World) (V : Option Addr) (nv cv : Nat) (al : List Int) (sv : Value) (E : Option Addr) (ne ce : Nat) (es : List Ed) (mv : Value) (nm : Nat) (mk : List Int) : Prop where
 pb : p + 1 < b
 bel : Below p w0 w
 res : Blk w (p + 1) 25 [.slice none 0 0, .int .i64 0, .slice none 0 0, .slice none 0 0]
 out : Blk w b 25 [.slice V nv cv, sv, mv, .slice E ne ce]
 alo : w.ownsRow (p + 2) 3 1 (.slice V nv cv) nv (iv al)
 edo : w.ownsRow (p + 2) 83 3 (.slice E ne ce) ne (es.flatMap edc)
 vlt : ∀ g, (Value.slice V nv cv).ownBlock = some g → g < b
 elt : ∀ g, (Value.slice E ne ce).ownBlock = some g → g < b
 mrk : w.ownsRow (b + 1) 3 1 mv nm (iv mk)
 mkl : mk.length = nm
section
variable {p b : Nat} {w0 w w' : World} {V E : Option Addr} {nv cv ne ce nm : Nat} {al mk : List Int} {sv mv : Value} {es : List Ed}
theorem ClsM.mark (h : ClsM p b w0 w V nv cv al sv E ne ce es mv nm mk) {A : Option Addr} {c : Nat} {i : Int} (ho : w'.ownsRow (b + 1) 3 1 (.slice A (nm + 1) c) (nm + 1) (iv mk ++ [.int .i64 i])) (hg : w.grownBy w' mv.ownBlock) :
  ClsM p b w0 (w'.setCell ⟨b, 2, none⟩ (.slice A (nm + 1) c)) V nv cv al sv E ne ce es (.slice A (nm + 1) c) (nm + 1) (mk ++ [i]) := by
 have hp := h.pb
 have hlt : b < w.heap.size := h.out.lt
 have hb := h.bel.grown hg (by omega) (fun j hj => by have := (h.mrk.lt j hj).1; omega)
 have hal := own_far h.alo hg (fun g e1 e2 => by have := h.vlt g e1; have := (h.mrk.lt g e2).1; omega)
 have hed := own_far h.edo hg (fun g e1 e2 => by have := h.elt g e1; have := (h.mrk.lt g e2).1; omega)
 have hout := h.out.kept hg (own_lt_ne h.mrk (Nat.lt_succ_self _))
 have hres := h.res.kept hg (own_lt_ne h.mrk (by omega))
 have hs := grown_setCell w' b 2 (.slice A (nm + 1) c)
 refine ⟨h.pb, hb.setCell (by show p ≤ b; omega) _, hres.kept hs (by intro e; injection e with e; omega), hout.set (by simp) _, hal.kept hs ?_, hed.kept hs ?_, h.vlt, h.elt, own_kept_low (by rw [iv_append]; exact ho) hs (Nat.lt_succ_self _), by simp [h.mkl]⟩
 ·cases hv : (Value.slice V nv cv).ownBlock with
  | none => exact .inl rfl
  | some g => exact .inr (fun e => by injection e with e; have := h.vlt g hv; omega)
 ·cases hv : (Value.slice E ne ce).ownBlock with
  | none => exact .inl rfl
  | some g => exact .inr (fun e => by injection e with e; have := h.elt g hv; omega)
end
end Go.Proofs.YtcchnibgehonoaaDoor
