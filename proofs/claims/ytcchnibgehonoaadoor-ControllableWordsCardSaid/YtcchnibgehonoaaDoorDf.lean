/- Infimal's pairs: the plain search, its bound, and how it lies in memory. -/
import Derived.Test.YtcchnibgehonoaaDoorCc
import Derived.Test.YtcchnibgehonoaaDoorDa
namespace Go.Proofs.YtcchnibgehonoaaDoor

section
variable {σ : Type} [DecidableEq σ] {C : Nat} {st : σ → Int → Option σ} {V : List Int} {x0 t : σ} {i k : Nat} {F : Option (Bs σ)} {s : Bs σ} {v : Int}
/-- in the midst of the events of a state -/
structure MInv (C : Nat) (st : σ → Int → Option σ) (V : List Int) (x0 : σ) (i : Nat) (t : σ) (k : Nat) (F : Option (Bs σ)) (s : Bs σ) : Prop where
 inv : FInv C st V x0 i t (V.take k) s
 fin : bsF C st i t (V.drop k) s = F
theorem MInv.start (h : BInv C st V x0 i s) (ht : s.ts[i]? = some t) : MInv C st V x0 i t 0 (bsF C st i t V s) s := ⟨h.enter ht, rfl⟩
theorem MInv.step (hm : ¬ Many C st V x0) (h : MInv C st V x0 i t k F s) (hv : V[k]? = some v) :
  (st t v = none → MInv C st V x0 i t (k + 1) F s) ∧
  (∀ y, st t v = some y → idx s.ts y < 0 → y ∉ s.ts ∧ s.ts.length < C ∧ MInv C st V x0 i t (k + 1) F ⟨s.ts ++ [y], s.es ++ [⟨i, v, s.ts.length⟩]⟩) ∧
  (∀ y, st t v = some y → ¬ idx s.ts y < 0 → MInv C st V x0 i t (k + 1) F ⟨s.ts, s.es ++ [⟨i, v, idx s.ts y⟩]⟩) := by
 have hf := h.fin
 rw [drop_cons' hv, bsF] at hf
 have hD := take_snoc' hv
 rcases h.inv.step (List.mem_of_getElem? hv) with ⟨s', e1, i1, _⟩ | ⟨_, hb⟩
 ·rw [e1] at hf
  simp only at hf
  rw [← hD] at i1
  refine ⟨fun g => ?_, fun y g hi => ?_, fun y g hi => ?_⟩
  ·rw [bsE_none g] at e1; injection e1 with e1; subst e1; exact ⟨i1, hf⟩
  ·by_cases hC : s.ts.length = C
   ·rw [bsE_full g hi hC] at e1; cases e1
   ·rw [bsE_new g hi hC] at e1; injection e1 with e1; subst e1
    exact ⟨idx_neg.1 hi, by have := h.inv.len; omega, i1, hf⟩
  ·rw [bsE_old g hi] at e1; injection e1 with e1; subst e1; exact ⟨i1, hf⟩
 ·exact absurd hb hm
theorem MInv.done (h : MInv C st V x0 i t k F s) (hk : V.length ≤ k) : BInv C st V x0 (i + 1) s ∧ F = some s := by
 have h1 := h.inv
 rw [List.take_of_length_le hk] at h1
 refine ⟨h1.leave, ?_⟩
 rw [← h.fin, List.drop_of_length_le hk]; rfl
end
/-- a step of the pairs stays in range -/
theorem lkE_rng {a : Aut} (h : WF a) {s v t : Int} (hl : lkE s v a.ed = some t) : 0 ≤ t ∧ t < a.st := by
 rw [lkE_of_nxt h] at hl
 split at hl
 ·cases hl
 ·injection hl with hl
  have hne : nxt a s v ≠ -1 := fun e => by omega
  obtain ⟨g1, g2, _⟩ := h.nxt_rng hne
  rw [hl] at g1 g2
  exact ⟨g1, g2⟩
def PrI (P R : Aut) (z : Int × Int) : Prop := (0 ≤ z.1 ∧ z.1 < P.st) ∧ (-1 ≤ z.2 ∧ z.2 < R.st)
theorem nxI_rng {P R : Aut} (hP : WF P) (hR : WF R) {U : List Int} {z y : Int × Int} {v : Int} (hz : PrI P R z) (h : nxI P R U z v = some y) : PrI P R y := by
 unfold nxI at h
 have hR0 := hR.st0
 cases hl : lkE z.1 v P.ed with
 | none => rw [hl] at h; cases h
 | some t =>
  rw [hl] at h
  simp only at h
  have ht := lkE_rng hP hl
  obtain ⟨_, h1, h2⟩ := hz
  split at h
  ·split at h
   ·injection h with h; subst h; exact ⟨ht, by simp; omega⟩
   ·cases h
  ·split at h
   ·injection h with h; subst h; exact ⟨ht, h1, h2⟩
   ·split at h
    ·rename_i r hr
     injection h with h; subst h
     have := lkE_rng hR hr
     exact ⟨ht, by show -1 ≤ r; omega, this.2⟩
    ·split at h
     ·injection h with h; subst h; exact ⟨ht, by simp; omega⟩
     ·cases h
theorem rchI_rng {P R : Aut} (hP : WF P) (hR : WF R) (h0 : P.st ≠ 0) (h1 : R.st ≠ 0) {U : List Int} {V : List Int} {z : Int × Int} (h : Rch (nxI P R U) V (0, 0) z) : PrI P R z := by
 have a0 := hP.st0
 have b0 := hR.st0
 induction h with
 | start => exact ⟨⟨by simp, by show 0 < P.st; omega⟩, by simp, by show 0 < R.st; omega⟩
 | step _ _ hs ih => exact nxI_rng hP hR ih hs
theorem few_pairs {P R : Aut} (hP : WF P) (hR : WF R) (h0 : P.st ≠ 0) (h1 : R.st ≠ 0) (hp : P.st ≤ 60) (hr : R.st ≤ 60) {U V : List Int} : ¬ Many 4096 (nxI P R U) V (0, 0) := by
 refine not_many ((List.range 60).flatMap (fun x : Nat => (List.range 61).map (fun y : Nat => ((x : Int), (y : Int) - 1)))) ?_ fun z hz => ?_
 ·decide +kernel
 ·obtain ⟨⟨g1, g2⟩, g3, g4⟩ := rchI_rng hP hR h0 h1 hz
  rw [List.mem_flatMap]
  refine ⟨z.1.toNat, List.mem_range.2 (by omega), List.mem_map.2 ⟨(z.2 + 1).toNat, List.mem_range.2 (by omega), ?_⟩⟩
  exact Prod.ext (by show ((z.1.toNat : Nat) : Int) = z.1; omega) (by show (((z.2 + 1).toNat : Nat) : Int) - 1 = z.2; omega)
/-- the pairs that Infimal finds -/
def infS (P R : Aut) (U : List Int) (p : Aut) : Option (Bs (Int × Int)) := if p.st = 0 then some ⟨[], []⟩ else bfs 4096 (nxI P R U) P.al (0, 0)
/-- Infimal's answer -/
def infA (P R : Aut) (U : List Int) (p : Aut) : Aut := match infS P R U p with
 | some s => ⟨P.al, s.ts.length, rngI s.ts.length, s.es⟩
 | none => ⟨P.al, 0, [], []⟩
/-- where Infimal stands between two states -/
def LoopI (P R : Aut) (U : List Int) (i : Nat) (s : Bs (Int × Int)) (RES : Option (Bs (Int × Int))) : Prop :=
 (s = ⟨[], []⟩ ∧ RES = some s) ∨ (BInv 4096 (nxI P R U) P.al (0, 0) i s ∧ bsR 4096 (nxI P R U) P.al (4097 - i) i s = RES)
theorem LoopI.in_ {P R : Aut} {U : List Int} {i : Nat} {s : Bs (Int × Int)} {RES : Option (Bs (Int × Int))} (h : LoopI P R U i s RES) (hi : i < s.ts.length) : BInv 4096 (nxI P R U) P.al (0, 0) i s ∧ bsR 4096 (nxI P R U) P.al (4097 - i) i s = RES := by
 rcases h with ⟨rfl, _⟩ | h
 ·have hi : i < 0 := hi; omega
 ·exact h
theorem LoopI.end_ {P R : Aut} {U : List Int} {i : Nat} {s : Bs (Int × Int)} {RES : Option (Bs (Int × Int))} (h : LoopI P R U i s RES) (hi : ¬ i < s.ts.length) : RES = some s := by
 rcases h with ⟨_, h⟩ | ⟨_, h⟩
 ·exact h
 ·rw [← h, bsR_end hi]

open Go.RowKit Go Go.Maps
def pc (z : Int × Int) : List Value := [.int .i64 z.1, .int .i64 z.2]
theorem pair_info : (Tryd.prog.info? 97).map (fun i => (i.zero, i.size, i.bytes)) = some (some (.agg #[.int .i64 0, .int .i64 0]), 2, 16) := by kernel_rfl
theorem blk_ne_own {w : World} {base : Nat} {e t : TypeId} {size n b : Nat} {v : Value} {xs vs : List Value} (h : w.ownsRow base e size v n xs) (hk : Blk w b t vs) (hne : e ≠ t) : some b ≠ v.ownBlock := by
 rcases own_ne_blk h hk hne with h1 | h1
 ·rw [h1]; simp
 ·exact fun e => h1 e.symm
/-- Infimal's memory: the automaton under construction, the pairs, the map -/
structure InfM (B o mp : Nat) (w0 w : World) (V : Option Addr) (nv cv : Nat) (al : List Int) (tv ev : Value) (nt nm ke : Nat) (tk ts : List (Int × Int)) (es : List Ed) : Prop where
 bel : Below B w0 w
 var : Blk w o 25 [.slice V nv cv, .int .i64 0, .slice none 0 0, ev]
 alo : w.ownsRow B 3 1 (.slice V nv cv) nv (iv al)
 prs : w.ownsRow B 97 2 tv nt (ts.flatMap pc)
 tn : ts.length = nt
 edg : w.ownsRow B 83 3 ev ke (es.flatMap edc)
 edl : es.length = ke
 tab : TabI Tryd.prog 97 3 kP w mp nm (idxO tk)
 lt : B ≤ o ∧ o < mp
section
variable {B o mp : Nat} {w0 w w' : World} {V : Option Addr} {nv cv : Nat} {al : List Int} {tv ev : Value} {nt nm ke : Nat} {tk ts : List (Int × Int)} {es : List Ed}
theorem InfM.siz (h : InfM B o mp w0 w V nv cv al tv ev nt nm ke tk ts es) : mp < w.heap.size := TabI.lt h.tab
theorem InfM.quiet (h : InfM B o mp w0 w V nv cv al tv ev nt nm ke tk ts es) (hb : Below w.heap.size w w') : InfM B o mp w0 w' V nv cv al tv ev nt nm ke tk ts es :=
 ⟨h.bel.trans (hb.mono (by have := h.siz; have := h.lt; omega)), h.var.below hb h.var.lt, own_below h.alo hb, own_below h.prs hb, h.tn, own_below h.edg hb, h.edl, TabI.below h.tab hb (TabI.lt h.tab), h.lt⟩
theorem InfM.edge (h : InfM B o mp w0 w V nv cv al tv ev nt nm ke tk ts es) {A : Option Addr} {c : Nat} {x : Ed} (ho : w'.ownsRow B 83 3 (.slice A (ke + 1) c) (ke + 1) (es.flatMap edc ++ edc x)) (hg : w.grownBy w' ev.ownBlock) :
  InfM B o mp w0 (w'.setCell ⟨o, 3, none⟩ (.slice A (ke + 1) c)) V nv cv al tv (.slice A (ke + 1) c) nt nm (ke + 1) tk ts (es ++ [x]) := by
 have hlt := h.lt
 have hsz := h.siz
 have hs := grown_setCell w' o 3 (.slice A (ke + 1) c)
 have hbl := h.var.kept hg (blk_ne_own h.edg h.var (by decide))
 have hal := own_kept_ne h.alo h.edg (by decide) hg
 have hpr := own_kept_ne h.prs h.edg (by decide) hg
 have htb := h.tab.kept hg (tab_ne_own' h.tab h.edg)
 exact ⟨(h.bel.grown hg (by omega) (fun j hj => (h.edg.lt j hj).1)).setCell (by show B ≤ o; omega) _, hbl.set (by simp) _, hal.kept hs (own_ne_blk hal hbl (by decide)), hpr.kept hs (own_ne_blk hpr hbl (by decide)), h.tn,
  by have h1 := ho.kept hs (own_ne_blk ho hbl (by decide)); simpa using h1, by simp [h.edl], htb.kept hs (by intro e; injection e with e; omega), h.lt⟩
theorem InfM.put (h : InfM B o mp w0 w V nv cv al tv ev nt nm ke tk ts es) {tk' : List (Int × Int)} (ht : TabI Tryd.prog 97 3 kP w' mp (nm + 1) (idxO tk')) (hg : w.grownBy w' (some mp)) :
  InfM B o mp w0 w' V nv cv al tv ev nt (nm + 1) ke tk' ts es := by
 have hlt := h.lt
 have hsz := h.siz
 have kp : ∀ {base : Nat} {e : TypeId} {size n : Nat} {v : Value} {zs : List Value}, w.ownsRow base e size v n zs → w'.ownsRow base e size v n zs := fun {base e size n v zs} hz => hz.kept hg (.inr (fun e0 => tab_ne_own' h.tab hz e0.symm))
 exact ⟨h.bel.grown hg (by omega) (fun j hj => by injection hj with hj; omega), h.var.kept hg (by intro e; injection e with e; omega), kp h.alo, kp h.prs, h.tn, kp h.edg, h.edl, ht, h.lt⟩
theorem InfM.push (h : InfM B o mp w0 w V nv cv al tv ev nt nm ke tk ts es) {A : Option Addr} {c : Nat} {x : Int × Int} (ho : w'.ownsRow B 97 2 (.slice A (nt + 1) c) (nt + 1) (ts.flatMap pc ++ pc x)) (hg : w.grownBy w' tv.ownBlock) :
  InfM B o mp w0 w' V nv cv al (.slice A (nt + 1) c) ev (nt + 1) nm ke tk (ts ++ [x]) es := by
 have hlt := h.lt
 have hsz := h.siz
 exact ⟨h.bel.grown hg (by omega) (fun j hj => (h.prs.lt j hj).1), h.var.kept hg (blk_ne_own h.prs h.var (by decide)), own_kept_ne h.alo h.prs (by decide) hg, by simpa using ho, by simp [h.tn], own_kept_ne h.edg h.prs (by decide) hg, h.edl, h.tab.kept hg (tab_ne_own' h.tab h.prs), h.lt⟩
theorem InfM.start {B : Nat} {w0 w : World} {V : Option Addr} {nv cv : Nat} {al : List Int} (hb : Below B w0 w) (hB : B ≤ w.heap.size) (ho : w.ownsRow B 3 1 (.slice V nv cv) nv (iv al)) :
  InfM B w.heap.size (w.heap.size + 1) w0 ((w.alloc (.cells #[.slice V nv cv, .int .i64 0, .slice none 0 0, .slice none 0 0] 25)).alloc (.map #[] 0)) V nv cv al (.slice none 0 0) (.slice none 0 0) 0 0 0 [] [] [] := by
 have h1 := box_below w (.cells #[.slice V nv cv, .int .i64 0, .slice none 0 0, .slice none 0 0] 25)
 have h2 := h1.alloc h1.size (.map #[] 0)
 have ht := TabI.made (w.alloc (.cells #[.slice V nv cv, .int .i64 0, .slice none 0 0, .slice none 0 0] 25)) Tryd.prog 97 3 kP
 rw [World.size_alloc] at ht
 exact ⟨hb.trans (h2.mono hB), (Blk.new _ _ [_, _, _, _]).al _, own_below ho h2, World.ownsRow_nil _ _ _ _, rfl, World.ownsRow_nil _ _ _ _, rfl, ht, hB, Nat.lt_succ_self _⟩
end
theorem TabI.get_ok {α : Type} {P : Program} {K E : TypeId} {key : α → Value} {w : World} {b n : Nat} {g : α → Option Int} {t : TypeId} (h : TabI P K E key w b n g) (KK : Keyed P K) (ht : P.underlying t = some (.map K E)) (he : P.underlying E = some (.int .i64)) (hz : (zeroValue E).run P w = .ok (.int .i64 0) w)
  (c : α) (hk : ∃ kl, keyOf P K (key c) = some kl) (y : Int) (hy : g c = some y) : (Instr.lookup t (.map (some b)) (key c) false).run P w = .ok (.int .i64 y) w := by
 obtain ⟨D, h1, h2⟩ := h
 obtain ⟨kl, hkl⟩ := hk
 obtain ⟨h3, h4⟩ := h2 c kl hkl
 obtain ⟨z, hrun, hc, _⟩ := h1.lookup_int KK ht he hz hkl
 rw [h4 y hy] at hc
 simp only [DataW.lit.injEq, Lit.int.injEq, true_and] at hc
 rw [hrun, hc]
theorem exec_look {P : Program} {o : Oper} {a : Act} {m x : Operand} {t : TypeId} {v : Value} {w : World} (hop : o.op = Op.lookup t m x false) (hr : (Instr.lookup t (a.eval m) (a.eval x) false).run P w = .ok v w) : (execOp a.eval o).run P w = .ok (.value v) w := by
 simp [execOp, hop, hr, Result.andThen]
end Go.Proofs.YtcchnibgehonoaaDoor

/- Walks: Infimal at a right problem. -/
namespace Go.Proofs.YtcchnibgehonoaaDoor
open Go.RowKit Go Go.Maps

theorem VarO.stt {B rb o : Nat} {w0 w : World} {A M E : Option Addr} {na ca nm cm ne ce : Nat} {a : Aut} (h : VarO B rb o w0 w A na ca M nm cm E ne ce a) (m : Int) :
  VarO B rb o w0 (w.setCell ⟨o, 1, none⟩ (.int .i64 m)) A na ca M nm cm E ne ce ⟨a.al, m, a.ma, a.ed⟩ := by
 have hg := grown_setCell w o 1 (.int .i64 m)
 have hk := h.own.keepB h.var hg
 have hlt := h.lt
 exact ⟨h.bel.setCell (by show B ≤ o; omega) _, h.res.kept hg (by intro e; injection e with e; omega), h.var.set (by simp) _, ⟨hk.la, hk.oa, hk.lm, hk.om, hk.le, hk.oe⟩, hlt⟩
set_option maxRecDepth 100000 in
set_option maxHeartbeats 6400000 in
theorem infimal_ok (A M E A' M' E' : Option Addr) (na ca nm cm ne ce na' ca' nm' cm' ne' ce' : Nat) (P R : Aut) (U : Option Addr) (cu nu : Nat) (u : List Int) (w : World) (hx : AutR w w.heap.size A na ca M nm cm E ne ce P) (hy : AutR w w.heap.size A' na' ca' M' nm' cm' E' ne' ce' R)
  (hul : u.length = nu) (hu : RdI w w.heap.size U u) (hu1 : nu ≤ cu) (hu2 : cu ≤ 9223372036854775807) (p : Aut) (T : List (List Int)) (hp : Prob P R u p T) (n : Nat) (hn : T.length = n) (hpz : n ≠ 0 → P.st ≠ 0 ∧ R.st ≠ 0) :
  Calls Tryd.prog 17 #[.agg #[.slice A na ca, .int .i64 P.st, .slice M nm cm, .slice E ne ce], .agg #[.slice A' na' ca', .int .i64 R.st, .slice M' nm' cm', .slice E' ne' ce'], .slice U nu cu] w (RetAE (infA P R (intS u P.al) p) w) := by
 obtain ⟨sp, hsp⟩ : ∃ s, P.st = s := ⟨_, rfl⟩
 obtain ⟨sr, hsr⟩ : ∃ s, R.st = s := ⟨_, rfl⟩
 have HSPQ := Lib.hid hsp
 rw [hsp, hsr]
 have hb1 := box_below w (.cells #[.slice A na ca, .int .i64 sp, .slice M nm cm, .slice E ne ce] 25)
 have hb2 := hb1.alloc hb1.size (.cells #[.slice A' na' ca', .int .i64 sr, .slice M' nm' cm', .slice E' ne' ce'] 25)
 have hb3 := hb2.alloc hb2.size (.cells #[.slice none 0 0, .int .i64 0, .slice none 0 0, .slice none 0 0] 25)
 obtain ⟨w1, hw1⟩ : ∃ w1, w1 = (((w.alloc (.cells #[.slice A na ca, .int .i64 sp, .slice M nm cm, .slice E ne ce] 25)).alloc (.cells #[.slice A' na' ca', .int .i64 sr, .slice M' nm' cm', .slice E' ne' ce'] 25)).alloc (.cells #[.slice none 0 0, .int .i64 0, .slice none 0 0, .slice none 0 0] 25)) := ⟨_, rfl⟩
 have kR : Blk w1 (w.heap.size + 1 + 1) 25 [.slice none 0 0, .int .i64 0, .slice none 0 0, .slice none 0 0] := by rw [hw1]; exact Blk.at_ _ _ [_, _, _, _] (by simp)
 have kP : Blk w1 w.heap.size 25 [.slice A na ca, .int .i64 sp, .slice M nm cm, .slice E ne ce] := by rw [hw1]; exact ((Blk.new _ _ [_, _, _, _]).al _).al _
 rw [← hw1] at hb3
 have hx1 := (hx.below hb3).more hb3.size
 have HC := Lib.hid (ctl_open_ok A M E A' M' E' na ca nm cm ne ce na' ca' nm' cm' ne' ce' P R U cu nu u w1 hx1 ((hy.below hb3).more hb3.size) hul ((hu.below hb3).more hb3.size) hu1 hu2 p T hp)
 rw [hsp, hsr] at HC
 have hst : p.st = (n : Int) := by rw [hp.tups.1, hn]
 have hn4 : n ≤ 3600 := by rw [← hn]; exact hp.len
 have HW1 := Lib.hid hw1; clear hw1
 have HB1 := Lib.hid hb3; clear hb3
 have KR := Lib.hid kR; clear kR
 have KPB := Lib.hid kP; clear kP
 have HP := Lib.hid hp; clear hp
 have HPZ := Lib.hid hpz; clear hpz
 have HST := Lib.hid hst; clear hst
 have HX := Lib.hid hx1; clear hx1
 clear hb1 hb2 hx hy hu hsp hsr hul hn
 go_enter Tryd.func17, Tryd.ntmps17
 go_wp2_with fail
 rw [← HW1.out]
 refine HC.out.mono ?_
 rintro e w2 ⟨b, v, rfl, hb0, hpr, hb⟩
 have HB := Lib.hid (HB1.out.trans (hb.mono HB1.out.size))
 have hc5 : ∀ W, Below w2.heap.size w2 W → W.cell? ⟨b, 5, none⟩ = some (.int .i64 (n : Int)) := fun W hbw => by
  have := (hpr.blk.below hbw hpr.blk.lt).cell (j := 5) rfl
  rw [hpr.xa, HST.out] at this
  exact this
 have HX2 := Lib.hid ((HX.out.below hb).more hb.size)
 have KR2 := Lib.hid (KR.out.below hb KR.out.lt)
 have KP2 := Lib.hid (KPB.out.below hb KPB.out.lt)
 have hna : na ≤ 32 := by have := HP.out.wp.al_le; rw [HX2.out.la] at this; exact this
 have HCL := Lib.hid (slices_Clone_n A ca na P.al w2 HX2.out.la HX2.out.ra (by omega))
 have HUI := Lib.hid (show Inc (intS u P.al) from List.Pairwise.filter _ HP.out.ui)
 have HUL := Lib.hid (show (intS u P.al).length ≤ 1000 by
  have h2 := inc_len (n := 32) HUI.out (fun x hx => HP.out.ur x (List.mem_filter.1 hx).1)
  omega)
 have c0 := KP2.out.cell (j := 0) rfl
 have HPR := Lib.hid hpr; clear hpr
 have HC5 := Lib.hid hc5; clear hc5
 clear hb HC hb0 KR KPB HX
 go_wp2_with fail
 refine HCL.out.mono ?_
 rintro e w3 ⟨v3, rfl, ho3, hb3⟩
 obtain ⟨V, cv, rfl⟩ := own_shape ho3
 rw [HX2.out.la] at ho3 ⊢
 have hmm := @run_makeMap Tryd.prog
 have HM0 := Lib.hid (InfM.start (B := w2.heap.size) (w0 := w2) hb3 hb3.size ho3)
 have l3 : w2.heap.size ≤ w3.heap.size := hb3.size
 clear hb3 ho3 HCL c0
 go_upto_region 7 with fail
 obtain ⟨w5, hw5⟩ : ∃ w5, w5 = (w3.alloc (.cells #[.slice V na cv, .int .i64 0, .slice none 0 0, .slice none 0 0] 25)).alloc (.map #[] 0) := ⟨_, rfl⟩
 rw [← hw5] at HM0 ⊢
 have HW5 := Lib.hid hw5; clear hw5
 generalize w3.heap.size = o at HM0 l3 ⊢
 obtain ⟨RES, hRES⟩ : ∃ r, infS P R (intS u P.al) p = r := ⟨_, rfl⟩
 have HINF := Lib.hid (show ∀ s, RES = some s → infA P R (intS u P.al) p = ⟨P.al, s.ts.length, rngI s.ts.length, s.es⟩ from fun s hs => by unfold infA; rw [hRES, hs])
 have c5 := HC5.out w5 HM0.out.bel
 go_upto_if 41 with fail
 clear c5
 go_cut [11] from 20 (fun s11 wx => ∃ (TA : Option Addr) (tc nt : Nat) (s : Bs (Int × Int)), s11 = .slice TA nt tc ∧ nt ≤ 1 ∧ Hid (InfM w2.heap.size o (o + 1) w2 wx V na cv P.al (.slice TA nt tc) (.slice none 0 0) nt nt 0 s.ts s.ts s.es) ∧ Hid (LoopI P R (intS u P.al) 0 s RES) ∧ Hid (n = 0 → s.ts = []))
 case first =>
  by_cases h0 : n = 0
  ·have b0 : ¬ (0 : Int) < (n : Int) := by omega
   have HL := Lib.hid (show LoopI P R (intS u P.al) 0 ⟨[], []⟩ RES from .inl ⟨rfl, by rw [← hRES]; unfold infS; rw [if_pos (by rw [HST.out]; omega)]⟩)
   clear h0
   go_wp2_with fail
   go_meet
   case rel => exact ⟨none, 0, 0, ⟨[], []⟩, rfl, Nat.zero_le _, HM0, HL, Lib.hid (fun _ => rfl)⟩
  ·have b0 : (0 : Int) < (n : Int) := by omega
   have HL := Lib.hid (show LoopI P R (intS u P.al) 0 ⟨[(0, 0)], []⟩ RES from .inr ⟨BInv.begin (by omega), by rw [← hRES]; unfold infS; rw [if_neg (by rw [HST.out]; omega)]; rfl⟩)
   have HN0 := Lib.hid h0
   have HKZ := Lib.hid (pairKey w 0 0 (by decide) (by decide))
   have hbs : w2.heap.size ≤ w5.heap.size := HM0.out.bel.size
   clear h0
   go_wp2_with (first
    | (at_builtin; refine wpList_pushA w5 [.int .i64 0, .int .i64 0] rfl (.tmp 42) (.tmp 44) 96 rfl w2.heap.size 97 (.agg #[.int .i64 0, .int .i64 0]) 2 16 Tryd.underlying96 pair_info rfl (by decide) rfl (.slice none 0 0) 0 _ rfl HM0.out.prs rfl (fun q hq => by simp at hq; subst hq; rfl) (by omega) (by omega) hbs ?_; intro A6 c6 w6 ho6 hg6 hl6; have HM6 := Lib.hid (HM0.out.push (x := (0, 0)) ho6 hg6); clear ho6 hg6 hl6)
    | (at_mapUpdate; refine wpList_tab_put rfl (.tmp 46) (.tmp 47) (.const (.int .i64 0)) 87 rfl pairLaw Tryd.underlying87 Tryd.underlying3 rfl HM6.out.tab (by omega) (0, 0) rfl HKZ.out 0 rfl (by decide) (idxO [(0, 0)]) (fun q hq => by rw [kP_inj hq]; simp [idxO, idx]) (fun q hq => by have hq' : ¬ ((0 : Int), (0 : Int)) = q := fun e => hq (by rw [e]); simp [idxO, idx, hq']) ?_; intro w7 hT7 hg7; have HM7 := Lib.hid (HM6.out.put hT7 hg7); clear hT7 hg7)
    | fail)
   go_meet
   case rel => exact ⟨A6, c6, 1, ⟨[(0, 0)], []⟩, rfl, Nat.le_refl _, HM7, HL, Lib.hid (fun h => absurd h HN0.out)⟩
 case rest =>
  obtain ⟨TA, tc, nt, s, rfl, hnt1, HM, HL, HNZ⟩ := hcut
  have HRES := Lib.hid hRES; clear hRES
  clear HM0
  go_wp2
  go_loopw [11, 13] (fun s11 s13 wr => ∃ (i nt ke : Nat) (tv ev : Value) (s : Bs (Int × Int)), s13 = .int .i64 i ∧ s11 = tv ∧ i ≤ nt ∧ nt ≤ 4096 ∧ ke ≤ i * 32 ∧ Hid (InfM w2.heap.size o (o + 1) w2 wr V na cv P.al tv ev nt nt ke s.ts s.ts s.es) ∧ Hid (LoopI P R (intS u P.al) i s RES) ∧ Hid (n = 0 → s.ts = [])) (fun _ s13 _ => 4097 - (intOf s13).toNat)
  case atStart => exact ⟨0, nt, 0, _, _, s, rfl, rfl, Nat.zero_le _, by omega, Nat.zero_le _, HM, HL, HNZ⟩
  case round =>
   clear HM HL HNZ hnt1
   obtain ⟨i, nt, ke, tv, ev, s, rfl, rfl, hi, hnt, hke, HM, HL, HNZ⟩ := hrel
   obtain ⟨TA, tc, rfl⟩ := own_shape HM.out.prs
   obtain ⟨EA, ec, rfl⟩ := own_shape HM.out.edg
   obtain ⟨wo, rfl⟩ : ∃ wo : World, wo = wr := ⟨_, rfl⟩
   have k0 : wo.cell? ⟨w.heap.size, 0, none⟩ = some (.slice A na ca) := (KP2.out.below HM.out.bel KP2.out.lt).cell (j := 0) rfl
   by_cases hlt : i < nt
   ·obtain ⟨⟨z1, z2⟩, hz⟩ : ∃ z, s.ts[i]? = some z := ⟨_, List.getElem?_eq_getElem (by rw [HM.out.tn]; exact hlt)⟩
    have hn0 : n ≠ 0 := fun e => by rw [HNZ.out e] at hz; simp at hz
    obtain ⟨hp0, hr0⟩ := HPZ.out hn0
    obtain ⟨hBI, hBS⟩ := HL.out.in_ (by rw [HM.out.tn]; exact hlt)
    have hrg := rchI_rng HP.out.wp HP.out.wr hp0 hr0 (hBI.rch _ (List.mem_of_getElem? hz))
    have HMany := Lib.hid (few_pairs HP.out.wp HP.out.wr hp0 hr0 HP.out.sp HP.out.sr (U := intS u P.al) (V := P.al))
    obtain ⟨F, hF⟩ : ∃ F, bsF 4096 (nxI P R (intS u P.al)) i (z1, z2) P.al s = F := ⟨_, rfl⟩
    have HMI0 := Lib.hid (show MInv 4096 (nxI P R (intS u P.al)) P.al (0, 0) i (z1, z2) 0 F s by rw [← hF]; exact MInv.start hBI hz)
    have HBF := Lib.hid (show ∀ s', F = some s' → bsR 4096 (nxI P R (intS u P.al)) P.al (4097 - (i + 1)) (i + 1) s' = RES from fun s' hs' => by
     rw [← hBS, show 4097 - i = (4097 - (i + 1)) + 1 by omega, bsR_go hz (hF.trans hs')])
    have HRG := Lib.hid hrg
    have HSP60 := Lib.hid (show P.st ≤ 60 ∧ R.st ≤ 60 from ⟨HP.out.sp, HP.out.sr⟩)
    have b1 : (i : Int) < (nt : Int) := by omega
    have hzs1 : 0 ≤ z1 ∧ z1 ≤ 4096 := ⟨hrg.1.1, by have h2 : z1 < P.st := hrg.1.2; have := HP.out.sp; omega⟩
    have hzs2 : -1 ≤ z2 ∧ z2 ≤ 4096 := ⟨hrg.2.1, by have h2 : z2 < R.st := hrg.2.2; have := HP.out.sr; omega⟩
    have hint0 : i + 1 ≤ nt := hlt
    have HN0 := Lib.hid hn0
    clear hBI hBS hz hF hrg hp0 hr0 hn0 HL HNZ hlt
    go_wp2
    clear k0
    go_loopw [11, 57] (fun s11 s57 wr => ∃ (k nt ke : Nat) (tv ev : Value) (s : Bs (Int × Int)), s57 = .int .i64 k ∧ s11 = tv ∧ k ≤ na ∧ i + 1 ≤ nt ∧ nt ≤ 4096 ∧ ke ≤ i * 32 + k ∧ Hid (InfM w2.heap.size o (o + 1) w2 wr V na cv P.al tv ev nt nt ke s.ts s.ts s.es) ∧ Hid (MInv 4096 (nxI P R (intS u P.al)) P.al (0, 0) i (z1, z2) k F s)) (fun _ s57 _ => na - (intOf s57).toNat)
    case atStart => exact ⟨0, nt, ke, _, _, s, rfl, rfl, Nat.zero_le _, hint0, hnt, by omega, HM, HMI0⟩
    case round =>
     clear HM HMI0 hint0 hnt hke hi b1
     obtain ⟨k, nt, ke, tv, ev, s, rfl, rfl, hk, hint, hnt, hke, HM, HMI⟩ := hrel
     obtain ⟨TA, tc, rfl⟩ := own_shape HM.out.prs
     obtain ⟨EA, ec, rfl⟩ := own_shape HM.out.edg
     by_cases hkl : k < na
     ·obtain ⟨ad, x, hA, hxb, hxe, hxc⟩ := (HX2.out.ra.below HM.out.bel).at_ (k := k) (by rw [HX2.out.la]; exact hkl)
      subst hA
      have hxr := HP.out.wp.rng x (List.mem_of_getElem? hxe)
      have hzt : s.ts[i]? = some (z1, z2) := HMI.out.inv.at_
      obtain ⟨td, z', hTA, htd, hz', hcell⟩ := (RdR.of_own (f := pc) (by omega) (fun _ _ => rfl) HM.out.prs).get (k := i) (by rw [HM.out.tn]; omega)
      obtain rfl : z' = (z1, z2) := by rw [hzt] at hz'; injection hz' with e; exact e.symm
      subst hTA
      have q0 : wr.cell? (td.add (i * 2)) = some (.int .i64 z1) := hcell 0 _ rfl
      have q1 : wr.cell? ⟨(td.add (i * 2)).block, (td.add (i * 2)).off + 1, none⟩ = some (.int .i64 z2) := st_cells (j := 0) (hcell 1 _ rfl)
      obtain ⟨N, hN⟩ : ∃ N, nxI P R (intS u P.al) (z1, z2) x = N := ⟨_, rfl⟩
      obtain ⟨q, hq⟩ : ∃ q, N.isSome = q := ⟨_, rfl⟩
      have HNX := Lib.hid (problem_next b v P R p (intS u P.al) T z1 z2 x wr (HPR.out.below HM.out.bel) HP.out.wr hzs1 hzs2 hxr HUI.out HUL.out)
      rw [hN, hq] at HNX
      have b1 : (i : Int) < (nt : Int) := by omega
      have b2 : (k : Int) < (na : Int) := by omega
      obtain ⟨hst0, hst1, hst2⟩ := HMI.out.step HMany.out hxe
      have HS0 := Lib.hid hst0; clear hst0
      have HS1 := Lib.hid hst1; clear hst1
      have HS2 := Lib.hid hst2; clear hst2
      have HNE := Lib.hid hN; clear hN
      clear hcell hz' hzt htd hxb
      go_wp2_with fail
      refine HNX.out.mono ?_
      rintro e w5 ⟨⟨y1, y2⟩, rfl, hyN, hb5⟩
      have HM5 := Lib.hid (HM.out.quiet hb5)
      have hbx := box_below w5 (.cells #[.int .i64 y1, .int .i64 y2] 97)
      have HM6 := Lib.hid (HM5.out.quiet hbx)
      have HKT := Lib.hid (show Blk (w5.alloc (.cells #[.int .i64 y1, .int .i64 y2] 97)) w5.heap.size 97 [.int .i64 y1, .int .i64 y2] from Blk.new _ _ [_, _])
      have HOD := Lib.hid (show ∀ g, (Value.slice (some td) nt tc).ownBlock = some g → g < w5.heap.size from fun g hg => (HM5.out.prs.lt g hg).2)
      have hmp5 : o + 1 < w5.heap.size := HM5.out.siz
      clear q0 q1 hb5 hbx HM HNX hxc
      cases N with
      | none =>
       obtain rfl : false = q := hq
       have HE := Lib.hid (HS0.out HNE.out)
       go_wp2
       go_roundw
       case rel => exact ⟨k + 1, nt, ke, _, _, s, by go_num, rfl, by omega, by omega, by omega, by omega, HM6, HE⟩
       case measure => simp [intOf]; omega
      | some y =>
       obtain rfl : true = q := hq
       obtain rfl : (y1, y2) = y := hyN y rfl
       have hyr := nxI_rng HP.out.wp HP.out.wr HRG.out HNE.out
       have HKEY := Lib.hid (pairKey w y1 y2 (WalkArith.wf_i64 (by have h := hyr.1; have := HSP60.out.1; have h1 : 0 ≤ y1 := h.1; have h2 : y1 < P.st := h.2; omega)) (WalkArith.wf_i64 (by have h := hyr.2; have := HSP60.out.2; have h1 : -1 ≤ y2 := h.1; have h2 : y2 < R.st := h.2; omega)))
       have c0 := HKT.out.cell (j := 0) rfl
       have c1 := HKT.out.cell (j := 1) rfl
       clear hyr hyN
       by_cases hi0 : idx s.ts (y1, y2) < 0
       ·obtain ⟨hnot, hlen, hE⟩ := HS1.out _ HNE.out (by first | exact hi0 | omega)
        have hnt6 : nt < 4096 := by rw [← HM6.out.tn]; exact hlen
        have b3 : ((nt : Int) == 4096) = false := by simp; omega
        have HYO := Lib.hid (show idxO s.ts (y1, y2) = none by unfold idxO; rw [if_pos hi0])
        rw [HM6.out.tn] at hE
        have HE := Lib.hid hE
        have HYN := Lib.hid (show idxO (s.ts ++ [(y1, y2)]) (y1, y2) = some (nt : Int) by rw [idxO_snoc_new hnot, HM6.out.tn])
        clear hi0 hE hnot hlen
        go_upto_region 24 with (first
         | (at_lookup; refine wpList_tab_miss rfl (.tmp 74) (.tmp 75) 87 rfl pairLaw Tryd.underlying87 Tryd.underlying3 rfl rfl HM6.out.tab (y1, y2) rfl HKEY.out HYO.out ?_)
         | (at_mapUpdate; refine wpList_tab_put rfl (.tmp 85) (.tmp 86) (.tmp 88) 87 rfl pairLaw Tryd.underlying87 Tryd.underlying3 rfl HM6.out.tab (by omega) (y1, y2) rfl HKEY.out (nt : Int) rfl (WalkArith.wf_i64 (by omega)) (idxO (s.ts ++ [(y1, y2)])) (fun q hq => by rw [kP_inj hq]; exact HYN.out) (fun q hq => idxO_snoc_other (fun e => hq (by rw [e]))) ?_; intro w7 hT7 hg7; have HM7 := Lib.hid (HM6.out.put hT7 hg7); have HKT7 := Lib.hid (HKT.out.kept hg7 (by intro e; injection e with e; omega)); have d0 := HKT7.out.cell (j := 0) rfl; have d1 := HKT7.out.cell (j := 1) rfl; have hbs7 : w2.heap.size ≤ w7.heap.size := HM7.out.bel.size; clear hT7 hg7 c0 c1)
         | (at_builtin; refine wpList_pushA w7 [.int .i64 y1, .int .i64 y2] rfl (.tmp 89) (.tmp 91) 96 rfl w2.heap.size 97 (.agg #[.int .i64 0, .int .i64 0]) 2 16 Tryd.underlying96 pair_info rfl (by decide) rfl (.slice (some td) nt tc) nt _ rfl HM7.out.prs rfl (fun q hq => by simp at hq; rcases hq with rfl | rfl <;> rfl) (by omega) (by omega) hbs7 ?_; intro A8 c8 w8 ho8 hg8 hl8; have HM8 := Lib.hid (HM7.out.push (x := (y1, y2)) ho8 hg8); have HKT8 := Lib.hid (HKT7.out.kept hg8 (fun e => by have := HOD.out _ e.symm; omega)); clear ho8 hg8 hl8 d0 d1)
         | fail)
        go_upto_region 24 with fail
        refine wp_region_U (fun W => W.cell? ⟨w5.heap.size, 0, none⟩ = some (.int .i64 y1) ∧ W.cell? ⟨w5.heap.size, 1, none⟩ = some (.int .i64 y2) ∧ TabI Tryd.prog 97 3 kP W (o + 1) (nt + 1) (idxO (s.ts ++ [(y1, y2)]))) (fun W => W.cell? ⟨o, 3, none⟩ = some (.slice EA ke ec)) 9 (by kernel_rfl) ?_
        change anyU _ _ _ _ _ _ _ 12 _ _ _
        have HMD := Lib.hid (HM8.out.quiet (below_dr (w8)))
        have KTD := Lib.hid (HKT8.out.below (below_dr (w8)) HKT8.out.lt)
        generalize hwd : (w8).drew = wd at HMD KTD ⊢
        have HWD := Lib.hid hwd; clear hwd
        have hA0 : wd.cell? ⟨w5.heap.size, 0, none⟩ = some (.int .i64 y1) ∧ wd.cell? ⟨w5.heap.size, 1, none⟩ = some (.int .i64 y2) ∧ TabI Tryd.prog 97 3 kP wd (o + 1) (nt + 1) (idxO (s.ts ++ [(y1, y2)])) := ⟨KTD.out.cell (j := 0) rfl, KTD.out.cell (j := 1) rfl, HMD.out.tab⟩
        have hB0 : wd.cell? ⟨o, 3, none⟩ = some (.slice EA ke ec) := HMD.out.var.cell (j := 3) rfl
        have lo := HMD.out.var.lt
        have lt6 := KTD.out.lt
        have hbs : w2.heap.size ≤ wd.heap.size := by have := HMD.out.lt; omega
        (refine uA 0 ?_ rfl hA0 hB0 (fun W hA => ?_) ?_; rotate_left; (· (go_simp; try with_reducible rfl)); (try simp only [Act.put, List.setIfInBounds_toArray, List.set_cons_zero, List.set_cons_succ]))
        (refine uB 1 ?_ rfl hA0 hB0 (fun W hA hB => ?_) ?_; rotate_left; (· (go_simp; try with_reducible rfl)); (try simp only [Act.put, List.setIfInBounds_toArray, List.set_cons_zero, List.set_cons_succ]))
        (refine uA 2 ?_ rfl hA0 hB0 (fun W hA => ?_) ?_; rotate_left; (· (go_simp; try with_reducible rfl)); refine uA 3 ?_ rfl hA0 hB0 (fun W hA => ?_) ?_; rotate_left; (· (go_simp; try with_reducible rfl)); refine uA 4 ?_ rfl hA0 hB0 (fun W hA => ?_) ?_; rotate_left; (· (go_simp; try with_reducible rfl)); (try simp only [Act.put, List.setIfInBounds_toArray, List.set_cons_zero, List.set_cons_succ]))
        (refine uA 5 ?_ rfl hA0 hB0 (fun W hA => ?_) ?_; rotate_left; (· (obtain ⟨g1, g2, _⟩ := hA; go_simp; try with_reducible rfl)); (try simp only [Act.put, List.setIfInBounds_toArray, List.set_cons_zero, List.set_cons_succ]))
        refine uTake (i := 6) (v := .int .i64 ((nt : Int))) rfl (by kernel_rfl) (fun _ _ _ h => h) (by rfl) (fun W hA hB => ?_) ⟨hA0, fun _ => hB0⟩ ?_
        ·exact exec_look rfl (TabI.get_ok (t := 87) hA.2.2 pairLaw Tryd.underlying87 Tryd.underlying3 (zeroInt W) (y1, y2) HKEY.out _ HYN.out)
        (try simp only [Act.put, List.setIfInBounds_toArray, List.set_cons_zero, List.set_cons_succ])
        (refine uA 7 ?_ rfl hA0 hB0 (fun W hA => ?_) ?_; rotate_left; (· (go_simp; try with_reducible rfl)); (try simp only [Act.put, List.setIfInBounds_toArray, List.set_cons_zero, List.set_cons_succ]))
        refine uOne (i := 8) rfl (by kernel_rfl) (fun K hK => ?_)
        go_simp
        have hA1 : (wd.alloc (.cells #[.int .i64 (i : Int), .int .i64 x, .int .i64 ((nt : Int))] 83)).cell? ⟨w5.heap.size, 0, none⟩ = some (.int .i64 y1) ∧ (wd.alloc (.cells #[.int .i64 (i : Int), .int .i64 x, .int .i64 ((nt : Int))] 83)).cell? ⟨w5.heap.size, 1, none⟩ = some (.int .i64 y2) ∧ TabI Tryd.prog 97 3 kP (wd.alloc (.cells #[.int .i64 (i : Int), .int .i64 x, .int .i64 ((nt : Int))] 83)) (o + 1) (nt + 1) (idxO (s.ts ++ [(y1, y2)])) := ⟨(World.cell?_alloc_lt _ _ ⟨w5.heap.size, 0, none⟩ lt6).trans hA0.1, (World.cell?_alloc_lt _ _ ⟨w5.heap.size, 1, none⟩ lt6).trans hA0.2.1, TabI.alloc hA0.2.2 _⟩
        have hB1 : (wd.alloc (.cells #[.int .i64 (i : Int), .int .i64 x, .int .i64 ((nt : Int))] 83)).cell? ⟨o, 3, none⟩ = some (.slice EA ke ec) := (World.cell?_alloc_lt _ _ ⟨o, 3, none⟩ lo).trans hB0
        (refine hK _ _ ⟨hA1, fun _ => hB1⟩ ?_; clear hK K; (try simp only [Act.put, List.setIfInBounds_toArray, List.set_cons_zero, List.set_cons_succ]))
        refine uOne (i := 9) rfl (by kernel_rfl) (fun K hK => ?_)
        refine step_pushN wd [.int .i64 (i : Int), .int .i64 x, .int .i64 ((nt : Int))] (by rfl) (.tmp 94) (.tmp 101) 23 (by rfl) w2.heap.size 83 (.agg #[.int .i64 0, .int .i64 0, .int .i64 0]) 3 24 Tryd.underlying23 edge_info (by rfl) (by decide) (by rfl) (.slice EA ke ec) ke _ (by rfl) HMD.out.edg (by rfl) (fun q hq => by simp at hq; rcases hq with rfl | rfl | rfl <;> rfl) (by omega) (by omega) hbs ?_
        intro A9 c9 w9 ho9 hg9
        have B9 := HMD.out.var.kept hg9 (blk_ne_own HMD.out.edg HMD.out.var (by decide))
        have K9 := KTD.out.kept hg9 (blk_ne_own HMD.out.edg KTD.out (by decide))
        have K10 := K9.kept (grown_setCell w9 o 3 (.slice A9 (ke + 1) c9)) (by intro e; injection e with e; omega)
        have e9 := B9.cell (j := 3) rfl
        have f9 := B9.free 3
        have l9 := B9.lt
        have HM9 := Lib.hid (HMD.out.edge (x := ⟨i, x, (nt : Int)⟩) ho9 hg9)
        have hA2 : w9.cell? ⟨w5.heap.size, 0, none⟩ = some (.int .i64 y1) ∧ w9.cell? ⟨w5.heap.size, 1, none⟩ = some (.int .i64 y2) ∧ TabI Tryd.prog 97 3 kP w9 (o + 1) (nt + 1) (idxO (s.ts ++ [(y1, y2)])) := ⟨K9.cell (j := 0) rfl, K9.cell (j := 1) rfl, HMD.out.tab.kept hg9 (tab_ne_own' HMD.out.tab HMD.out.edg)⟩
        have hA3 : (w9.setCell ⟨o, 3, none⟩ (.slice A9 (ke + 1) c9)).cell? ⟨w5.heap.size, 0, none⟩ = some (.int .i64 y1) ∧ (w9.setCell ⟨o, 3, none⟩ (.slice A9 (ke + 1) c9)).cell? ⟨w5.heap.size, 1, none⟩ = some (.int .i64 y2) ∧ TabI Tryd.prog 97 3 kP (w9.setCell ⟨o, 3, none⟩ (.slice A9 (ke + 1) c9)) (o + 1) (nt + 1) (idxO (s.ts ++ [(y1, y2)])) := ⟨K10.cell (j := 0) rfl, K10.cell (j := 1) rfl, HM9.out.tab⟩
        clear B9 K9 K10 ho9 hg9 hA1 hB1 hA0 hB0 HMD KTD lo lt6 hbs
        (refine hK _ _ ⟨hA2, fun h => absurd (h.symm.trans (by kernel_rfl : _ = true)) Bool.false_ne_true⟩ ?_; clear hK K; (try simp only [Act.put, List.setIfInBounds_toArray, List.set_cons_zero, List.set_cons_succ]))
        refine uOne (i := 10) rfl (by kernel_rfl) (fun K hK => ?_)
        go_simp
        (refine hK _ _ ⟨hA2, fun h => absurd (h.symm.trans (by kernel_rfl : _ = true)) Bool.false_ne_true⟩ ?_; clear hK K; (try simp only [Act.put, List.setIfInBounds_toArray, List.set_cons_zero, List.set_cons_succ]))
        refine uOne (i := 11) rfl (by kernel_rfl) (fun K hK => ?_)
        go_simp
        (refine hK _ _ ⟨hA3, fun h => absurd (h.symm.trans (by kernel_rfl : _ = true)) Bool.false_ne_true⟩ ?_; clear hK K; (try simp only [Act.put, List.setIfInBounds_toArray, List.set_cons_zero, List.set_cons_succ]))
        refine anyU_done (by kernel_rfl) ?_ _
        clear e9 f9 l9 hA2 hA3
        go_wp2
        go_roundw
        case rel => exact ⟨k + 1, (nt + 1), ke + 1, _, _, ⟨s.ts ++ [(y1, y2)], s.es ++ [⟨i, x, (nt : Int)⟩]⟩, by go_num, rfl, by omega, by omega, by omega, by omega, HM9, HE⟩
        case measure => simp [intOf]; omega
       ·have HE := Lib.hid (HS2.out _ HNE.out (by first | exact hi0 | omega))
        obtain ⟨yv, hyv⟩ : ∃ v, idx s.ts (y1, y2) = v := ⟨_, rfl⟩
        have HYO := Lib.hid (show idxO s.ts (y1, y2) = some yv by unfold idxO; rw [if_neg hi0, hyv])
        rw [hyv] at HE
        clear hi0 hyv
        go_upto_region 24 with (first
         | (at_lookup; refine wpList_tab_hit rfl (.tmp 74) (.tmp 75) 87 rfl pairLaw Tryd.underlying87 Tryd.underlying3 rfl rfl HM6.out.tab (y1, y2) rfl HKEY.out yv HYO.out ?_)
         | fail)
        clear c0 c1
        go_upto_region 24 with fail
        refine wp_region_U (fun W => W.cell? ⟨w5.heap.size, 0, none⟩ = some (.int .i64 y1) ∧ W.cell? ⟨w5.heap.size, 1, none⟩ = some (.int .i64 y2) ∧ TabI Tryd.prog 97 3 kP W (o + 1) nt (idxO s.ts)) (fun W => W.cell? ⟨o, 3, none⟩ = some (.slice EA ke ec)) 9 (by kernel_rfl) ?_
        change anyU _ _ _ _ _ _ _ 12 _ _ _
        have HMD := Lib.hid (HM6.out.quiet (below_dr ((w5.alloc (.cells #[.int .i64 y1, .int .i64 y2] 97)))))
        have KTD := Lib.hid (HKT.out.below (below_dr ((w5.alloc (.cells #[.int .i64 y1, .int .i64 y2] 97)))) HKT.out.lt)
        generalize hwd : ((w5.alloc (.cells #[.int .i64 y1, .int .i64 y2] 97))).drew = wd at HMD KTD ⊢
        have HWD := Lib.hid hwd; clear hwd
        have hA0 : wd.cell? ⟨w5.heap.size, 0, none⟩ = some (.int .i64 y1) ∧ wd.cell? ⟨w5.heap.size, 1, none⟩ = some (.int .i64 y2) ∧ TabI Tryd.prog 97 3 kP wd (o + 1) nt (idxO s.ts) := ⟨KTD.out.cell (j := 0) rfl, KTD.out.cell (j := 1) rfl, HMD.out.tab⟩
        have hB0 : wd.cell? ⟨o, 3, none⟩ = some (.slice EA ke ec) := HMD.out.var.cell (j := 3) rfl
        have lo := HMD.out.var.lt
        have lt6 := KTD.out.lt
        have hbs : w2.heap.size ≤ wd.heap.size := by have := HMD.out.lt; omega
        (refine uA 0 ?_ rfl hA0 hB0 (fun W hA => ?_) ?_; rotate_left; (· (go_simp; try with_reducible rfl)); (try simp only [Act.put, List.setIfInBounds_toArray, List.set_cons_zero, List.set_cons_succ]))
        (refine uB 1 ?_ rfl hA0 hB0 (fun W hA hB => ?_) ?_; rotate_left; (· (go_simp; try with_reducible rfl)); (try simp only [Act.put, List.setIfInBounds_toArray, List.set_cons_zero, List.set_cons_succ]))
        (refine uA 2 ?_ rfl hA0 hB0 (fun W hA => ?_) ?_; rotate_left; (· (go_simp; try with_reducible rfl)); refine uA 3 ?_ rfl hA0 hB0 (fun W hA => ?_) ?_; rotate_left; (· (go_simp; try with_reducible rfl)); refine uA 4 ?_ rfl hA0 hB0 (fun W hA => ?_) ?_; rotate_left; (· (go_simp; try with_reducible rfl)); (try simp only [Act.put, List.setIfInBounds_toArray, List.set_cons_zero, List.set_cons_succ]))
        (refine uA 5 ?_ rfl hA0 hB0 (fun W hA => ?_) ?_; rotate_left; (· (obtain ⟨g1, g2, _⟩ := hA; go_simp; try with_reducible rfl)); (try simp only [Act.put, List.setIfInBounds_toArray, List.set_cons_zero, List.set_cons_succ]))
        refine uTake (i := 6) (v := .int .i64 (yv)) rfl (by kernel_rfl) (fun _ _ _ h => h) (by rfl) (fun W hA hB => ?_) ⟨hA0, fun _ => hB0⟩ ?_
        ·exact exec_look rfl (TabI.get_ok (t := 87) hA.2.2 pairLaw Tryd.underlying87 Tryd.underlying3 (zeroInt W) (y1, y2) HKEY.out _ HYO.out)
        (try simp only [Act.put, List.setIfInBounds_toArray, List.set_cons_zero, List.set_cons_succ])
        (refine uA 7 ?_ rfl hA0 hB0 (fun W hA => ?_) ?_; rotate_left; (· (go_simp; try with_reducible rfl)); (try simp only [Act.put, List.setIfInBounds_toArray, List.set_cons_zero, List.set_cons_succ]))
        refine uOne (i := 8) rfl (by kernel_rfl) (fun K hK => ?_)
        go_simp
        have hA1 : (wd.alloc (.cells #[.int .i64 (i : Int), .int .i64 x, .int .i64 (yv)] 83)).cell? ⟨w5.heap.size, 0, none⟩ = some (.int .i64 y1) ∧ (wd.alloc (.cells #[.int .i64 (i : Int), .int .i64 x, .int .i64 (yv)] 83)).cell? ⟨w5.heap.size, 1, none⟩ = some (.int .i64 y2) ∧ TabI Tryd.prog 97 3 kP (wd.alloc (.cells #[.int .i64 (i : Int), .int .i64 x, .int .i64 (yv)] 83)) (o + 1) nt (idxO s.ts) := ⟨(World.cell?_alloc_lt _ _ ⟨w5.heap.size, 0, none⟩ lt6).trans hA0.1, (World.cell?_alloc_lt _ _ ⟨w5.heap.size, 1, none⟩ lt6).trans hA0.2.1, TabI.alloc hA0.2.2 _⟩
        have hB1 : (wd.alloc (.cells #[.int .i64 (i : Int), .int .i64 x, .int .i64 (yv)] 83)).cell? ⟨o, 3, none⟩ = some (.slice EA ke ec) := (World.cell?_alloc_lt _ _ ⟨o, 3, none⟩ lo).trans hB0
        (refine hK _ _ ⟨hA1, fun _ => hB1⟩ ?_; clear hK K; (try simp only [Act.put, List.setIfInBounds_toArray, List.set_cons_zero, List.set_cons_succ]))
        refine uOne (i := 9) rfl (by kernel_rfl) (fun K hK => ?_)
        refine step_pushN wd [.int .i64 (i : Int), .int .i64 x, .int .i64 (yv)] (by rfl) (.tmp 94) (.tmp 101) 23 (by rfl) w2.heap.size 83 (.agg #[.int .i64 0, .int .i64 0, .int .i64 0]) 3 24 Tryd.underlying23 edge_info (by rfl) (by decide) (by rfl) (.slice EA ke ec) ke _ (by rfl) HMD.out.edg (by rfl) (fun q hq => by simp at hq; rcases hq with rfl | rfl | rfl <;> rfl) (by omega) (by omega) hbs ?_
        intro A9 c9 w9 ho9 hg9
        have B9 := HMD.out.var.kept hg9 (blk_ne_own HMD.out.edg HMD.out.var (by decide))
        have K9 := KTD.out.kept hg9 (blk_ne_own HMD.out.edg KTD.out (by decide))
        have K10 := K9.kept (grown_setCell w9 o 3 (.slice A9 (ke + 1) c9)) (by intro e; injection e with e; omega)
        have e9 := B9.cell (j := 3) rfl
        have f9 := B9.free 3
        have l9 := B9.lt
        have HM9 := Lib.hid (HMD.out.edge (x := ⟨i, x, yv⟩) ho9 hg9)
        have hA2 : w9.cell? ⟨w5.heap.size, 0, none⟩ = some (.int .i64 y1) ∧ w9.cell? ⟨w5.heap.size, 1, none⟩ = some (.int .i64 y2) ∧ TabI Tryd.prog 97 3 kP w9 (o + 1) nt (idxO s.ts) := ⟨K9.cell (j := 0) rfl, K9.cell (j := 1) rfl, HMD.out.tab.kept hg9 (tab_ne_own' HMD.out.tab HMD.out.edg)⟩
        have hA3 : (w9.setCell ⟨o, 3, none⟩ (.slice A9 (ke + 1) c9)).cell? ⟨w5.heap.size, 0, none⟩ = some (.int .i64 y1) ∧ (w9.setCell ⟨o, 3, none⟩ (.slice A9 (ke + 1) c9)).cell? ⟨w5.heap.size, 1, none⟩ = some (.int .i64 y2) ∧ TabI Tryd.prog 97 3 kP (w9.setCell ⟨o, 3, none⟩ (.slice A9 (ke + 1) c9)) (o + 1) nt (idxO s.ts) := ⟨K10.cell (j := 0) rfl, K10.cell (j := 1) rfl, HM9.out.tab⟩
        clear B9 K9 K10 ho9 hg9 hA1 hB1 hA0 hB0 HMD KTD lo lt6 hbs
        (refine hK _ _ ⟨hA2, fun h => absurd (h.symm.trans (by kernel_rfl : _ = true)) Bool.false_ne_true⟩ ?_; clear hK K; (try simp only [Act.put, List.setIfInBounds_toArray, List.set_cons_zero, List.set_cons_succ]))
        refine uOne (i := 10) rfl (by kernel_rfl) (fun K hK => ?_)
        go_simp
        (refine hK _ _ ⟨hA2, fun h => absurd (h.symm.trans (by kernel_rfl : _ = true)) Bool.false_ne_true⟩ ?_; clear hK K; (try simp only [Act.put, List.setIfInBounds_toArray, List.set_cons_zero, List.set_cons_succ]))
        refine uOne (i := 11) rfl (by kernel_rfl) (fun K hK => ?_)
        go_simp
        (refine hK _ _ ⟨hA3, fun h => absurd (h.symm.trans (by kernel_rfl : _ = true)) Bool.false_ne_true⟩ ?_; clear hK K; (try simp only [Act.put, List.setIfInBounds_toArray, List.set_cons_zero, List.set_cons_succ]))
        refine anyU_done (by kernel_rfl) ?_ _
        clear e9 f9 l9 hA2 hA3
        go_wp2
        go_roundw
        case rel => exact ⟨k + 1, nt, ke + 1, _, _, ⟨s.ts, s.es ++ [⟨i, x, yv⟩]⟩, by go_num, rfl, by omega, by omega, by omega, by omega, HM9, HE⟩
        case measure => simp [intOf]; omega
     ·obtain rfl : k = na := by omega
      obtain ⟨hB1, hF1⟩ := HMI.out.done (by rw [HX2.out.la]; exact Nat.le_refl _)
      have HL1 := Lib.hid (show LoopI P R (intS u P.al) (i + 1) s RES from .inr ⟨hB1, HBF.out s hF1⟩)
      have HZ1 := Lib.hid (show n = 0 → s.ts = [] from fun h => absurd h HN0.out)
      clear hB1 hF1
      go_wp2
      go_roundw
      case rel => exact ⟨i + 1, nt, ke, _, _, s, by go_num, rfl, hint, hnt, by omega, HM, HL1, HZ1⟩
      case measure => simp [intOf]; omega
   ·obtain rfl : i = nt := by omega
    have hend := HL.out.end_ (by rw [HM.out.tn]; omega)
    have HIN := Lib.hid (show infA P R (intS u P.al) p = ⟨P.al, (i : Int), rngI (i : Int), s.es⟩ by rw [HINF.out s hend, HM.out.tn])
    have hlt2 := HM.out.lt
    have hkr := KR2.out.below HM.out.bel KR2.out.lt
    have hl2 := KR2.out.lt
    have hV0 : VarO w.heap.size (w.heap.size + 1 + 1) o w wo V na cv none 0 0 EA ke ec ⟨P.al, 0, [], s.es⟩ := ⟨HB.out.trans (HM.out.bel.mono HB.out.size), hkr, HM.out.var, ⟨HX2.out.la, own_base HM.out.alo (by omega), rfl, World.ownsRow_nil _ _ _ _, HM.out.edl, own_base HM.out.edg (by omega)⟩, by omega, by omega⟩
    have HALL := Lib.hid (ctl_all i wo (by omega))
    have HV0 := Lib.hid hV0
    clear hend hkr hlt2 hV0 k0
    go_wp2_with fail
    refine HALL.out.mono ?_
    rintro e wd ⟨vd, rfl, hod, hbd⟩
    obtain ⟨MD, cD, rfl⟩ := own_shape hod
    rw [rngI_lenN] at hod ⊢
    have hV2 := HV0.out.quiet hbd
    have f1 := hV2.var.free 1
    have f2 := hV2.var.free 2
    have l2 := hV2.var.lt
    have g1 := hV2.var.cell (j := 1) rfl
    have g2 := hV2.var.cell (j := 2) rfl
    have hrb := HV0.out.res.lt
    have hV3 := (hV2.stt (i : Int)).mark (own_base (base := w.heap.size + 1 + 1 + 1) (hod.kept (grown_setCell wd o 1 (.int .i64 (i : Int))) (own_ne_blk hod hV2.var (by decide))) (by omega)) (rngI_lenN i)
    have hfin := hV3.fin
    clear HALL HV0 hbd hod hrb
    go_upto_region 27 with fail
    clear f1 f2 l2 g1 g2 hV2
    generalize (wd.setCell ⟨o, 1, none⟩ (.int .i64 (i : Int))).setCell ⟨o, 2, none⟩ (.slice MD i cD) = we at hV3 hfin ⊢
    have o0 := hV3.var.cell (j := 0) rfl
    have o1 := hV3.var.cell (j := 1) rfl
    have o2 := hV3.var.cell (j := 2) rfl
    have o3 := hV3.var.cell (j := 3) rfl
    have f0 := hV3.res.free 0
    have f1 := hV3.res.free 1
    have f2 := hV3.res.free 2
    have f3 := hV3.res.free 3
    have e0 := hV3.res.cell (j := 0) rfl
    have e1 := hV3.res.cell (j := 1) rfl
    have e2 := hV3.res.cell (j := 2) rfl
    have e3 := hV3.res.cell (j := 3) rfl
    have l9 : w.heap.size + 1 + 1 < we.heap.size := hV3.res.lt
    have HFIN := Lib.hid hfin; clear hfin
    clear hV3
    go_wp2
    obtain ⟨r1, r2, r3⟩ := HFIN.out
    have z0 := r1.cell (j := 0) rfl
    have z1 := r1.cell (j := 1) rfl
    have z2 := r1.cell (j := 2) rfl
    have z3 := r1.cell (j := 3) rfl
    refine bodyPost_ret (v := .tuple #[.agg #[.slice V na cv, .int .i64 (i : Int), .slice MD i cD, .slice EA ke ec], .int .i64 0]) (by simp [results, Tryd.results17, go_sem, z0, z1, z2, z3]) rfl ?_
    rw [HIN.out]
    exact ⟨V, na, cv, MD, i, cD, EA, ke, ec, rfl, r2, r3⟩
end Go.Proofs.YtcchnibgehonoaaDoor
