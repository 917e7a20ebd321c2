/- Walks: diagnosability.Twin: the twin plant of a class of faults. -/
import Derived.Test.YtddhaidimadliaaJg
import Derived.WideKeyEntry
namespace Go.Proofs.Ytddhaidimadliaa
open Go.RowKit Go Go.Maps

section
variable {C i : Nat} {s s' : Bs TwS} {p : Int × TwS}
/-- one move, all moves of a pair -/
def bsA (C i : Nat) (s : Bs TwS) (p : Int × TwS) : Option (Bs TwS) :=
 if idx s.ts p.2 < 0 then (if s.ts.length = C then none else some ⟨s.ts ++ [p.2], s.es ++ [⟨i, p.1, s.ts.length⟩]⟩) else some ⟨s.ts, s.es ++ [⟨i, p.1, idx s.ts p.2⟩]⟩
def bsL (C i : Nat) : List (Int × TwS) → Bs TwS → Option (Bs TwS)
 | [], s => some s
 | p :: r, s => match bsA C i s p with
  | none => none
  | some s' => bsL C i r s'
theorem bsF_L (st : TwS → Int → Option TwS) (t : TwS) : ∀ (V : List Int) (s : Bs TwS), bsF C st i t V s = bsL C i (V.filterMap fun v => (st t v).map fun u => (v, u)) s
 | [], s => rfl
 | v :: V, s => by
  rw [bsF, List.filterMap_cons]
  unfold bsE
  cases hv : st t v with
  | none => exact bsF_L st t V s
  | some u =>
   simp only [Option.map_some, bsL, bsA]
   by_cases h1 : idx s.ts u < 0
   ·rw [if_pos h1]
    by_cases h2 : s.ts.length = C
    ·rw [if_pos h2]
    ·rw [if_neg h2]; exact bsF_L st t V _
   ·rw [if_neg h1]; exact bsF_L st t V _
/-- what is still to be done: the rest of a pair's moves, then the pairs behind it -/
def bsM (st : TwS → Int → Option TwS) (V : List Int) (C i : Nat) (r : List (Int × TwS)) (s : Bs TwS) : Option (Bs TwS) :=
 match bsL C i r s with
 | none => none
 | some s' => bsR C st V (C - i) (i + 1) s'
theorem bsM_nil {st : TwS → Int → Option TwS} {V : List Int} : bsM st V C i [] s = bsR C st V (C - i) (i + 1) s := rfl
theorem bsR_M {st : TwS → Int → Option TwS} {V : List Int} {t : TwS} (ht : s.ts[i]? = some t) (hi : i ≤ C) : bsR C st V (C + 1 - i) i s = bsM st V C i (V.filterMap fun v => (st t v).map fun u => (v, u)) s := by
 rw [show C + 1 - i = C - i + 1 by omega, bsR, ht]
 unfold bsM
 rw [← bsF_L st t V s]
 dsimp only
 cases bsF C st i t V s with
 | none => rfl
 | some s' => rfl
theorem bsM_cons {st : TwS → Int → Option TwS} {V : List Int} {r : List (Int × TwS)} (h : bsA C i s p = some s') : bsM st V C i (p :: r) s = bsM st V C i r s' := by
 unfold bsM
 rw [bsL, h]
theorem bsM_stop {st : TwS → Int → Option TwS} {V : List Int} {r : List (Int × TwS)} (h : bsA C i s p = none) : bsM st V C i (p :: r) s = none := by
 unfold bsM
 rw [bsL, h]
theorem bsM_new {st : TwS → Int → Option TwS} {V : List Int} {r : List (Int × TwS)} {R : Bs TwS} (h : bsM st V C i (p :: r) s = some R) (hi : idx s.ts p.2 < 0) (hl : s.ts.length ≤ C) :
  s.ts.length < C ∧ bsM st V C i r ⟨s.ts ++ [p.2], s.es ++ [⟨i, p.1, s.ts.length⟩]⟩ = some R := by
 by_cases hC : s.ts.length = C
 ·rw [bsM_stop (by unfold bsA; rw [if_pos hi, if_pos hC])] at h; cases h
 ·exact ⟨by omega, by rw [← bsM_cons (by unfold bsA; rw [if_pos hi, if_neg hC])]; exact h⟩
theorem bsM_old {st : TwS → Int → Option TwS} {V : List Int} {r : List (Int × TwS)} {R : Bs TwS} (h : bsM st V C i (p :: r) s = some R) (hi : ¬ idx s.ts p.2 < 0) :
  bsM st V C i r ⟨s.ts, s.es ++ [⟨i, p.1, idx s.ts p.2⟩]⟩ = some R := by
 rw [← bsM_cons (by unfold bsA; rw [if_neg hi])]; exact h
end
theorem mvX_len (m : Dm) (c : Int) (t : TwS) (x : Int) : (mvX m c t x).length ≤ 2 := by
 unfold mvX
 refine Nat.le_trans (List.length_filterMap_le _ _) ?_
 split <;> simp
theorem mvP_len (m : Dm) (c : Int) (t : TwS) : ∀ l : List Int, (mvP m c t l).length ≤ 2 * l.length
 | [] => by simp [mvP]
 | x :: l => by
  have h1 := mvX_len m c t x
  have h2 := mvP_len m c t l
  unfold mvP at h2 ⊢
  rw [List.flatMap_cons, List.length_append, List.length_cons]
  omega
theorem mvP_rng {m : Dm} {c : Int} {t : TwS} (hw : WF m.a) (hr : TwR m t) {p : Int × TwS} (hp : p ∈ mvP m c t m.a.al) : TwR m p.2 ∧ p.1 ∈ twV m := by
 rw [mvP_all, List.mem_filterMap] at hp
 obtain ⟨v, hv, h⟩ := hp
 cases hs : twS m c t v with
 | none => rw [hs] at h; cases h
 | some u =>
  rw [hs] at h
  simp only [Option.map_some, Option.some.injEq] at h
  subst h
  exact ⟨twS_rng hw hs hr, hv⟩

/-- keys of pairs -/
def kT (t : TwS) : Value := .agg #[.int .i64 t.1, .bool t.2.1, .int .i64 t.2.2]
def prC (t : TwS) : List Value := [.int .i64 t.1, .bool t.2.1, .int .i64 t.2.2]
theorem kT_inj {t u : TwS} (h : kT t = kT u) : t = u := by
 obtain ⟨a, b, c⟩ := t
 obtain ⟨d, e, f⟩ := u
 unfold kT at h
 simp only [Value.agg.injEq, Array.mk.injEq, List.cons.injEq, Value.int.injEq, Value.bool.injEq, true_and, and_true] at h
 obtain ⟨rfl, rfl, rfl⟩ := h
 rfl
theorem twLawK : WideMaps.KeyLaw Try.prog 59 := deep_law_laid laidOut (m := 2) (by omega) (of_decide_eq_true (by kernel_rfl)) (by kernel_rfl) (by rw [Try.underlying59])
theorem twLaw : Keyed Try.prog 59 := Keyed.of_law twLawK
theorem key3_any {P : Program} {t i b : TypeId} {f1 f2 f3 : Field} (ht : P.underlying t = some (.struct #[f1, f2, f3])) (e1 : f1.type = i) (e2 : f2.type = b) (e3 : f3.type = i) (o1 : f1.offset = 0) (o2 : f2.offset = 1) (o3 : f3.offset = 2) (hi : P.underlying i = some (.int .i64)) (hb : P.underlying b = some .bool) (hc : P.cellsOf t = 3) (hci : P.cellsOf i = 1) (hcb : P.cellsOf b = 1) (hk : P.keyTypeAt (P.types.size + 1) t = true) (w : World) (u : TwS) (h1 : (Lit.int .i64 u.1).wf = true) (h2 : (Lit.int .i64 u.2.2).wf = true) : ∃ kl, keyOf P t (kT u) = some kl := by
 have hd : DataW.Trod (H := Unit) (fun _ => ()) P w 0 (fun _ => true) true t (kT u) (.agg [.lit (.int .i64 u.1), .lit (.bool u.2.1), .lit (.int .i64 u.2.2)]) [] := by
  refine ⟨2, ?_⟩
  simp [DataW.trod, kT, Value.cells, ht, e1, e2, e3, o1, o2, o3, hi, hb, hc, hci, hcb, h1, h2]
 exact ⟨_, (keyOf_asKey hk (by rw [ht]) (by simp [Value.formed, kT, ht, hc]) hd).1⟩
set_option maxRecDepth 100000 in
theorem twKey (w : World) (u : TwS) (h1 : (Lit.int .i64 u.1).wf = true) (h2 : (Lit.int .i64 u.2.2).wf = true) : ∃ kl, keyOf Try.prog 59 (kT u) = some kl :=
 key3_any Try.underlying59 rfl rfl rfl rfl rfl rfl Try.underlying3 Try.underlying4 (by kernel_rfl) intCells (by kernel_rfl) (by kernel_rfl) w u h1 h2
/-- Twin's memory: the pairs and the moves so far, a row of moves and one of pairs out of 'moves', the map -/
structure TwN (B o : Nat) (w0 w : World) (tv mv pv lv : Value) (nt nm ke n : Nat) (tk ts : List TwS) (es : List Ed) (L : List (Int × TwS)) : Prop where
 prs : TwoG B w0 w 59 59 3 3 tv pv nt n (ts.flatMap prC) (prCs L)
 mvs : TwoG B w0 w 62 62 4 4 mv lv ke n (es.flatMap mvc) (mvCs L)
 tn : ts.length = nt
 en : es.length = ke
 tab : TabI Try.prog 59 3 kT w o nm (idxO tk)
section
variable {B o : Nat} {w0 w w' : World} {tv mv pv lv : Value} {nt nm ke n : Nat} {tk ts : List TwS} {es : List Ed} {L : List (Int × TwS)}
theorem TwoG.other {e1 e2 e : TypeId} {s1 s2 s : Nat} {v1 v2 v : Value} {n1 n2 m : Nat} {l1 l2 l : List Value} (h : TwoG B w0 w e1 e2 s1 s2 v1 v2 n1 n2 l1 l2) (ho : w.ownsRow B e s v m l) (h1 : e1 ≠ e) (h2 : e2 ≠ e) (hg : w.grownBy w' v.ownBlock) : TwoG B w0 w' e1 e2 s1 s2 v1 v2 n1 n2 l1 l2 :=
 ⟨h.bel.grown hg h.siz (fun j hj => (ho.lt j hj).1), Nat.le_trans h.siz hg.size, own_kept_ne h.o1 ho h1 hg, own_kept_ne h.o2 ho h2 hg, h.apt⟩
theorem TwoG.map {e1 e2 : TypeId} {s1 s2 : Nat} {v1 v2 : Value} {n1 n2 : Nat} {l1 l2 : List Value} (h : TwoG B w0 w e1 e2 s1 s2 v1 v2 n1 n2 l1 l2) {P : Program} {K E : TypeId} {α : Type} {key : α → Value} {m : Nat} {g : α → Option Int} (ht : TabI P K E key w o m g) (hB : B ≤ o) (hg : w.grownBy w' (some o)) : TwoG B w0 w' e1 e2 s1 s2 v1 v2 n1 n2 l1 l2 := by
 have kp : ∀ {base : Nat} {e : TypeId} {size n : Nat} {v : Value} {zs : List Value}, w.ownsRow base e size v n zs → w'.ownsRow base e size v n zs := fun {base e size n v zs} hz => hz.kept hg (.inr (fun e0 => tab_ne_own' ht hz e0.symm))
 exact ⟨h.bel.grown hg h.siz (fun j hj => by injection hj with hj; omega), Nat.le_trans h.siz hg.size, kp h.o1, kp h.o2, h.apt⟩
theorem TwN.bel (h : TwN B o w0 w tv mv pv lv nt nm ke n tk ts es L) : Below B w0 w := h.prs.bel
theorem TwN.quiet (h : TwN B o w0 w tv mv pv lv nt nm ke n tk ts es L) (hb : Below w.heap.size w w') : TwN B o w0 w' tv mv pv lv nt nm ke n tk ts es L :=
 ⟨h.prs.quiet hb, h.mvs.quiet hb, h.tn, h.en, TabI.below h.tab hb (TabI.lt h.tab)⟩
theorem TwN.put (h : TwN B o w0 w tv mv pv lv nt nm ke n tk ts es L) (hB : B ≤ o) {tk' : List TwS} (ht : TabI Try.prog 59 3 kT w' o (nm + 1) (idxO tk')) (hg : w.grownBy w' (some o)) :
  TwN B o w0 w' tv mv pv lv nt (nm + 1) ke n tk' ts es L := ⟨h.prs.map h.tab hB hg, h.mvs.map h.tab hB hg, h.tn, h.en, ht⟩
theorem TwN.push (h : TwN B o w0 w tv mv pv lv nt nm ke n tk ts es L) {A : Option Addr} {c : Nat} {x : TwS} (ho : w'.ownsRow B 59 3 (.slice A (nt + 1) c) (nt + 1) (ts.flatMap prC ++ prC x)) (hg : w.grownBy w' tv.ownBlock)
  (hl : (Value.slice A (nt + 1) c).ownBlock = tv.ownBlock ∨ ∃ g, (Value.slice A (nt + 1) c).ownBlock = some g ∧ w.heap.size ≤ g) : TwN B o w0 w' (.slice A (nt + 1) c) mv pv lv (nt + 1) nm ke n tk (ts ++ [x]) es L :=
 ⟨by rw [List.flatMap_append]; simpa using h.prs.push ho hg hl, h.mvs.other h.prs.o1 (by decide) (by decide) hg, by simp [h.tn], h.en, h.tab.kept hg (tab_ne_own' h.tab h.prs.o1)⟩
theorem TwN.move (h : TwN B o w0 w tv mv pv lv nt nm ke n tk ts es L) {A : Option Addr} {c : Nat} {x : Ed} (ho : w'.ownsRow B 62 4 (.slice A (ke + 1) c) (ke + 1) (es.flatMap mvc ++ mvc x)) (hg : w.grownBy w' mv.ownBlock)
  (hl : (Value.slice A (ke + 1) c).ownBlock = mv.ownBlock ∨ ∃ g, (Value.slice A (ke + 1) c).ownBlock = some g ∧ w.heap.size ≤ g) : TwN B o w0 w' tv (.slice A (ke + 1) c) pv lv nt nm (ke + 1) n tk ts (es ++ [x]) L :=
 ⟨h.prs.other h.mvs.o1 (by decide) (by decide) hg, by rw [List.flatMap_append]; simpa using h.mvs.push ho hg hl, h.tn, by simp [h.en], h.tab.kept hg (tab_ne_own' h.tab h.mvs.o1)⟩
theorem TwN.rows (h : TwN B o w0 w tv mv pv lv nt nm ke n tk ts es L) {pv' lv' : Value} {n' : Nat} {L' : List (Int × TwS)} (h1 : w.ownsRow B 59 3 pv' n' (prCs L')) (h2 : w.ownsRow B 62 4 lv' n' (mvCs L'))
  (a1 : ∀ g, tv.ownBlock = some g → pv'.ownBlock ≠ some g) (a2 : ∀ g, mv.ownBlock = some g → lv'.ownBlock ≠ some g) : TwN B o w0 w tv mv pv' lv' nt nm ke n' tk ts es L' :=
 ⟨⟨h.prs.bel, h.prs.siz, h.prs.o1, h1, a1⟩, ⟨h.mvs.bel, h.mvs.siz, h.mvs.o1, h2, a2⟩, h.tn, h.en, h.tab⟩
end
theorem grown_setBlock (w : World) (b : Nat) (o : Obj) : w.grownBy (ChangeMaps.setBlock w b o) (some b) :=
 ⟨rfl, rfl, rfl, by simp [ChangeMaps.setBlock], fun k _ hne => by
  have : b ≠ k := fun e => hne (by rw [e])
  simp [ChangeMaps.setBlock, this]⟩
theorem heap_setBlock {w : World} {b : Nat} (h : b < w.heap.size) (o : Obj) : (ChangeMaps.setBlock w b o).heap[b]? = some o := by
 simp [ChangeMaps.setBlock, h]
/-- m[k] = v in two steps: the entry, then what is stored there -/
theorem tab_entry {α : Type} {P : Program} {K E t : TypeId} {key : α → Value} {w : World} {b n : Nat} {g : α → Option Int} (h : TabI P K E key w b n g) (KL : WideMaps.KeyLaw P K) (ht : P.underlying t = some (.map K E)) (he : P.underlying E = some (.int .i64))
  {z : Value} (hz : ∀ u : World, (zeroValue E).run P u = .ok z u) (hn : n ≤ 1000000000) (c : α) (hk : ∃ kl, keyOf P K (key c) = some kl) (y : Int) (hw : (Lit.int .i64 y).wf = true)
  (g' : α → Option Int) (hg1 : ∀ d, key d = key c → g' d = some y) (hg2 : ∀ d, key d ≠ key c → g' d = g d) :
  ∃ (v0 : Value) (st : Nat) (w1 : World), (Instr.mapEntry t (.map (some b)) (key c)).run P w = .ok (.tuple #[v0, goInt st]) w1 ∧ w.grownBy w1 (some b) ∧
   ∀ w2 : World, w2.heap[b]? = w1.heap[b]? → b < w2.heap.size → ∃ w3, (Instr.entryStore t (.map (some b)) (goInt st) (.int .i64 y)).run P w2 = .ok () w3 ∧ TabI P K E key w3 b (n + 1) g' ∧ w2.grownBy w3 (some b) := by
 obtain ⟨D, h1, h2⟩ := h
 have h1' := h1
 obtain ⟨es, clock, hb, F, hsz, hD⟩ := h1'
 obtain ⟨kl, hkl⟩ := hk
 obtain ⟨v0, st, es1, clock1, r1, _, r2⟩ := WideElems.entry_then_store KL ht hz hb F hkl
 have hlt : b < w.heap.size := (Array.getElem?_eq_some_iff.1 hb).1
 refine ⟨v0, st, _, r1, grown_setBlock _ _ _, fun w2 e2 hlt2 => ?_⟩
 rw [heap_setBlock hlt] at e2
 obtain ⟨es', clock', s1, s2⟩ := r2 w2 (.int .i64 y) e2
 obtain ⟨w', hrun, q1, q2⟩ := h1.update (Keyed.of_law KL) ht (by unfold maxLen; omega) hkl (plainElem_int (H := Unit) he hw)
 refine ⟨_, s1, ?_, grown_setBlock _ _ _⟩
 have hw' : ChangeMaps.setBlock w b (.map es' clock') = w' := by
  rw [s2] at hrun
  injection hrun
 have hT : TabI P K E key w' b (n + 1) g' := by
  refine ⟨_, q1, fun d kd hkd => ?_⟩
  by_cases hd : key d = key c
  ·have : kd = kl := by rw [hd, hkl] at hkd; injection hkd with e; exact e.symm
   subst this
   rw [hg1 d hd]
   exact ⟨Maps.has_put_same h1.isMap ((Keyed.of_law KL).key hkl) _, fun z hz => by injection hz with hz; subst hz; exact Maps.atKey_put_same h1.isMap ((Keyed.of_law KL).key hkl) _ _⟩
  ·have hne : kd ≠ kl := fun e => hd ((Keyed.of_law KL).inj (by rw [← e]; exact hkd) hkl)
   rw [hg2 d hd, Maps.has_put_other hne, Maps.atKey_put_other hne]
   exact h2 d kd hkd
 refine hT.block ?_
 rw [heap_setBlock hlt2, ← hw', heap_setBlock hlt]
theorem TwN.start {w w6 : World} (hT : TabI Try.prog 59 3 kT w6 (w.heap.size + 1) 1 (idxO [(0, false, 0)])) (hg : ((w.alloc (.cells #[.int .i64 0, .bool false, .int .i64 0] 59)).alloc (.map #[] 0)).grownBy w6 (some (w.heap.size + 1))) :
  TwN w.heap.size (w.heap.size + 1) w w6 (.slice (some ⟨w.heap.size, 0, none⟩) 1 1) (.slice none 0 0) (.slice none 0 0) (.slice none 0 0) 1 1 0 0 [(0, false, 0)] [(0, false, 0)] [] [] := by
 have h1 := (own_lit3 w w.heap.size (Nat.le_refl _) (.int .i64 0) (.bool false) (.int .i64 0) 59).alloc (.map #[] 0)
 have hb : Below w.heap.size w w6 := ((((Below.refl _ _).alloc (Nat.le_refl _) _).alloc (by simp) _)).grown hg (by simp; omega) (fun j hj => by injection hj with hj; omega)
 have h2 := h1.kept hg (.inr (by intro e; simp [Value.ownBlock] at e))
 exact ⟨⟨hb, hb.size, h2, World.ownsRow_nil _ _ _ _, fun g _ hg => by simp [Value.ownBlock] at hg⟩, ⟨hb, hb.size, World.ownsRow_nil _ _ _ _, World.ownsRow_nil _ _ _ _, fun g hg => by simp [Value.ownBlock] at hg⟩, rfl, rfl, hT⟩
theorem step_pushW {P : Program} {ops : Array Oper} {o : Oper} {a : Act} {K : Act → World → Prop} {Q : Exit → Act → World → Prop} {E : Prop} (hgd : o.guard = none) (s x : Operand) (t : TypeId)
  (ho : o.op = .call { callee := .builtin .append, args := #[s, x], argTypes := #[t, t] })
  (B : Nat) (e : TypeId) (z : Value) (size bytes : Nat) (ht : P.underlying t = some (.slice e)) (hinfo : (P.info? e).map (fun i => (i.zero, i.size, i.bytes)) = some (some z, size, bytes))
  (hz1 : z.cells.size = size) (hsz : 0 < size) {w : World} {v1 : Value} {n1 : Nat} {l1 : List Value} (hs : a.eval s = v1) (q : Nat) (news : List Value) (hx : a.eval x = .slice (some ⟨q, 0, none⟩) 1 1)
  (hT : w.ownsRow B e size v1 n1 l1) (hB : B ≤ w.heap.size) (hk : Blk w q e news) (hl : news.length = size) (h1 : ∀ u ∈ news, u.oneCell' = true) (hn : n1 + 1 ≤ 9223372036854775807) (hbytes : (n1 + 1) * bytes ≤ 140737488355328)
  (h : ∀ (A : Option Addr) (c : Nat) (w' : World), w'.ownsRow B e size (.slice A (n1 + 1) c) (n1 + 1) (l1 ++ news) → w.grownBy w' v1.ownBlock → ((Value.slice A (n1 + 1) c).ownBlock = v1.ownBlock ∨ ∃ g, (Value.slice A (n1 + 1) c).ownBlock = some g ∧ w.heap.size ≤ g) → K (a.put o.dst (.slice A (n1 + 1) c)) w') :
  if Region.wanted o (yielded ops a.tmps) = true then Oper.wp P o a w K Q else E := by
 obtain ⟨i, hi, hz, hs1, hby⟩ := info_parts hinfo
 refine step_append_lies w hgd s x t ho B e i z size bytes ht hi hz hs1 hby hz1 hsz v1 n1 l1 hs hT ⟨q, 0, none⟩ 1 1 news hx (by omega) (fun j u hj => by rw [add_lit0]; exact hk.cell hj) h1 (by omega) (by unfold maxLen; omega) hbytes hB _ rfl ?_
 intro g cap w' how hg hgb _
 refine h _ cap w' how hg ?_
 rcases hgb with hgb | hgb
 ·exact .inl (by rw [hgb]; rfl)
 ·exact .inr ⟨g, rfl, by omega⟩
theorem dmE_al {z : DV} (h : dmE z = 0) : ∀ x ∈ z.x.a.al, 0 ≤ x ∧ x < (z.nv : Int) := by
 have hw := dmE_wf h
 unfold dmE at h
 by_cases h1 : chkE z.l ≠ 0
 ·rw [if_pos h1] at h; exact absurd h h1
 rw [if_neg h1] at h
 by_cases h2 : chkA z.x.a ≠ 0
 ·rw [if_pos h2] at h; exact absurd h h2
 rw [if_neg h2] at h
 by_cases h3 : z.x.a.al.any (fun v => decide ((z.nv : Int) ≤ v)) = true
 ·rw [if_pos h3] at h; cases h
 ·intro x hx
  refine ⟨(hw.rng x hx).1, ?_⟩
  have h4 : z.x.a.al.any (fun v => decide ((z.nv : Int) ≤ v)) = false := by simpa using h3
  rw [List.any_eq_false] at h4
  have := h4 x hx
  simp only [decide_eq_true_eq] at this
  omega
/-- what Twin returns -/
def RetTw (R : Bs TwS) (w : World) (e : Ending) (w' : World) : Prop := ∃ (A1 A2 : Option Addr) (n1 c1 n2 c2 : Nat), e = .returned (.tuple #[.slice A1 n1 c1, .slice A2 n2 c2, .int .i64 0]) ∧ R.ts.length = n1 ∧ R.es.length = n2 ∧ n1 ≤ 4096 ∧ n2 ≤ 262144 ∧ w'.ownsRow w.heap.size 59 3 (.slice A1 n1 c1) n1 (R.ts.flatMap prC) ∧ w'.ownsRow w.heap.size 62 4 (.slice A2 n2 c2) n2 (R.es.flatMap mvc) ∧ Below w.heap.size w w'
end Go.Proofs.Ytddhaidimadliaa
