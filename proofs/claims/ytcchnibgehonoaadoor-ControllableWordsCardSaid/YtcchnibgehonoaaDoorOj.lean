/- Walks: automaton.canonical, IsCanonical (for ProductOrders). -/
import Derived.Test.YtcchnibgehonoaaDoorOe
import Derived.Test.YtcchnibgehonoaaDoorGa
import Derived.Test.YtcchnibgehonoaaDoorTu
namespace Go.Proofs.YtcchnibgehonoaaDoor

section
variable {σ : Type} [DecidableEq σ] {C : Nat} {st : σ → Int → Option σ} {i : Nat} {t x0 : σ} {V : List Int}
theorem edRow_filter {ts : List σ} {j : Nat} : ∀ V : List Int, edRow st ts j t V = edRow st ts j t (V.filter (fun v => (st t v).isSome))
 | [] => rfl
 | v :: V => by
  have ih := edRow_filter (ts := ts) (j := j) V
  unfold edRow at ih ⊢
  cases hv : st t v with
  | none =>
   rw [List.filter_cons_of_neg (by rw [hv]; simp), ← ih, List.filterMap_cons_none (by rw [hv]; rfl)]
  | some x =>
   rw [List.filter_cons_of_pos (by rw [hv]; rfl), List.filterMap_cons_some (by rw [hv]; rfl), List.filterMap_cons_some (by rw [hv]; rfl), ih]
theorem FInv.leave' {s : Bs σ} (h : FInv C st V x0 i t (V.filter (fun v => (st t v).isSome)) s) : BInv C st V x0 (i + 1) s :=
 FInv.leave ⟨h.nd, h.at_, h.len, h.head, by rw [edRow_filter V]; exact h.es, h.clo, fun v hv x hx => h.cloD v (List.mem_filter.2 ⟨hv, by rw [hx]; rfl⟩) x hx, h.rch⟩
end
theorem out_st {a : Aut} (h : WF a) {t : Int} {x : Ed} (hx : x ∈ outE a t) : stA a t x.e = some x.t ∧ x.e ∈ a.al ∧ 0 ≤ x.t ∧ x.t < a.st := by
 obtain ⟨h1, h2⟩ := outE_mem.1 hx
 have hr := h.ev_rng h1
 have hn := nxt_yes h hx rfl
 refine ⟨?_, hasB_mem.1 ((h.erng x h1).2), hr.2.2.1, hr.2.2.2.1⟩
 unfold stA
 rw [hn, if_neg (by omega)]
theorem outE_len {a : Aut} (h : WF a) (s : Int) : (outE a s).length ≤ 32 := by
 have h1 := congrArg List.length (out_evs h s)
 rw [List.length_map] at h1
 have h2 := List.length_filter_le (fun v => (stA a s v).isSome) a.al
 have := h.al_le
 omega
/-- the table of numbers -/
def NumI (N ts : List Int) (n : Nat) : Prop := N.length = n ∧ ∀ k : Nat, k < n → N[k]? = some (idx ts (k : Int))
theorem NumI.start {n : Nat} (hn : 0 < n) : NumI ((List.replicate n (-1)).set 0 0) [0] n := by
 refine ⟨by simp, fun k hk => ?_⟩
 rw [List.getElem?_set]
 by_cases h0 : 0 = k
 ·subst h0; simp [hn, idx]
 ·rw [if_neg h0, List.getElem?_replicate, if_pos hk, idx_no (l := [0]) (x := (k : Int)) (by simp; omega)]
theorem NumI.put {N ts : List Int} {n : Nat} {y : Int} (h : NumI N ts n) (hy : 0 ≤ y) (_hy2 : y < (n : Int)) (hno : y ∉ ts) : NumI (N.set y.toNat (ts.length : Int)) (ts ++ [y]) n := by
 refine ⟨by rw [List.length_set]; exact h.1, fun k hk => ?_⟩
 rw [List.getElem?_set]
 by_cases h0 : y.toNat = k
 ·rw [if_pos h0, if_pos (by rw [h.1]; omega), show (k : Int) = y by omega, idx_new hno]
 ·rw [if_neg h0, h.2 k hk]
  congr 1
  by_cases hm : (k : Int) ∈ ts
  ·rw [idx_app hm]
  ·rw [idx_no hm, idx_no (fun hh => by
    rcases List.mem_append.1 hh with hh | hh
    ·exact hm hh
    ·exact h0 (by have := List.mem_singleton.1 hh; omega))]
theorem NumI.at_ {N ts : List Int} {n : Nat} {y : Int} (h : NumI N ts n) (hy : 0 ≤ y) (hy2 : y < (n : Int)) : N[y.toNat]? = some (idx ts y) := by
 rw [h.2 y.toNat (by omega), show ((y.toNat : Nat) : Int) = y by omega]
/-- in the midst of the edges of a state -/
structure EInv (a : Aut) (i : Nat) (t : Int) (L : List Ed) (p : Nat) (F : Option (Bs Int)) (s : Bs Int) : Prop where
 inv : FInv 4096 (stA a) a.al 0 i t ((L.take p).map Ed.e) s
 fin : bsF 4096 (stA a) i t ((L.drop p).map Ed.e) s = F
theorem EInv.step {a : Aut} {i p : Nat} {t : Int} {F : Option (Bs Int)} {s : Bs Int} {x : Ed} (hw : WF a) (hm : ¬ Many 4096 (stA a) a.al 0) (h : EInv a i t (outE a t) p F s) (hx : (outE a t)[p]? = some x) :
  (idx s.ts x.t < 0 → x.t ∉ s.ts ∧ s.ts.length < 4096 ∧ EInv a i t (outE a t) (p + 1) F ⟨s.ts ++ [x.t], s.es ++ [⟨i, x.e, s.ts.length⟩]⟩) ∧
  (¬ idx s.ts x.t < 0 → EInv a i t (outE a t) (p + 1) F ⟨s.ts, s.es ++ [⟨i, x.e, idx s.ts x.t⟩]⟩) := by
 obtain ⟨g1, g2, _⟩ := out_st hw (List.mem_of_getElem? hx)
 have hD : ((outE a t).take (p + 1)).map Ed.e = ((outE a t).take p).map Ed.e ++ [x.e] := by rw [take_snoc' hx, List.map_append]; rfl
 have hd : bsF 4096 (stA a) i t (((outE a t).drop p).map Ed.e) s = match bsE 4096 (stA a) i t s x.e with | none => none | some s' => bsF 4096 (stA a) i t (((outE a t).drop (p + 1)).map Ed.e) s' := by
  rw [drop_cons' hx, List.map_cons, bsF]
  cases bsE 4096 (stA a) i t s x.e <;> rfl
 have hf := h.fin
 rw [hd] at hf
 rcases h.inv.step g2 with ⟨s', e1, i1, _⟩ | ⟨_, hb⟩
 ·rw [e1] at hf
  simp only at hf
  constructor
  ·intro hi
   by_cases hC : s.ts.length = 4096
   ·rw [bsE_full g1 hi hC] at e1; cases e1
   ·rw [bsE_new g1 hi hC] at e1
    injection e1 with e1
    subst e1
    refine ⟨idx_neg.1 hi, by have := h.inv.len; omega, by rw [hD]; exact i1, hf⟩
  ·intro hi
   rw [bsE_old g1 hi] at e1
   injection e1 with e1
   subst e1
   exact ⟨by rw [hD]; exact i1, hf⟩
 ·exact absurd hb hm
theorem EInv.start {a : Aut} {i : Nat} {t : Int} {s : Bs Int} (hw : WF a) (h : BInv 4096 (stA a) a.al 0 i s) (ht : s.ts[i]? = some t) : EInv a i t (outE a t) 0 (bsF 4096 (stA a) i t a.al s) s :=
 ⟨h.enter ht, by rw [List.drop_zero, bsF_filter a.al, out_evs hw]⟩
theorem EInv.done {a : Aut} {i p : Nat} {t : Int} {F : Option (Bs Int)} {s : Bs Int} (hw : WF a) (h : EInv a i t (outE a t) p F s) (hp : (outE a t).length ≤ p) : BInv 4096 (stA a) a.al 0 (i + 1) s ∧ F = some s := by
 have h1 := h.inv
 rw [List.take_of_length_le hp, ← out_evs hw] at h1
 refine ⟨h1.leave', ?_⟩
 rw [← h.fin, List.drop_of_length_le hp]; rfl

section
open Go.RowKit Go
/-- canonical's memory: the result's block, the table of numbers, the marks, the order, the edges -/
structure CanM (b : Nat) (w0 w : World) (v0 v1 mv ov ev : Value) (km no ke : Nat) (N mk od : List Int) (es : List Ed) : Prop where
 sz : w0.heap.size = b
 bel : Below b w0 w
 blk : Blk w b 25 [v0, v1, mv, ev]
 num : Blk w (b + 1) 3 (iv N)
 mrk : w.ownsRow (b + 2) 3 1 mv km (iv mk)
 mkl : mk.length = km
 ord : w.ownsRow (b + 2) 3 1 ov no (iv od)
 orl : od.length = no
 edg : w.ownsRow (b + 2) 83 3 ev ke (es.flatMap edc)
 edl : es.length = ke
 apt : ∀ g, mv.ownBlock = some g → ov.ownBlock ≠ some g
section
variable {b : Nat} {w0 w w' : World} {v0 v1 mv ov ev : Value} {km no ke : Nat} {N mk od : List Int} {es : List Ed}
theorem CanM.lt (h : CanM b w0 w v0 v1 mv ov ev km no ke N mk od es) : b + 1 < w.heap.size := h.num.lt
theorem CanM.quiet (h : CanM b w0 w v0 v1 mv ov ev km no ke N mk od es) (hb : Below w.heap.size w w') : CanM b w0 w' v0 v1 mv ov ev km no ke N mk od es :=
 ⟨h.sz, h.bel.trans (hb.mono (by have := h.lt; omega)), h.blk.below hb (by have := h.lt; omega), h.num.below hb h.lt, own_below h.mrk hb, h.mkl, own_below h.ord hb, h.orl, own_below h.edg hb, h.edl, h.apt⟩
theorem own_far {w w' : World} {base : Nat} {e : TypeId} {size n : Nat} {v v' : Value} {xs : List Value} (h : w.ownsRow base e size v n xs) (hg : w.grownBy w' v'.ownBlock) (hne : ∀ g, v.ownBlock = some g → v'.ownBlock ≠ some g) : w'.ownsRow base e size v n xs :=
 h.kept hg (by
  cases hv : v.ownBlock with
  | none => exact .inl rfl
  | some g => exact .inr (fun e => hne g hv e.symm))
theorem CanM.low (h : CanM b w0 w v0 v1 mv ov ev km no ke N mk od es) {r j : Nat} (u : Value) (hr : r ≤ b + 1) (hb : b ≤ r) :
  Below b w0 (w.setCell ⟨r, j, none⟩ u) ∧ (w.setCell ⟨r, j, none⟩ u).ownsRow (b + 2) 3 1 mv km (iv mk) ∧ (w.setCell ⟨r, j, none⟩ u).ownsRow (b + 2) 3 1 ov no (iv od) ∧ (w.setCell ⟨r, j, none⟩ u).ownsRow (b + 2) 83 3 ev ke (es.flatMap edc) := by
 have hs := grown_setCell w r j u
 exact ⟨h.bel.setCell hb _, own_kept_low h.mrk hs (by omega), own_kept_low h.ord hs (by omega), own_kept_low h.edg hs (by omega)⟩
theorem CanM.put (h : CanM b w0 w v0 v1 mv ov ev km no ke N mk od es) (j : Nat) (hj : j < N.length) (y : Int) : CanM b w0 (w.setCell ⟨b + 1, j, none⟩ (.int .i64 y)) v0 v1 mv ov ev km no ke (N.set j y) mk od es := by
 obtain ⟨h1, h2, h3, h4⟩ := h.low (r := b + 1) (j := j) (.int .i64 y) (Nat.le_refl _) (Nat.le_succ _)
 have hs := grown_setCell w (b + 1) j (.int .i64 y)
 refine ⟨h.sz, h1, h.blk.kept hs (by intro e; injection e with e; omega), ?_, h2, h.mkl, h3, h.orl, h4, h.edl, h.apt⟩
 have := h.num.set (j := j) (by rw [iv_length]; exact hj) (.int .i64 y)
 rwa [iv_set] at this
theorem CanM.set1 (h : CanM b w0 w v0 v1 mv ov ev km no ke N mk od es) (u : Value) : CanM b w0 (w.setCell ⟨b, 1, none⟩ u) v0 u mv ov ev km no ke N mk od es := by
 obtain ⟨h1, h2, h3, h4⟩ := h.low (r := b) (j := 1) u (Nat.le_succ _) (Nat.le_refl _)
 exact ⟨h.sz, h1, h.blk.set (by simp) _, h.num.kept (grown_setCell w b 1 u) (by intro e; injection e with e; omega), h2, h.mkl, h3, h.orl, h4, h.edl, h.apt⟩
theorem CanM.mark (h : CanM b w0 w v0 v1 mv ov ev km no ke N mk od es) {A : Option Addr} {c : Nat} {i : Int} (ho : w'.ownsRow (b + 2) 3 1 (.slice A (km + 1) c) (km + 1) (iv mk ++ [.int .i64 i])) (hg : w.grownBy w' mv.ownBlock)
  (hl : (Value.slice A (km + 1) c).ownBlock = mv.ownBlock ∨ ∃ g, (Value.slice A (km + 1) c).ownBlock = some g ∧ w.heap.size ≤ g) :
  CanM b w0 (w'.setCell ⟨b, 2, none⟩ (.slice A (km + 1) c)) v0 v1 (.slice A (km + 1) c) ov ev (km + 1) no ke N (mk ++ [i]) od es := by
 have h1 := h.lt
 have hs := grown_setCell w' b 2 (.slice A (km + 1) c)
 have hbl := h.blk.kept hg (own_lt_ne h.mrk (by omega))
 have hnu := h.num.kept hg (own_lt_ne h.mrk (by omega))
 have hor := own_far h.ord hg (fun g e1 e2 => h.apt g e2 e1)
 have hed := own_kept_ne h.edg h.mrk (by decide) hg
 refine ⟨h.sz, (h.bel.grown hg (by omega) (fun j hj => by have := (h.mrk.lt j hj).1; omega)).setCell (Nat.le_refl _) _, hbl.set (by simp) _, hnu.kept hs (by intro e; injection e with e; omega), own_kept_low (by rw [iv_append]; exact ho) hs (by omega), by simp [h.mkl], own_kept_low hor hs (by omega), h.orl, own_kept_low hed hs (by omega), h.edl, fun g hg1 hg2 => ?_⟩
 rcases hl with hl | ⟨g', hl, hle⟩
 ·rw [hl] at hg1; exact h.apt g hg1 hg2
 ·rw [hl] at hg1; injection hg1 with hg1
  have := (h.ord.lt g hg2).2
  omega
theorem CanM.more (h : CanM b w0 w v0 v1 mv ov ev km no ke N mk od es) {A : Option Addr} {c : Nat} {i : Int} (ho : w'.ownsRow (b + 2) 3 1 (.slice A (no + 1) c) (no + 1) (iv od ++ [.int .i64 i])) (hg : w.grownBy w' ov.ownBlock)
  (hl : (Value.slice A (no + 1) c).ownBlock = ov.ownBlock ∨ ∃ g, (Value.slice A (no + 1) c).ownBlock = some g ∧ w.heap.size ≤ g) :
  CanM b w0 w' v0 v1 mv (.slice A (no + 1) c) ev km (no + 1) ke N mk (od ++ [i]) es := by
 have h1 := h.lt
 refine ⟨h.sz, h.bel.grown hg (by omega) (fun j hj => by have := (h.ord.lt j hj).1; omega), h.blk.kept hg (own_lt_ne h.ord (by omega)), h.num.kept hg (own_lt_ne h.ord (by omega)), own_far h.mrk hg (fun g e1 e2 => h.apt g e1 e2), h.mkl, by rw [iv_append]; exact ho, by simp [h.orl], own_kept_ne h.edg h.ord (by decide) hg, h.edl, fun g hg1 hg2 => ?_⟩
 rcases hl with hl | ⟨g', hl, hle⟩
 ·rw [hl] at hg2; exact h.apt g hg1 hg2
 ·rw [hl] at hg2; injection hg2 with hg2
  have := (h.mrk.lt g hg1).2
  omega
theorem CanM.edge (h : CanM b w0 w v0 v1 mv ov ev km no ke N mk od es) {A : Option Addr} {c : Nat} {x : Ed} (ho : w'.ownsRow (b + 2) 83 3 (.slice A (ke + 1) c) (ke + 1) (es.flatMap edc ++ edc x)) (hg : w.grownBy w' ev.ownBlock) :
  CanM b w0 (w'.setCell ⟨b, 3, none⟩ (.slice A (ke + 1) c)) v0 v1 mv ov (.slice A (ke + 1) c) km no (ke + 1) N mk od (es ++ [x]) := by
 have h1 := h.lt
 have hs := grown_setCell w' b 3 (.slice A (ke + 1) c)
 have hbl := h.blk.kept hg (own_lt_ne h.edg (by omega))
 have hnu := h.num.kept hg (own_lt_ne h.edg (by omega))
 exact ⟨h.sz, (h.bel.grown hg (by omega) (fun j hj => by have := (h.edg.lt j hj).1; omega)).setCell (Nat.le_refl _) _, hbl.set (by simp) _, hnu.kept hs (by intro e; injection e with e; omega), own_kept_low (own_kept_ne h.mrk h.edg (by decide) hg) hs (by omega), h.mkl, own_kept_low (own_kept_ne h.ord h.edg (by decide) hg) hs (by omega), h.orl, own_kept_low (by simpa using ho) hs (by omega), by simp [h.edl], h.apt⟩
theorem CanM.fin {V M E : Option Addr} {nv cv cm ce : Nat} {st : Int} {al : List Int} {q : Nat} (h : CanM b w0 w (.slice V nv cv) v1 (.slice M km cm) ov (.slice E ke ce) km no ke N mk od es) (hv : al.length = nv) (ho : w0.ownsRow q 3 1 (.slice V nv cv) nv (iv al)) (hq : q ≤ b + 2) :
  AutO w q V nv cv M km cm E ke ce ⟨al, st, mk, es⟩ :=
 ⟨hv, own_below ho (by rw [h.sz]; exact h.bel), h.mkl, own_base h.mrk hq, h.edl, own_base h.edg hq⟩
end
end
open Go.RowKit Go Go.Maps
theorem CanM.start (w0 : World) (v0 : Value) (n : Nat) : CanM w0.heap.size w0 ((w0.alloc (.cells #[v0, .int .i64 0, .slice none 0 0, .slice none 0 0] 25)).alloc (.cells (madeCells #[.int .i64 0] n) 3)) v0 (.int .i64 0) (.slice none 0 0) (.slice none 0 0) (.slice none 0 0) 0 0 0 (List.replicate n 0) [] [] [] := by
 have h1 := box_below w0 (.cells #[v0, .int .i64 0, .slice none 0 0, .slice none 0 0] 25)
 refine ⟨rfl, h1.alloc (by simp) _, (Blk.new _ _ [_, _, _, _]).alc _, ?_, World.ownsRow_nil _ _ _ _, rfl, World.ownsRow_nil _ _ _ _, rfl, World.ownsRow_nil _ _ _ _, rfl, fun g hg => by simp [Value.ownBlock] at hg⟩
 rw [made_ints]
 have := Blk.new (w0.alloc (.cells #[v0, .int .i64 0, .slice none 0 0, .slice none 0 0] 25)) 3 (iv (List.replicate n 0))
 rwa [World.size_alloc] at this
theorem CanM.ord0 {b : Nat} {w0 w : World} {v0 v1 ev : Value} {no ke : Nat} {N mk od : List Int} {es : List Ed} {ov : Value} (h : CanM b w0 w v0 v1 (.slice none 0 0) ov ev 0 no ke N mk od es) (y : Int) :
  CanM b w0 (w.alloc (.cells #[.int .i64 y] 3)) v0 v1 (.slice none 0 0) (.slice (some ⟨w.heap.size, 0, none⟩) 1 1) ev 0 1 ke N mk [y] es := by
 have h1 := h.lt
 have hq := h.quiet (box_below w (.cells #[.int .i64 y] 3))
 exact ⟨hq.sz, hq.bel, hq.blk, hq.num, hq.mrk, hq.mkl, own_lit w [.int .i64 y] (b + 2) 3 (by omega) (by simp), rfl, hq.edg, hq.edl, fun g hg => by simp [Value.ownBlock] at hg⟩
theorem outB_of {a : Aut} (hw : WF a) {t : Int} {i j ne : Nat} (hl : a.ed.length = ne) (hij : i ≤ j) (hj : j ≤ ne) (l1 : LoE a.ed t i) (l2 : HiE a.ed t i) (l3 : LoE a.ed (t + 1) j) (l4 : HiE a.ed (t + 1) j) : (a.ed.drop i).take (j - i) = outE a t ∧ (outE a t).length = j - i ∧ j - i ≤ 32 := by
 have e := out_slice hij l1 l2 l3 l4
 have h2 : (outE a t).length = j - i := by
  show (a.ed.filter _).length = _
  rw [← e, List.length_take, List.length_drop]; omega
 exact ⟨e, h2, by rw [← h2]; exact outE_len hw t⟩
theorem canonical_out (B : Nat) (A M E : Option Addr) (na ca nm cm ne ce : Nat) (a : Aut) (t : Int) (w : World) (hB : B ≤ w.heap.size) (hl : a.ed.length = ne) (h : RdX w B E a.ed) (hne : ne ≤ ce) (hce : ce ≤ 9223372036854775807) (hw : WF a) (h3 : 0 ≤ t) (h4 : t < a.st) (st : Int) :
  Calls Tryd.prog 77 #[.agg #[.slice A na ca, .int .i64 st, .slice M nm cm, .slice E ne ce], .int .i64 t] w fun e w' => ∃ (E' : Option Addr) (m c' : Nat), e = .returned (.slice E' m c') ∧ (outE a t).length = m ∧ m ≤ 32 ∧ RdX w' B E' (outE a t) ∧ Below w.heap.size w w' := by
 have hs1 := hw.st1
 refine (automaton_outB B A M E na ca nm cm ne ce st a.ed t w hB hl h hne hce (by rw [← hl]; exact hw.ed_le) hw.einc (fun x hx => by have := hw.ev_rng hx; omega) h3 (by omega)).mono ?_
 rintro e w' ⟨⟨i, j, E', c', rfl, hij, hj, l1, l2, l3, l4, hr⟩, hb⟩
 obtain ⟨e1, e2, e3⟩ := outB_of hw hl hij hj l1 l2 l3 l4
 rw [e1] at hr
 exact ⟨E', j - i, c', rfl, e2, e3, hr, hb⟩
theorem bs_n (A : Option Addr) (c n : Nat) (l : List Int) (x : Int) (q : Bool) (w : World) (hl : l.length = n) (hq : hasB l x = q) (h : RdI w w.heap.size A l) (hc : n ≤ 4611686018427387903) (hs : Inc l) :
  Calls Tryd.prog 89 #[.slice A n c, .int .i64 x] w fun e w' => (∃ i : Int, e = .returned (.tuple #[.int .i64 i, .bool q])) ∧ w = w' := by
 subst hl hq; exact slices_BinarySearch A c l x w h hc hs
theorem canA_of {a : Aut} {s : Bs Int} (h0 : a.st ≠ 0) (hs : canS a = some s) : canA a = ⟨a.al, (s.ts.length : Int), mksN (mkA a) s.ts s.ts.length, s.es⟩ := by
 unfold canA; rw [if_neg h0, hs]; rfl

set_option maxRecDepth 100000 in
set_option maxHeartbeats 3200000 in
theorem automaton_canonical (A : Option Addr) (na ca : Nat) (M : Option Addr) (nm cm : Nat) (E : Option Addr) (ne ce : Nat) (a : Aut) (w : World) (h : AutR w w.heap.size A na ca M nm cm E ne ce a) (hw : WF a) :
  Calls Tryd.prog 68 #[.agg #[.slice A na ca, .int .i64 a.st, .slice M nm cm, .slice E ne ce]] w (RetA (canA a) w) := by
 obtain ⟨n, hn⟩ : ∃ n : Nat, a.st = (n : Int) := ⟨a.st.toNat, by have := hw.st0; omega⟩
 have hn4 : n ≤ 4096 := by have := hw.st1; omega
 rw [hn]
 have hB0 := (box_below w (.cells #[.slice A na ca, .int .i64 (n : Int), .slice M nm cm, .slice E ne ce] 25)).alloc (by simp) (.cells #[.slice none 0 0, .int .i64 0, .slice none 0 0, .slice none 0 0] 25)
 have hbx : Blk ((w.alloc (.cells #[.slice A na ca, .int .i64 (n : Int), .slice M nm cm, .slice E ne ce] 25)).alloc (.cells #[.slice none 0 0, .int .i64 0, .slice none 0 0, .slice none 0 0] 25)) w.heap.size 25 [.slice A na ca, .int .i64 (n : Int), .slice M nm cm, .slice E ne ce] := Blk.alc (Blk.new _ _ _) _
 have hrs : Blk ((w.alloc (.cells #[.slice A na ca, .int .i64 (n : Int), .slice M nm cm, .slice E ne ce] 25)).alloc (.cells #[.slice none 0 0, .int .i64 0, .slice none 0 0, .slice none 0 0] 25)) (w.heap.size + 1) 25 [.slice none 0 0, .int .i64 0, .slice none 0 0, .slice none 0 0] := by
  have := Blk.new (w.alloc (.cells #[.slice A na ca, .int .i64 (n : Int), .slice M nm cm, .slice E ne ce] 25)) 25 [.slice none 0 0, .int .i64 0, .slice none 0 0, .slice none 0 0]
  rwa [World.size_alloc] at this
 have hsz0 : ((w.alloc (.cells #[.slice A na ca, .int .i64 (n : Int), .slice M nm cm, .slice E ne ce] 25)).alloc (.cells #[.slice none 0 0, .int .i64 0, .slice none 0 0, .slice none 0 0] 25)).heap.size = w.heap.size + 2 := by simp
 have h1 : AutR ((w.alloc (.cells #[.slice A na ca, .int .i64 (n : Int), .slice M nm cm, .slice E ne ce] 25)).alloc (.cells #[.slice none 0 0, .int .i64 0, .slice none 0 0, .slice none 0 0] 25)) ((w.alloc (.cells #[.slice A na ca, .int .i64 (n : Int), .slice M nm cm, .slice E ne ce] 25)).alloc (.cells #[.slice none 0 0, .int .i64 0, .slice none 0 0, .slice none 0 0] 25)).heap.size A na ca M nm cm E ne ce a := (h.below hB0).more hB0.size
 have hla := h.la
 have hal := hw.al_le
 rw [hla] at hal
 have HCL := Lib.hid (slices_Clone_n A ca na a.al _ hla h1.ra (by omega))
 have c0 := hbx.cell (j := 0) rfl
 obtain ⟨w1, hw1⟩ : ∃ w1, w1 = ((w.alloc (.cells #[.slice A na ca, .int .i64 (n : Int), .slice M nm cm, .slice E ne ce] 25)).alloc (.cells #[.slice none 0 0, .int .i64 0, .slice none 0 0, .slice none 0 0] 25)) := ⟨_, rfl⟩
 have HLA := Lib.hid hla; clear hla
 have HH := Lib.hid h; clear h
 have HW := Lib.hid hw; clear hw
 have HNN := Lib.hid hn; clear hn
 rw [← hw1] at hB0 hbx hrs hsz0
 have HB0 := Lib.hid hB0; clear hB0
 have HBX := Lib.hid hbx; clear hbx
 have HRS := Lib.hid hrs; clear hrs
 have HS0 := Lib.hid hsz0; clear hsz0
 have HW1 := Lib.hid hw1; clear hw1
 clear h1
 go_enter Tryd.func68, Tryd.ntmps68
 go_wp2_with fail
 refine HCL.out.mono ?_
 rw [← HW1.out]
 rintro e w2 ⟨v2, rfl, ho2, hb2⟩
 obtain ⟨V, cv, rfl⟩ := own_shape ho2
 rw [HLA.out] at ho2 ⊢
 have HB2 := Lib.hid (HB0.out.trans (hb2.mono HB0.out.size))
 have l2 : w.heap.size + 2 ≤ w2.heap.size := by have := hb2.size; have := HS0.out; omega
 have HOV := Lib.hid (own_base (base := w.heap.size + 2) ho2 (by have := HS0.out; omega))
 have hbx2 := HBX.out.below hb2 HBX.out.lt
 have hrs2 := HRS.out.below hb2 HRS.out.lt
 have HBX2 := Lib.hid hbx2; clear hbx2
 have HRS2 := Lib.hid hrs2; clear hrs2
 clear hb2 ho2 c0 HCL
 have hbz := box_below w2 (.cells #[.slice V na cv, .int .i64 0, .slice none 0 0, .slice none 0 0] 25)
 have hbx3 := HBX2.out.below hbz HBX2.out.lt
 have hrs3 := HRS2.out.below hbz HRS2.out.lt
 have c1 : (w2.alloc (.cells #[.slice V na cv, .int .i64 0, .slice none 0 0, .slice none 0 0] 25)).cell? ⟨w.heap.size, 1, none⟩ = some (.int .i64 (n : Int)) := hbx3.cell (j := 1) rfl
 by_cases h0 : n = 0
 ·subst h0
  have hst0 : a.st = 0 := HNN.out
  have HCA := Lib.hid (show canA a = ⟨a.al, 0, [], []⟩ by unfold canA; rw [if_pos hst0])
  have f0 := hrs3.free 0
  have f1 := hrs3.free 1
  have f2 := hrs3.free 2
  have f3 := hrs3.free 3
  have e0 := hrs3.cell (j := 0) rfl
  have e1 := hrs3.cell (j := 1) rfl
  have e2 := hrs3.cell (j := 2) rfl
  have e3 := hrs3.cell (j := 3) rfl
  have l0 : w.heap.size + 1 < (w2.alloc (.cells #[.slice V na cv, .int .i64 0, .slice none 0 0, .slice none 0 0] 25)).heap.size := hrs3.lt
  have kr : Blk (w2.alloc (.cells #[.slice V na cv, .int .i64 0, .slice none 0 0, .slice none 0 0] 25)) w2.heap.size 25 [.slice V na cv, .int .i64 0, .slice none 0 0, .slice none 0 0] := Blk.new _ _ _
  have o0 := kr.cell (j := 0) rfl
  have o1 := kr.cell (j := 1) rfl
  have o2 := kr.cell (j := 2) rfl
  have o3 := kr.cell (j := 3) rfl
  have HBZ := Lib.hid (HB2.out.trans (hbz.mono HB2.out.size))
  have HO := Lib.hid (show AutO (w2.alloc (.cells #[.slice V na cv, .int .i64 0, .slice none 0 0, .slice none 0 0] 25)) (w.heap.size + 2) V na cv none 0 0 none 0 0 ⟨a.al, 0, [], []⟩ from ⟨HLA.out, own_below HOV.out hbz, rfl, World.ownsRow_nil _ _ _ _, rfl, World.ownsRow_nil _ _ _ _⟩)
  have HR3 := Lib.hid hrs3; clear hrs3
  clear hbx3 kr hbz
  go_wp2
  have hb3 := (((HR3.out.set (j := 0) (by simp) (.slice V na cv)).set (j := 1) (by simp) (.int .i64 0)).set (j := 2) (by simp) (.slice none 0 0)).set (j := 3) (by simp) (.slice none 0 0)
  have z0 := hb3.cell (j := 0) rfl
  have z1 := hb3.cell (j := 1) rfl
  have z2 := hb3.cell (j := 2) rfl
  have z3 := hb3.cell (j := 3) rfl
  have hg5 : (w2.alloc (.cells #[.slice V na cv, .int .i64 0, .slice none 0 0, .slice none 0 0] 25)).grownBy (((((w2.alloc (.cells #[.slice V na cv, .int .i64 0, .slice none 0 0, .slice none 0 0] 25)).setCell ⟨w.heap.size + 1, 0, none⟩ (.slice V na cv)).setCell ⟨w.heap.size + 1, 1, none⟩ (.int .i64 0)).setCell ⟨w.heap.size + 1, 2, none⟩ (.slice none 0 0)).setCell ⟨w.heap.size + 1, 3, none⟩ (.slice none 0 0)) (some (w.heap.size + 1)) := (((grown_setCell _ _ _ _).trans (grown_setCell _ _ _ _)).trans (grown_setCell _ _ _ _)).trans (grown_setCell _ _ _ _)
  refine bodyPost_ret (v := .agg #[.slice V na cv, .int .i64 0, .slice none 0 0, .slice none 0 0]) (by simp [results, Tryd.results68, go_sem, z0, z1, z2, z3]) rfl ?_
  rw [HCA.out]
  exact ⟨V, na, cv, none, 0, 0, none, 0, 0, rfl, ((HO.out.low hg5 (Nat.lt_succ_self _)).down (by omega)), HBZ.out.grown hg5 HBZ.out.size (fun j hj => by injection hj with hj; omega)⟩
 ·have hst0 : a.st ≠ 0 := by rw [HNN.out]; omega
  have hn0 : 0 < n := by omega
  have b0 : ((n : Int) == 0) = false := by simp; omega
  have hm : ∀ W : World, (Instr.makeSlice 22 (.int .i64 (n : Int)) (.int .i64 (n : Int))).run Tryd.prog W = .ok (.slice (some ⟨W.heap.size, 0, none⟩) n n) (W.alloc (.cells (madeCells #[.int .i64 0] n) 3)) := fun W => run_make_row' 22 3 (.int .i64 0) 8 Tryd.underlying22 int_info rfl .i64 .i64 n (by omega) (by omega) W
  have HC0 := Lib.hid (CanM.start w2 (.slice V na cv) n)
  have HST0 := Lib.hid hst0; clear hst0
  have HBZ := Lib.hid hbz; clear hbz
  clear hbx3 hrs3
  go_wp2
  clear c1 hm
  go_loopw [25] (fun s25 wr => ∃ (k : Nat) (N : List Int), s25 = .int .i64 k ∧ k ≤ n ∧ Hid (CanM w2.heap.size w2 wr (.slice V na cv) (.int .i64 0) (.slice none 0 0) (.slice none 0 0) (.slice none 0 0) 0 0 0 N [] [] []) ∧ Hid (N.length = n ∧ ∀ j, j < k → N[j]? = some (-1))) (fun s25 _ => n - (intOf s25).toNat)
  case atStart => exact ⟨0, _, rfl, Nat.zero_le _, HC0, Lib.hid ⟨by simp, fun j hj => by omega⟩⟩
  case round =>
   clear HC0
   obtain ⟨k, N, rfl, hk, HC, HNL⟩ := hrel
   by_cases hlt : k < n
   ·have b1 : (k : Int) < (n : Int) := by omega
    have hkN : k < (iv N).length := by rw [iv_length, HNL.out.1]; exact hlt
    have g1 : wr.cell? ⟨w2.heap.size + 1, k, none⟩ = some ((iv N)[k]) := HC.out.num.cell (List.getElem?_eq_getElem hkN)
    have g2 : wr.frozen? ⟨w2.heap.size + 1, k, none⟩ = false := HC.out.num.free k
    have g3 : w2.heap.size + 1 < wr.heap.size := HC.out.lt
    have HC2 := Lib.hid (HC.out.put k (by rw [HNL.out.1]; exact hlt) (-1))
    have HN2 := Lib.hid (show (N.set k (-1)).length = n ∧ ∀ j, j < k + 1 → (N.set k (-1))[j]? = some (-1) from ⟨by rw [List.length_set]; exact HNL.out.1, fun j hj => by
     rw [List.getElem?_set]
     by_cases hjk : k = j
     ·rw [if_pos hjk, if_pos (by rw [HNL.out.1]; exact hlt)]
     ·rw [if_neg hjk]; exact HNL.out.2 j (by omega)⟩)
    go_wp2
    go_roundw
    case rel => exact ⟨k + 1, _, by go_num, by omega, HC2, HN2⟩
    case measure => simp [intOf]; omega
   ·have b1 : ¬ (k : Int) < (n : Int) := by omega
    have hN : N = List.replicate n (-1) := by
     apply List.ext_getElem?
     intro j
     rw [List.getElem?_replicate]
     by_cases hj : j < n
     ·rw [if_pos hj]; exact HNL.out.2 j (by omega)
     ·rw [if_neg hj]; exact List.getElem?_eq_none (by rw [HNL.out.1]; omega)
    subst hN
    have g1 : wr.cell? ⟨w2.heap.size + 1, 0, none⟩ = some (.int .i64 (-1)) := HC.out.num.cell (by rw [iv_get, List.getElem?_replicate, if_pos hn0]; rfl)
    have g2 : wr.frozen? ⟨w2.heap.size + 1, 0, none⟩ = false := HC.out.num.free 0
    have g3 : w2.heap.size + 1 < wr.heap.size := HC.out.lt
    have hC2 := (HC.out.put 0 (by simpa using hn0) 0).ord0 0
    rw [show (wr.setCell ⟨w2.heap.size + 1, 0, none⟩ (.int .i64 0)).heap.size = wr.heap.size by simp [World.setCell]] at hC2
    have HC2 := Lib.hid hC2
    have hb2 : (0 : Int) < (n : Int) := by omega
    have HBI := Lib.hid (BInv.begin (C := 4096) (st := stA a) (V := a.al) (x0 := (0 : Int)) (by omega))
    have HN0 := Lib.hid (NumI.start hn0)
    have HMN := Lib.hid (can_few HW.out HST0.out)
    clear HC HNL hC2
    go_wp2
    clear g1 g2 g3
    go_loopw [6, 7] (fun s6 s7 wr => ∃ (i km no ke : Nat) (mv ov ev : Value) (N : List Int) (s : Bs Int), s7 = .int .i64 i ∧ s6 = ov ∧ i ≤ no ∧ no ≤ 4096 ∧ km ≤ i ∧ ke ≤ i * 32 ∧ Hid (CanM w2.heap.size w2 wr (.slice V na cv) (.int .i64 0) mv ov ev km no ke N (mksN (mkA a) s.ts i) s.ts s.es) ∧ Hid (NumI N s.ts n) ∧ Hid (BInv 4096 (stA a) a.al 0 i s) ∧ Hid (bsR 4096 (stA a) a.al (4097 - i) i s = canS a)) (fun _ s7 _ => 4097 - (intOf s7).toNat)
    case atStart => exact ⟨0, 0, 1, 0, _, _, _, _, ⟨[0], []⟩, rfl, rfl, Nat.zero_le _, by omega, Nat.le_refl _, Nat.zero_le _, HC2, HN0, HBI, Lib.hid rfl⟩
    case round =>
     clear HC2 HN0 HBI
     obtain ⟨i, km, no, ke, mv, ov, ev, N, s, rfl, rfl, hi, hno, hkm, hke, HC, HNU, HBI, HBS⟩ := hrel
     obtain ⟨MA, mc, rfl⟩ := own_shape HC.out.mrk
     obtain ⟨OA, oc, rfl⟩ := own_shape HC.out.ord
     obtain ⟨EA, ec, rfl⟩ := own_shape HC.out.edg
     have hBW := HB2.out.trans (HC.out.bel.mono HB2.out.size)
     have hbw := HBX2.out.below HC.out.bel (by omega)
     by_cases hlt : i < no
     ·obtain ⟨t, ht⟩ : ∃ t, s.ts[i]? = some t := ⟨_, List.getElem?_eq_getElem (by rw [HC.out.orl]; exact hlt)⟩
      obtain ⟨od, t9, e9, hodb, ht9, hoc⟩ := (RdI.of_own HC.out.ord).at_ (k := i) (by rw [HC.out.orl]; exact hlt)
      subst e9
      obtain rfl : t9 = t := by rw [ht] at ht9; injection ht9 with e; exact e.symm
      have htr := rch_rng HW.out HST0.out (HBI.out.rch _ (List.mem_of_getElem? ht))
      obtain ⟨t0, t1⟩ := htr
      rw [HNN.out] at t1
      have b1 : (i : Int) < (no : Int) := by omega
      have c0 : wr.cell? ⟨w.heap.size, 0, none⟩ = some (.slice A na ca) := hbw.cell (j := 0) rfl
      have c1 : wr.cell? ⟨w.heap.size, 1, none⟩ = some (.int .i64 (n : Int)) := hbw.cell (j := 1) rfl
      have c2 : wr.cell? ⟨w.heap.size, 2, none⟩ = some (.slice M nm cm) := hbw.cell (j := 2) rfl
      have c3 : wr.cell? ⟨w.heap.size, 3, none⟩ = some (.slice E ne ce) := hbw.cell (j := 3) rfl
      have hnm : nm ≤ 4611686018427387903 := by
       have h1 := inc_len (n := 4096) HW.out.minc (fun x hx => by have := HW.out.mrng x hx; have := HW.out.st1; omega)
       rw [HH.out.lm] at h1; omega
      have HBN := Lib.hid (fun q hq => bs_n M cm nm a.ma t9 q wr.drew HH.out.lm hq ((HH.out.rm.below hBW).more hBW.size) hnm HW.out.minc)
      have hA0 : wr.drew.cell? ⟨w.heap.size, 0, none⟩ = some (.slice A na ca) ∧ wr.drew.cell? ⟨w.heap.size, 1, none⟩ = some (.int .i64 (n : Int)) ∧ wr.drew.cell? ⟨w.heap.size, 2, none⟩ = some (.slice M nm cm) ∧ wr.drew.cell? ⟨w.heap.size, 3, none⟩ = some (.slice E ne ce) ∧ wr.drew.cell? (od.add i) = some (.int .i64 t9) := ⟨c0, c1, c2, c3, hoc⟩
      have HCD := Lib.hid (HC.out.quiet (below_dr wr))
      have HBR := Lib.hid (hBW.trans ((below_dr wr).mono hBW.size))
      have hodb2 : od.block < wr.drew.heap.size := hodb
      obtain ⟨hcap1, hcap2⟩ := own_cap' HC.out.ord
      have HTT := Lib.hid ht; clear ht
      clear HC hBW hbw c0 c1 c2 c3 hoc ht9 hodb
      go_wp2
      refine wp_region_U (fun W => W.cell? ⟨w.heap.size, 0, none⟩ = some (.slice A na ca) ∧ W.cell? ⟨w.heap.size, 1, none⟩ = some (.int .i64 (n : Int)) ∧ W.cell? ⟨w.heap.size, 2, none⟩ = some (.slice M nm cm) ∧ W.cell? ⟨w.heap.size, 3, none⟩ = some (.slice E ne ce) ∧ W.cell? (od.add i) = some (.int .i64 t9)) (fun _ => True) 11 (by kernel_rfl) ?_
      change anyU _ _ _ _ _ _ _ 12 _ _ _
      have hB0 : True := trivial
      generalize hwd : wr.drew = wd at hA0 HCD HBR HBN hodb2 ⊢
      have HWD := Lib.hid hwd; clear hwd
      (refine uA 0 ?_ rfl hA0 hB0 (fun W hA => ?_) ?_; rotate_left; (· (go_simp; try with_reducible rfl)); refine uA 1 ?_ rfl hA0 hB0 (fun W hA => ?_) ?_; rotate_left; (· (go_simp; try with_reducible rfl)); refine uA 2 ?_ rfl hA0 hB0 (fun W hA => ?_) ?_; rotate_left; (· (go_simp; try with_reducible rfl)); refine uA 3 ?_ rfl hA0 hB0 (fun W hA => ?_) ?_; rotate_left; (· (go_simp; try with_reducible rfl)); refine uA 4 ?_ rfl hA0 hB0 (fun W hA => ?_) ?_; rotate_left; (· (go_simp; try with_reducible rfl)); refine uA 5 ?_ rfl hA0 hB0 (fun W hA => ?_) ?_; rotate_left; (· (go_simp; try with_reducible rfl)); (try simp only [Act.put, List.setIfInBounds_toArray, List.set_cons_zero, List.set_cons_succ]))
      cases hq : hasB a.ma t9 with
      | true =>
       have HB9 := Lib.hid (HBN.out true hq)
       have HMK := Lib.hid (show mksN (mkA a) s.ts i ++ [(i : Int)] = mksN (mkA a) s.ts (i + 1) by rw [mksN_yes HTT.out (show mkA a t9 = true from hq)])
       clear HBN hq
       refine uOne (i := 6) rfl (by kernel_rfl) (fun K hK => ?_)
       go_simp
       go_at_call 89
       refine HB9.out.mono ?_
       rintro e w5 ⟨⟨pos, rfl⟩, rfl⟩
       (refine hK _ _ ⟨hA0, fun _ => hB0⟩ ?_; clear hK K; (try simp only [Act.put, List.setIfInBounds_toArray, List.set_cons_zero, List.set_cons_succ]))
       (refine uA 7 ?_ rfl hA0 hB0 (fun W hA => ?_) ?_; rotate_left; (· (go_simp; try with_reducible rfl)); refine uA 8 ?_ rfl hA0 hB0 (fun W hA => ?_) ?_; rotate_left; (· (go_simp; try with_reducible rfl)); refine uA 9 ?_ rfl hA0 hB0 (fun W hA => ?_) ?_; rotate_left; (· (go_simp; try with_reducible rfl)); (try simp only [Act.put, List.setIfInBounds_toArray, List.set_cons_zero, List.set_cons_succ]))
       refine uOne (i := 10) rfl (by kernel_rfl) (fun K hK => ?_)
       go_simp
       (refine hK _ _ ⟨hA0, fun _ => hB0⟩ ?_; clear hK K; (try simp only [Act.put, List.setIfInBounds_toArray, List.set_cons_zero, List.set_cons_succ]))
       refine uOne (i := 11) rfl (by kernel_rfl) (fun K hK => ?_)
       go_simp
       (refine hK _ _ ⟨hA0, fun _ => hB0⟩ ?_; clear hK K; (try simp only [Act.put, List.setIfInBounds_toArray, List.set_cons_zero, List.set_cons_succ]))
       refine anyU_done (by kernel_rfl) ?_ _
       have g2 : wd.cell? ⟨w2.heap.size, 2, none⟩ = some (.slice MA km mc) := HCD.out.blk.cell (j := 2) rfl
       have hbs : w2.heap.size + 2 ≤ wd.heap.size := HCD.out.lt
       clear hA0 HB9
       go_wp2_with (at_builtin; refine wpList_pushA wd [.int .i64 (i : Int)] rfl (.tmp 53) (.tmp 55) 22 rfl (w2.heap.size + 2) 3 (.int .i64 0) 1 8 Tryd.underlying22 int_info rfl (by decide) rfl (.slice MA km mc) km _ rfl HCD.out.mrk rfl (fun u hu => by simp at hu; subst hu; rfl) (by omega) (by omega) hbs ?_; intro MA2 mc2 w8 ho8 hg8 hl8; have B8 := HCD.out.blk.kept hg8 (own_lt_ne HCD.out.mrk (by omega)); have e8 : w8.cell? ⟨w2.heap.size, 2, none⟩ = some (.slice MA km mc) := B8.cell (j := 2) rfl; have f8 : w8.frozen? ⟨w2.heap.size, 2, none⟩ = false := B8.free 2; have l8 : w2.heap.size < w8.heap.size := B8.lt; have HC8 := Lib.hid (HCD.out.mark (i := (i : Int)) ho8 hg8 hl8); clear B8 ho8 hg8 hl8)
       clear e8 f8 l8 g2 hbs HCD HBR hodb2
       obtain ⟨mks, hmks⟩ : ∃ q, (mksN (mkA a) s.ts i ++ [(i : Int)]) = q := ⟨_, rfl⟩
       rw [hmks] at HMK HC8
       clear hmks
       have hBW := HB2.out.trans (HC8.out.bel.mono HB2.out.size)
       have hbw := HBX2.out.below HC8.out.bel (by omega)
       obtain ⟨od2, t8, e9, hodb3, ht9, hoc⟩ := (RdI.of_own HC8.out.ord).at_ (k := i) (by rw [HC8.out.orl]; exact hlt)
       obtain rfl : od = od2 := by injection e9
       obtain rfl : t8 = t9 := by rw [HTT.out] at ht9; injection ht9 with e; exact e.symm
       have hBD := hBW.trans ((below_dr ((w8.setCell ⟨w2.heap.size, 2, none⟩ (.slice MA2 (km + 1) mc2)))).mono hBW.size)
       have HOUT := Lib.hid (canonical_out w.heap.size A M E na ca nm cm ne ce a t8 ((w8.setCell ⟨w2.heap.size, 2, none⟩ (.slice MA2 (km + 1) mc2))).drew hBD.size HH.out.le (HH.out.re.below hBD) HH.out.ec HH.out.cE HW.out t0 (by rw [HNN.out]; exact t1) (n : Int))
       have hA0 : ((w8.setCell ⟨w2.heap.size, 2, none⟩ (.slice MA2 (km + 1) mc2))).drew.cell? ⟨w.heap.size, 0, none⟩ = some (.slice A na ca) ∧ ((w8.setCell ⟨w2.heap.size, 2, none⟩ (.slice MA2 (km + 1) mc2))).drew.cell? ⟨w.heap.size, 1, none⟩ = some (.int .i64 (n : Int)) ∧ ((w8.setCell ⟨w2.heap.size, 2, none⟩ (.slice MA2 (km + 1) mc2))).drew.cell? ⟨w.heap.size, 2, none⟩ = some (.slice M nm cm) ∧ ((w8.setCell ⟨w2.heap.size, 2, none⟩ (.slice MA2 (km + 1) mc2))).drew.cell? ⟨w.heap.size, 3, none⟩ = some (.slice E ne ce) ∧ ((w8.setCell ⟨w2.heap.size, 2, none⟩ (.slice MA2 (km + 1) mc2))).drew.cell? (od.add i) = some (.int .i64 t8) := ⟨hbw.cell (j := 0) rfl, hbw.cell (j := 1) rfl, hbw.cell (j := 2) rfl, hbw.cell (j := 3) rfl, hoc⟩
       have HCE := Lib.hid (HC8.out.quiet (below_dr _))
       have HBD := Lib.hid hBD
       have hodb4 : od.block < ((w8.setCell ⟨w2.heap.size, 2, none⟩ (.slice MA2 (km + 1) mc2))).drew.heap.size := hodb3
       have hl9 : w.heap.size < ((w8.setCell ⟨w2.heap.size, 2, none⟩ (.slice MA2 (km + 1) mc2))).drew.heap.size := by have h1 := HCE.out.lt; omega
       clear HC8 hBW hbw ht9 hoc hBD hodb3
       go_wp2
       refine wp_region_U (fun W => W.cell? ⟨w.heap.size, 0, none⟩ = some (.slice A na ca) ∧ W.cell? ⟨w.heap.size, 1, none⟩ = some (.int .i64 (n : Int)) ∧ W.cell? ⟨w.heap.size, 2, none⟩ = some (.slice M nm cm) ∧ W.cell? ⟨w.heap.size, 3, none⟩ = some (.slice E ne ce) ∧ W.cell? (od.add i) = some (.int .i64 t8)) (fun _ => True) 5 (by kernel_rfl) ?_
       change anyU _ _ _ _ _ _ _ 8 _ _ _
       have hB0 : True := trivial
       generalize hwe : ((w8.setCell ⟨w2.heap.size, 2, none⟩ (.slice MA2 (km + 1) mc2))).drew = we at hA0 HCE HBD HOUT hodb4 hl9 ⊢
       have HWE := Lib.hid hwe; clear hwe
       (refine uA 0 ?_ rfl hA0 hB0 (fun W hA => ?_) ?_; rotate_left; (· (go_simp; try with_reducible rfl)); refine uA 1 ?_ rfl hA0 hB0 (fun W hA => ?_) ?_; rotate_left; (· (go_simp; try with_reducible rfl)); refine uA 2 ?_ rfl hA0 hB0 (fun W hA => ?_) ?_; rotate_left; (· (go_simp; try with_reducible rfl)); refine uA 3 ?_ rfl hA0 hB0 (fun W hA => ?_) ?_; rotate_left; (· (go_simp; try with_reducible rfl)); refine uA 4 ?_ rfl hA0 hB0 (fun W hA => ?_) ?_; rotate_left; (· (go_simp; try with_reducible rfl)); refine uA 7 ?_ rfl hA0 hB0 (fun W hA => ?_) ?_; rotate_left; (· (go_simp; try with_reducible rfl)); (try simp only [Act.put, List.setIfInBounds_toArray, List.set_cons_zero, List.set_cons_succ]))
       refine uOne (i := 5) rfl (by kernel_rfl) (fun K hK => ?_)
       go_simp
       go_at_call 77
       refine HOUT.out.mono ?_
       rintro e w5 ⟨E', m, c', rfl, hml, hm32, hrx, hb5⟩
       have hA5 : w5.cell? ⟨w.heap.size, 0, none⟩ = some (.slice A na ca) ∧ w5.cell? ⟨w.heap.size, 1, none⟩ = some (.int .i64 (n : Int)) ∧ w5.cell? ⟨w.heap.size, 2, none⟩ = some (.slice M nm cm) ∧ w5.cell? ⟨w.heap.size, 3, none⟩ = some (.slice E ne ce) ∧ w5.cell? (od.add i) = some (.int .i64 t8) := ⟨(hb5.cell (p := ⟨w.heap.size, 0, none⟩) hl9).trans hA0.1, (hb5.cell (p := ⟨w.heap.size, 1, none⟩) hl9).trans hA0.2.1, (hb5.cell (p := ⟨w.heap.size, 2, none⟩) hl9).trans hA0.2.2.1, (hb5.cell (p := ⟨w.heap.size, 3, none⟩) hl9).trans hA0.2.2.2.1, (hb5.cell (p := od.add i) (by rw [block_of_add]; exact hodb4)).trans hA0.2.2.2.2⟩
       have HCF := Lib.hid (HCE.out.quiet hb5)
       have HRX := Lib.hid (show RdX w2 w.heap.size E' (outE a t8) from hrx.keep fun p hp => ((HCE.out.quiet hb5).bel.cell (by omega)).symm)
       have HML := Lib.hid hml; clear hml
       clear hA0 HCE HOUT hb5 hrx hl9 hodb4 HBD
       (refine hK _ _ ⟨hA5, fun _ => hB0⟩ ?_; clear hK K; (try simp only [Act.put, List.setIfInBounds_toArray, List.set_cons_zero, List.set_cons_succ]))
       refine uOne (i := 6) rfl (by kernel_rfl) (fun K hK => ?_)
       go_simp
       (refine hK _ _ ⟨hA5, fun _ => hB0⟩ ?_; clear hK K; (try simp only [Act.put, List.setIfInBounds_toArray, List.set_cons_zero, List.set_cons_succ]))
       refine anyU_done (by kernel_rfl) ?_ _
       clear hA5
       have HEI := Lib.hid (EInv.start HW.out HBI.out HTT.out)
       have hts1 : s.ts.length = no := HCF.out.orl
       have HMI := Lib.hid (show mks = mksN (mkA a) s.ts (i + 1) from HMK.out)
       have HBF := Lib.hid (show ∀ s', bsF 4096 (stA a) i t8 a.al s = some s' → bsR 4096 (stA a) a.al (4097 - (i + 1)) (i + 1) s' = canS a from fun s' hs' => by
        have e := HBS.out
        rw [show 4097 - i = (4097 - (i + 1)) + 1 by omega, bsR_go HTT.out hs'] at e
        exact e)
       have hke2 : ke ≤ i * 32 + 0 := hke
       have hts2 : i + 1 ≤ s.ts.length := by omega
       have HNU2 := HNU
       obtain ⟨F, hF⟩ : ∃ F, bsF 4096 (stA a) i t8 a.al s = F := ⟨_, rfl⟩
       rw [hF] at HEI HBF
       clear HBS HNU HBI HMK hF hke
       go_wp2
       go_loopw [6, 65] (fun s6 s65 wr => ∃ (p no ke : Nat) (ov ev : Value) (N : List Int) (s : Bs Int), s65 = .int .i64 p ∧ s6 = ov ∧ p ≤ m ∧ i + 1 ≤ no ∧ no ≤ 4096 ∧ ke ≤ i * 32 + p ∧ Hid (CanM w2.heap.size w2 wr (.slice V na cv) (.int .i64 0) (.slice MA2 (km + 1) mc2) ov ev (km + 1) no ke N mks s.ts s.es) ∧ Hid (NumI N s.ts n) ∧ Hid (EInv a i t8 (outE a t8) p F s) ∧ Hid (mks = mksN (mkA a) s.ts (i + 1))) (fun _ s65 _ => m - (intOf s65).toNat)
       case atStart => exact ⟨0, no, ke, _, _, N, s, rfl, rfl, Nat.zero_le _, by omega, hno, hke2, HCF, HNU2, HEI, HMI⟩
       case round =>
        clear HCF HNU2 HEI HMI hts1 hts2 hke2 hcap1 hcap2 hno hlt b1
        obtain ⟨p, no, ke, ov, ev, N, s, rfl, rfl, hp, hio, hno, hke, HC, HNU, HEI, HMI⟩ := hrel
        obtain ⟨OA, oc, rfl⟩ := own_shape HC.out.ord
        obtain ⟨EA, ec, rfl⟩ := own_shape HC.out.edg
        by_cases hlt : p < m
        ·obtain ⟨ad, x, rfl, hab, hx, hcell⟩ := (HRX.out.after HC.out.bel (by omega)).get (k := p) (by rw [HML.out]; exact hlt)
         have b1 : (p : Int) < (m : Int) := by omega
         obtain ⟨_, _, x0, x1⟩ := out_st HW.out (List.mem_of_getElem? hx)
         rw [HNN.out] at x1
         have q0 : wr.cell? (ad.add (p * 3)) = some (.int .i64 x.f) := hcell 0 _ rfl
         have q1 : wr.cell? ⟨(ad.add (p * 3)).block, (ad.add (p * 3)).off + 1, none⟩ = some (.int .i64 x.e) := st_cells (j := 0) (hcell 1 _ rfl)
         have q2 : wr.cell? ⟨(ad.add (p * 3)).block, (ad.add (p * 3)).off + 2, none⟩ = some (.int .i64 x.t) := st_cells (j := 1) (hcell 2 _ rfl)
         have hst := HEI.out.step HW.out HMN.out hx
         have HCX := Lib.hid (HC.out.quiet (box_below wr (.cells #[.int .i64 x.f, .int .i64 x.e, .int .i64 x.t] 83)))
         have kx : Blk (wr.alloc (.cells #[.int .i64 x.f, .int .i64 x.e, .int .i64 x.t] 83)) wr.heap.size 83 [.int .i64 x.f, .int .i64 x.e, .int .i64 x.t] := Blk.new _ _ _
         have k0 := kx.cell (j := 0) rfl
         have k1 := kx.cell (j := 1) rfl
         have k2 := kx.cell (j := 2) rfl
         have hNa := HNU.out.at_ x0 x1
         have hn1 : (wr.alloc (.cells #[.int .i64 x.f, .int .i64 x.e, .int .i64 x.t] 83)).cell? ⟨w2.heap.size + 1, x.t.toNat, none⟩ = some (.int .i64 (idx s.ts x.t)) := HCX.out.num.cell (by rw [iv_get, hNa]; rfl)
         have hlw : w2.heap.size + 1 < wr.heap.size := HC.out.lt
         have HNL := Lib.hid (show x.t.toNat < N.length by rw [HNU.out.1]; omega)
         have HED := Lib.hid (show ∀ g, (Value.slice EA ke ec).ownBlock = some g → g < wr.heap.size from fun g hg => (HC.out.edg.lt g hg).2)
         have HOD := Lib.hid (show ∀ g, (Value.slice OA no oc).ownBlock = some g → g < wr.heap.size from fun g hg => (HC.out.ord.lt g hg).2)
         have hol : s.ts.length = no := HC.out.orl
         have hil : i + 1 ≤ s.ts.length := by omega
         have KX := Lib.hid kx; clear kx
         have HST := Lib.hid hst; clear hst
         clear hcell hNa hab
         by_cases hi0 : idx s.ts x.t < 0
         ·obtain ⟨hnot, hlen, HE2⟩ := HST.out.1 hi0
          have d1 : decide (idx s.ts x.t < 0) = true := decide_eq_true hi0
          have hlen2 : no < 4096 := by rw [← HC.out.orl]; exact hlen
          have hg2 : (wr.alloc (.cells #[.int .i64 x.f, .int .i64 x.e, .int .i64 x.t] 83)).frozen? ⟨w2.heap.size + 1, x.t.toNat, none⟩ = false := HCX.out.num.free _
          have hse : (wr.setCell ⟨w2.heap.size + 1, x.t.toNat, none⟩ (.int .i64 (no : Int))).heap.size = wr.heap.size := by simp [World.setCell]
          have HCP := Lib.hid ((HC.out.put x.t.toNat HNL.out (no : Int)).quiet (box_below _ (.cells #[.int .i64 x.f, .int .i64 x.e, .int .i64 x.t] 83)))
          have kx2 := Blk.new (wr.setCell ⟨w2.heap.size + 1, x.t.toNat, none⟩ (.int .i64 (no : Int))) 83 [.int .i64 x.f, .int .i64 x.e, .int .i64 x.t]
          rw [hse] at kx2
          have HNU2 := Lib.hid (HNU.out.put x0 x1 hnot)
          rw [hol] at HNU2 HE2
          have HE3 := Lib.hid HE2
          have HYY := Lib.hid (show idx (s.ts ++ [x.t]) x.t = (no : Int) by rw [idx_new hnot, hol])
          have HMI2 := Lib.hid (show mks = mksN (mkA a) (s.ts ++ [x.t]) (i + 1) by rw [mksN_app hil]; exact HMI.out)
          have hbs : w2.heap.size + 2 ≤ ((wr.setCell ⟨w2.heap.size + 1, x.t.toNat, none⟩ (.int .i64 (no : Int))).alloc (.cells #[.int .i64 x.f, .int .i64 x.e, .int .i64 x.t] 83)).heap.size := by rw [World.size_alloc, hse]; omega
          have HSZ2 := Lib.hid (show ((wr.setCell ⟨w2.heap.size + 1, x.t.toNat, none⟩ (.int .i64 (no : Int))).alloc (.cells #[.int .i64 x.f, .int .i64 x.e, .int .i64 x.t] 83)).heap.size = wr.heap.size + 1 by rw [World.size_alloc, hse])
          have KX2 := Lib.hid kx2; clear kx2
          have HSE := Lib.hid hse; clear hse
          clear HE2 hnot HC HCX KX
          go_wp2_with (at_builtin; go_loud (refine wpList_pushA ((wr.setCell ⟨w2.heap.size + 1, x.t.toNat, none⟩ (.int .i64 (no : Int))).alloc (.cells #[.int .i64 x.f, .int .i64 x.e, .int .i64 x.t] 83)) [.int .i64 x.t] rfl (.tmp 81) (.tmp 84) 22 rfl (w2.heap.size + 2) 3 (.int .i64 0) 1 8 Tryd.underlying22 int_info rfl (by decide) rfl (.slice OA no oc) no _ rfl HCP.out.ord (by rw [HSZ2.out]; rfl) (fun u hu => by simp at hu; subst hu; rfl) (by omega) (by omega) hbs ?_; intro OA2 oc2 w8 ho8 hg8 hl8; have HC8 := Lib.hid (HCP.out.more (i := x.t) ho8 hg8 hl8); have KX8 := Lib.hid (KX2.out.kept hg8 (fun e => by have := HOD.out _ e.symm; omega)); clear ho8 hg8 hl8 q0 q1 q2 k0 k1 k2 hn1 hg2 hbs))
          have k1 : (w8).drew.cell? ⟨wr.heap.size, 1, none⟩ = some (.int .i64 x.e) := KX8.out.cell (j := 1) rfl
          have k2 : (w8).drew.cell? ⟨wr.heap.size, 2, none⟩ = some (.int .i64 x.t) := KX8.out.cell (j := 2) rfl
          have hn9 : (w8).drew.cell? ⟨w2.heap.size + 1, x.t.toNat, none⟩ = some (.int .i64 ((no : Int))) := (HC8.out.quiet (below_dr (w8))).num.cell (by rw [iv_get, HNU2.out.at_ x0 x1, HYY.out]; rfl)
          have hA0 : (w8).drew.cell? ⟨wr.heap.size, 1, none⟩ = some (.int .i64 x.e) ∧ (w8).drew.cell? ⟨wr.heap.size, 2, none⟩ = some (.int .i64 x.t) ∧ (w8).drew.cell? ⟨w2.heap.size + 1, x.t.toNat, none⟩ = some (.int .i64 ((no : Int))) := ⟨k1, k2, hn9⟩
          have hB0 : (w8).drew.cell? ⟨w2.heap.size, 3, none⟩ = some (.slice EA ke ec) := HC8.out.blk.cell (j := 3) rfl
          have HCG := Lib.hid (HC8.out.quiet (below_dr (w8)))
          have hxb : wr.heap.size < (w8).drew.heap.size := KX8.out.lt
          have hbs : w2.heap.size + 2 ≤ (w8).drew.heap.size := by omega
          clear k1 k2 hn9 HC8 KX8
          go_wp2
          refine wp_region_U (fun W => W.cell? ⟨wr.heap.size, 1, none⟩ = some (.int .i64 x.e) ∧ W.cell? ⟨wr.heap.size, 2, none⟩ = some (.int .i64 x.t) ∧ W.cell? ⟨w2.heap.size + 1, x.t.toNat, none⟩ = some (.int .i64 ((no : Int)))) (fun W => W.cell? ⟨w2.heap.size, 3, none⟩ = some (.slice EA ke ec)) 12 (by kernel_rfl) ?_
          change anyU _ _ _ _ _ _ _ 15 _ _ _
          generalize hwf : (w8).drew = wf at hA0 hB0 HCG hxb hbs ⊢
          have HWF := Lib.hid hwf; clear hwf
          (refine uA 0 ?_ rfl hA0 hB0 (fun W hA => ?_) ?_; rotate_left; (· (go_simp; try with_reducible rfl)); (try simp only [Act.put, List.setIfInBounds_toArray, List.set_cons_zero, List.set_cons_succ]))
          (refine uB 1 ?_ rfl hA0 hB0 (fun W hA hB => ?_) ?_; rotate_left; (· (go_simp; try with_reducible rfl)); (try simp only [Act.put, List.setIfInBounds_toArray, List.set_cons_zero, List.set_cons_succ]))
          (refine uA 2 ?_ rfl hA0 hB0 (fun W hA => ?_) ?_; rotate_left; (· (go_simp; try with_reducible rfl)); refine uA 3 ?_ rfl hA0 hB0 (fun W hA => ?_) ?_; rotate_left; (· (go_simp; try with_reducible rfl)); refine uA 4 ?_ rfl hA0 hB0 (fun W hA => ?_) ?_; rotate_left; (· (go_simp; try with_reducible rfl)); refine uA 5 ?_ rfl hA0 hB0 (fun W hA => ?_) ?_; rotate_left; (· (go_simp; try with_reducible rfl)); refine uA 6 ?_ rfl hA0 hB0 (fun W hA => ?_) ?_; rotate_left; (· (go_simp; try with_reducible rfl)); refine uA 7 ?_ rfl hA0 hB0 (fun W hA => ?_) ?_; rotate_left; (· (go_simp; try with_reducible rfl)); refine uA 8 ?_ rfl hA0 hB0 (fun W hA => ?_) ?_; rotate_left; (· (go_simp; try with_reducible rfl)); refine uA 9 ?_ rfl hA0 hB0 (fun W hA => ?_) ?_; rotate_left; (· (go_simp; try with_reducible rfl)); refine uA 10 ?_ rfl hA0 hB0 (fun W hA => ?_) ?_; rotate_left; (· (go_simp; try with_reducible rfl)); (try simp only [Act.put, List.setIfInBounds_toArray, List.set_cons_zero, List.set_cons_succ]))
          refine uOne (i := 11) rfl (by kernel_rfl) (fun K hK => ?_)
          go_simp
          have hA1 : (wf.alloc (.cells #[.int .i64 (i : Int), .int .i64 x.e, .int .i64 ((no : Int))] 83)).cell? ⟨wr.heap.size, 1, none⟩ = some (.int .i64 x.e) ∧ (wf.alloc (.cells #[.int .i64 (i : Int), .int .i64 x.e, .int .i64 ((no : Int))] 83)).cell? ⟨wr.heap.size, 2, none⟩ = some (.int .i64 x.t) ∧ (wf.alloc (.cells #[.int .i64 (i : Int), .int .i64 x.e, .int .i64 ((no : Int))] 83)).cell? ⟨w2.heap.size + 1, x.t.toNat, none⟩ = some (.int .i64 ((no : Int))) := ⟨(World.cell?_alloc_lt wf _ ⟨wr.heap.size, 1, none⟩ hxb).trans hA0.1, (World.cell?_alloc_lt wf _ ⟨wr.heap.size, 2, none⟩ hxb).trans hA0.2.1, (World.cell?_alloc_lt wf _ ⟨w2.heap.size + 1, x.t.toNat, none⟩ hbs).trans hA0.2.2⟩
          have hB1 : (wf.alloc (.cells #[.int .i64 (i : Int), .int .i64 x.e, .int .i64 ((no : Int))] 83)).cell? ⟨w2.heap.size, 3, none⟩ = some (.slice EA ke ec) := (World.cell?_alloc_lt wf _ ⟨w2.heap.size, 3, none⟩ (Nat.lt_of_succ_lt hbs)).trans hB0
          (refine hK _ _ ⟨hA1, fun _ => hB1⟩ ?_; clear hK K; (try simp only [Act.put, List.setIfInBounds_toArray, List.set_cons_zero, List.set_cons_succ]))
          refine uOne (i := 12) rfl (by kernel_rfl) (fun K hK => ?_)
          refine step_pushN wf [.int .i64 (i : Int), .int .i64 x.e, .int .i64 ((no : Int))] (by rfl) (.tmp 87) (.tmp 97) 23 (by rfl) (w2.heap.size + 2) 83 (.agg #[.int .i64 0, .int .i64 0, .int .i64 0]) 3 24 Tryd.underlying23 edge_info (by rfl) (by decide) (by rfl) (.slice EA ke ec) ke _ (by rfl) HCG.out.edg (by rfl) (fun q hq => by simp at hq; rcases hq with rfl | rfl | rfl <;> rfl) (by omega) (by omega) hbs ?_
          intro A9 c9 w9 ho9 hg9
          have B9 := HCG.out.blk.kept hg9 (own_lt_ne HCG.out.edg (by omega))
          have e9 : w9.cell? ⟨w2.heap.size, 3, none⟩ = some (.slice EA ke ec) := B9.cell (j := 3) rfl
          have f9 : w9.frozen? ⟨w2.heap.size, 3, none⟩ = false := B9.free 3
          have l9 : w2.heap.size < w9.heap.size := B9.lt
          have HC9 := Lib.hid (HCG.out.edge (x := ⟨i, x.e, (no : Int)⟩) ho9 hg9)
          have hn1 : ∀ j, w9.cell? ⟨wr.heap.size, j, none⟩ = wf.cell? ⟨wr.heap.size, j, none⟩ := fun j => hg9.cell_far ⟨wr.heap.size, j, none⟩ hxb (fun e => by have := HED.out _ e.symm; simp only at this; omega)
          have hn2 : w9.cell? ⟨w2.heap.size + 1, x.t.toNat, none⟩ = wf.cell? ⟨w2.heap.size + 1, x.t.toNat, none⟩ := hg9.cell_far ⟨w2.heap.size + 1, x.t.toNat, none⟩ hbs (fun e => by have := (HCG.out.edg.lt _ e.symm).1; simp only at this; omega)
          have hA2 : w9.cell? ⟨wr.heap.size, 1, none⟩ = some (.int .i64 x.e) ∧ w9.cell? ⟨wr.heap.size, 2, none⟩ = some (.int .i64 x.t) ∧ w9.cell? ⟨w2.heap.size + 1, x.t.toNat, none⟩ = some (.int .i64 ((no : Int))) := ⟨(hn1 1).trans hA0.1, (hn1 2).trans hA0.2.1, hn2.trans hA0.2.2⟩
          have hx9 : wr.heap.size < w9.heap.size := Nat.lt_of_lt_of_le hxb hg9.size
          have hy9 : w2.heap.size + 1 < w9.heap.size := Nat.lt_of_lt_of_le hbs hg9.size
          clear B9 ho9 hg9 hn1 hn2 hA1 hB1 hA0 hB0 HCG
          (refine hK _ _ ⟨hA2, fun h => absurd (h.symm.trans (by kernel_rfl : _ = true)) Bool.false_ne_true⟩ ?_; clear hK K; (try simp only [Act.put, List.setIfInBounds_toArray, List.set_cons_zero, List.set_cons_succ]))
          refine uOne (i := 13) rfl (by kernel_rfl) (fun K hK => ?_)
          go_simp
          (refine hK _ _ ⟨hA2, fun h => absurd (h.symm.trans (by kernel_rfl : _ = true)) Bool.false_ne_true⟩ ?_; clear hK K; (try simp only [Act.put, List.setIfInBounds_toArray, List.set_cons_zero, List.set_cons_succ]))
          have hsc := grown_setCell w9 w2.heap.size 3 (.slice A9 (ke + 1) c9)
          have hA3 : (w9.setCell ⟨w2.heap.size, 3, none⟩ (.slice A9 (ke + 1) c9)).cell? ⟨wr.heap.size, 1, none⟩ = some (.int .i64 x.e) ∧ (w9.setCell ⟨w2.heap.size, 3, none⟩ (.slice A9 (ke + 1) c9)).cell? ⟨wr.heap.size, 2, none⟩ = some (.int .i64 x.t) ∧ (w9.setCell ⟨w2.heap.size, 3, none⟩ (.slice A9 (ke + 1) c9)).cell? ⟨w2.heap.size + 1, x.t.toNat, none⟩ = some (.int .i64 ((no : Int))) := ⟨(hsc.cell_far ⟨wr.heap.size, 1, none⟩ hx9 (fun e => by injection e with e; simp only at e; omega)).trans hA2.1, (hsc.cell_far ⟨wr.heap.size, 2, none⟩ hx9 (fun e => by injection e with e; simp only at e; omega)).trans hA2.2.1, (hsc.cell_far ⟨w2.heap.size + 1, x.t.toNat, none⟩ hy9 (fun e => by injection e with e; simp only at e; omega)).trans hA2.2.2⟩
          clear hsc
          refine uOne (i := 14) rfl (by kernel_rfl) (fun K hK => ?_)
          go_simp
          (refine hK _ _ ⟨hA3, fun h => absurd (h.symm.trans (by kernel_rfl : _ = true)) Bool.false_ne_true⟩ ?_; clear hK K; (try simp only [Act.put, List.setIfInBounds_toArray, List.set_cons_zero, List.set_cons_succ]))
          refine anyU_done (by kernel_rfl) ?_ _
          clear hA2 hA3 e9 f9 l9 hx9 hy9
          go_wp2
          go_roundw
          case rel => exact ⟨p + 1, (no + 1), ke + 1, _, _, (N.set x.t.toNat (no : Int)), ⟨(s.ts ++ [x.t]), s.es ++ [⟨i, x.e, (no : Int)⟩]⟩, by go_num, rfl, by omega, by omega, by omega, by omega, HC9, HNU2, HE3, HMI2⟩
          case measure => simp [intOf]; omega
         ·have HE2 := Lib.hid (HST.out.2 hi0)
          have d1 : decide (idx s.ts x.t < 0) = false := decide_eq_false hi0
          have HNA := Lib.hid (HNU.out.at_ x0 x1)
          clear HC
          obtain ⟨y, hy⟩ : ∃ y, idx s.ts x.t = y := ⟨_, rfl⟩
          rw [hy] at hn1 d1 HE2 HNA
          have HYY := Lib.hid hy
          clear hy hi0
          go_wp2
          clear q0 q1 q2 k0 k1 k2 hn1
          have hn1 : (wr.alloc (.cells #[.int .i64 x.f, .int .i64 x.e, .int .i64 x.t] 83)).cell? ⟨w2.heap.size + 1, x.t.toNat, none⟩ = some (.int .i64 y) := HCX.out.num.cell (by rw [iv_get, HNA.out]; rfl)
          have k1 : ((wr.alloc (.cells #[.int .i64 x.f, .int .i64 x.e, .int .i64 x.t] 83))).drew.cell? ⟨wr.heap.size, 1, none⟩ = some (.int .i64 x.e) := KX.out.cell (j := 1) rfl
          have k2 : ((wr.alloc (.cells #[.int .i64 x.f, .int .i64 x.e, .int .i64 x.t] 83))).drew.cell? ⟨wr.heap.size, 2, none⟩ = some (.int .i64 x.t) := KX.out.cell (j := 2) rfl
          have hn9 : ((wr.alloc (.cells #[.int .i64 x.f, .int .i64 x.e, .int .i64 x.t] 83))).drew.cell? ⟨w2.heap.size + 1, x.t.toNat, none⟩ = some (.int .i64 (y)) := (HCX.out.quiet (below_dr ((wr.alloc (.cells #[.int .i64 x.f, .int .i64 x.e, .int .i64 x.t] 83))))).num.cell (by rw [iv_get, HNU.out.at_ x0 x1, HYY.out]; rfl)
          have hA0 : ((wr.alloc (.cells #[.int .i64 x.f, .int .i64 x.e, .int .i64 x.t] 83))).drew.cell? ⟨wr.heap.size, 1, none⟩ = some (.int .i64 x.e) ∧ ((wr.alloc (.cells #[.int .i64 x.f, .int .i64 x.e, .int .i64 x.t] 83))).drew.cell? ⟨wr.heap.size, 2, none⟩ = some (.int .i64 x.t) ∧ ((wr.alloc (.cells #[.int .i64 x.f, .int .i64 x.e, .int .i64 x.t] 83))).drew.cell? ⟨w2.heap.size + 1, x.t.toNat, none⟩ = some (.int .i64 (y)) := ⟨k1, k2, hn9⟩
          have hB0 : ((wr.alloc (.cells #[.int .i64 x.f, .int .i64 x.e, .int .i64 x.t] 83))).drew.cell? ⟨w2.heap.size, 3, none⟩ = some (.slice EA ke ec) := HCX.out.blk.cell (j := 3) rfl
          have HCG := Lib.hid (HCX.out.quiet (below_dr ((wr.alloc (.cells #[.int .i64 x.f, .int .i64 x.e, .int .i64 x.t] 83)))))
          have hxb : wr.heap.size < ((wr.alloc (.cells #[.int .i64 x.f, .int .i64 x.e, .int .i64 x.t] 83))).drew.heap.size := KX.out.lt
          have hbs : w2.heap.size + 2 ≤ ((wr.alloc (.cells #[.int .i64 x.f, .int .i64 x.e, .int .i64 x.t] 83))).drew.heap.size := by omega
          clear k1 k2 hn9 HCX KX
          go_wp2
          refine wp_region_U (fun W => W.cell? ⟨wr.heap.size, 1, none⟩ = some (.int .i64 x.e) ∧ W.cell? ⟨wr.heap.size, 2, none⟩ = some (.int .i64 x.t) ∧ W.cell? ⟨w2.heap.size + 1, x.t.toNat, none⟩ = some (.int .i64 (y))) (fun W => W.cell? ⟨w2.heap.size, 3, none⟩ = some (.slice EA ke ec)) 12 (by kernel_rfl) ?_
          change anyU _ _ _ _ _ _ _ 15 _ _ _
          generalize hwf : ((wr.alloc (.cells #[.int .i64 x.f, .int .i64 x.e, .int .i64 x.t] 83))).drew = wf at hA0 hB0 HCG hxb hbs ⊢
          have HWF := Lib.hid hwf; clear hwf
          (refine uA 0 ?_ rfl hA0 hB0 (fun W hA => ?_) ?_; rotate_left; (· (go_simp; try with_reducible rfl)); (try simp only [Act.put, List.setIfInBounds_toArray, List.set_cons_zero, List.set_cons_succ]))
          (refine uB 1 ?_ rfl hA0 hB0 (fun W hA hB => ?_) ?_; rotate_left; (· (go_simp; try with_reducible rfl)); (try simp only [Act.put, List.setIfInBounds_toArray, List.set_cons_zero, List.set_cons_succ]))
          (refine uA 2 ?_ rfl hA0 hB0 (fun W hA => ?_) ?_; rotate_left; (· (go_simp; try with_reducible rfl)); refine uA 3 ?_ rfl hA0 hB0 (fun W hA => ?_) ?_; rotate_left; (· (go_simp; try with_reducible rfl)); refine uA 4 ?_ rfl hA0 hB0 (fun W hA => ?_) ?_; rotate_left; (· (go_simp; try with_reducible rfl)); refine uA 5 ?_ rfl hA0 hB0 (fun W hA => ?_) ?_; rotate_left; (· (go_simp; try with_reducible rfl)); refine uA 6 ?_ rfl hA0 hB0 (fun W hA => ?_) ?_; rotate_left; (· (go_simp; try with_reducible rfl)); refine uA 7 ?_ rfl hA0 hB0 (fun W hA => ?_) ?_; rotate_left; (· (go_simp; try with_reducible rfl)); refine uA 8 ?_ rfl hA0 hB0 (fun W hA => ?_) ?_; rotate_left; (· (go_simp; try with_reducible rfl)); refine uA 9 ?_ rfl hA0 hB0 (fun W hA => ?_) ?_; rotate_left; (· (go_simp; try with_reducible rfl)); refine uA 10 ?_ rfl hA0 hB0 (fun W hA => ?_) ?_; rotate_left; (· (go_simp; try with_reducible rfl)); (try simp only [Act.put, List.setIfInBounds_toArray, List.set_cons_zero, List.set_cons_succ]))
          refine uOne (i := 11) rfl (by kernel_rfl) (fun K hK => ?_)
          go_simp
          have hA1 : (wf.alloc (.cells #[.int .i64 (i : Int), .int .i64 x.e, .int .i64 (y)] 83)).cell? ⟨wr.heap.size, 1, none⟩ = some (.int .i64 x.e) ∧ (wf.alloc (.cells #[.int .i64 (i : Int), .int .i64 x.e, .int .i64 (y)] 83)).cell? ⟨wr.heap.size, 2, none⟩ = some (.int .i64 x.t) ∧ (wf.alloc (.cells #[.int .i64 (i : Int), .int .i64 x.e, .int .i64 (y)] 83)).cell? ⟨w2.heap.size + 1, x.t.toNat, none⟩ = some (.int .i64 (y)) := ⟨(World.cell?_alloc_lt wf _ ⟨wr.heap.size, 1, none⟩ hxb).trans hA0.1, (World.cell?_alloc_lt wf _ ⟨wr.heap.size, 2, none⟩ hxb).trans hA0.2.1, (World.cell?_alloc_lt wf _ ⟨w2.heap.size + 1, x.t.toNat, none⟩ hbs).trans hA0.2.2⟩
          have hB1 : (wf.alloc (.cells #[.int .i64 (i : Int), .int .i64 x.e, .int .i64 (y)] 83)).cell? ⟨w2.heap.size, 3, none⟩ = some (.slice EA ke ec) := (World.cell?_alloc_lt wf _ ⟨w2.heap.size, 3, none⟩ (Nat.lt_of_succ_lt hbs)).trans hB0
          (refine hK _ _ ⟨hA1, fun _ => hB1⟩ ?_; clear hK K; (try simp only [Act.put, List.setIfInBounds_toArray, List.set_cons_zero, List.set_cons_succ]))
          refine uOne (i := 12) rfl (by kernel_rfl) (fun K hK => ?_)
          refine step_pushN wf [.int .i64 (i : Int), .int .i64 x.e, .int .i64 (y)] (by rfl) (.tmp 87) (.tmp 97) 23 (by rfl) (w2.heap.size + 2) 83 (.agg #[.int .i64 0, .int .i64 0, .int .i64 0]) 3 24 Tryd.underlying23 edge_info (by rfl) (by decide) (by rfl) (.slice EA ke ec) ke _ (by rfl) HCG.out.edg (by rfl) (fun q hq => by simp at hq; rcases hq with rfl | rfl | rfl <;> rfl) (by omega) (by omega) hbs ?_
          intro A9 c9 w9 ho9 hg9
          have B9 := HCG.out.blk.kept hg9 (own_lt_ne HCG.out.edg (by omega))
          have e9 : w9.cell? ⟨w2.heap.size, 3, none⟩ = some (.slice EA ke ec) := B9.cell (j := 3) rfl
          have f9 : w9.frozen? ⟨w2.heap.size, 3, none⟩ = false := B9.free 3
          have l9 : w2.heap.size < w9.heap.size := B9.lt
          have HC9 := Lib.hid (HCG.out.edge (x := ⟨i, x.e, y⟩) ho9 hg9)
          have hn1 : ∀ j, w9.cell? ⟨wr.heap.size, j, none⟩ = wf.cell? ⟨wr.heap.size, j, none⟩ := fun j => hg9.cell_far ⟨wr.heap.size, j, none⟩ hxb (fun e => by have := HED.out _ e.symm; simp only at this; omega)
          have hn2 : w9.cell? ⟨w2.heap.size + 1, x.t.toNat, none⟩ = wf.cell? ⟨w2.heap.size + 1, x.t.toNat, none⟩ := hg9.cell_far ⟨w2.heap.size + 1, x.t.toNat, none⟩ hbs (fun e => by have := (HCG.out.edg.lt _ e.symm).1; simp only at this; omega)
          have hA2 : w9.cell? ⟨wr.heap.size, 1, none⟩ = some (.int .i64 x.e) ∧ w9.cell? ⟨wr.heap.size, 2, none⟩ = some (.int .i64 x.t) ∧ w9.cell? ⟨w2.heap.size + 1, x.t.toNat, none⟩ = some (.int .i64 (y)) := ⟨(hn1 1).trans hA0.1, (hn1 2).trans hA0.2.1, hn2.trans hA0.2.2⟩
          have hx9 : wr.heap.size < w9.heap.size := Nat.lt_of_lt_of_le hxb hg9.size
          have hy9 : w2.heap.size + 1 < w9.heap.size := Nat.lt_of_lt_of_le hbs hg9.size
          clear B9 ho9 hg9 hn1 hn2 hA1 hB1 hA0 hB0 HCG
          (refine hK _ _ ⟨hA2, fun h => absurd (h.symm.trans (by kernel_rfl : _ = true)) Bool.false_ne_true⟩ ?_; clear hK K; (try simp only [Act.put, List.setIfInBounds_toArray, List.set_cons_zero, List.set_cons_succ]))
          refine uOne (i := 13) rfl (by kernel_rfl) (fun K hK => ?_)
          go_simp
          (refine hK _ _ ⟨hA2, fun h => absurd (h.symm.trans (by kernel_rfl : _ = true)) Bool.false_ne_true⟩ ?_; clear hK K; (try simp only [Act.put, List.setIfInBounds_toArray, List.set_cons_zero, List.set_cons_succ]))
          have hsc := grown_setCell w9 w2.heap.size 3 (.slice A9 (ke + 1) c9)
          have hA3 : (w9.setCell ⟨w2.heap.size, 3, none⟩ (.slice A9 (ke + 1) c9)).cell? ⟨wr.heap.size, 1, none⟩ = some (.int .i64 x.e) ∧ (w9.setCell ⟨w2.heap.size, 3, none⟩ (.slice A9 (ke + 1) c9)).cell? ⟨wr.heap.size, 2, none⟩ = some (.int .i64 x.t) ∧ (w9.setCell ⟨w2.heap.size, 3, none⟩ (.slice A9 (ke + 1) c9)).cell? ⟨w2.heap.size + 1, x.t.toNat, none⟩ = some (.int .i64 (y)) := ⟨(hsc.cell_far ⟨wr.heap.size, 1, none⟩ hx9 (fun e => by injection e with e; simp only at e; omega)).trans hA2.1, (hsc.cell_far ⟨wr.heap.size, 2, none⟩ hx9 (fun e => by injection e with e; simp only at e; omega)).trans hA2.2.1, (hsc.cell_far ⟨w2.heap.size + 1, x.t.toNat, none⟩ hy9 (fun e => by injection e with e; simp only at e; omega)).trans hA2.2.2⟩
          clear hsc
          refine uOne (i := 14) rfl (by kernel_rfl) (fun K hK => ?_)
          go_simp
          (refine hK _ _ ⟨hA3, fun h => absurd (h.symm.trans (by kernel_rfl : _ = true)) Bool.false_ne_true⟩ ?_; clear hK K; (try simp only [Act.put, List.setIfInBounds_toArray, List.set_cons_zero, List.set_cons_succ]))
          refine anyU_done (by kernel_rfl) ?_ _
          clear hA2 hA3 e9 f9 l9 hx9 hy9
          go_wp2
          go_roundw
          case rel => exact ⟨p + 1, no, ke + 1, _, _, N, ⟨s.ts, s.es ++ [⟨i, x.e, y⟩]⟩, by go_num, rfl, by omega, by omega, by omega, by omega, HC9, HNU, HE2, HMI⟩
          case measure => simp [intOf]; omega
        ·obtain rfl : p = m := by omega
         have b1 : ¬ (p : Int) < (p : Int) := by omega
         obtain ⟨hB1, hF1⟩ := HEI.out.done HW.out (by rw [HML.out]; exact Nat.le_refl _)
         have HB1 := Lib.hid hB1
         have HR1 := Lib.hid (HBF.out s hF1)
         have hmk := HMI.out
         have HC9 := Lib.hid (show CanM w2.heap.size w2 wr (.slice V na cv) (.int .i64 0) (.slice MA2 (km + 1) mc2) (.slice OA no oc) (.slice EA ke ec) (km + 1) no ke N (mksN (mkA a) s.ts (i + 1)) s.ts s.es by rw [← hmk]; exact HC.out)
         clear hB1 hF1 hmk
         go_wp2
         go_roundw
         case rel => exact ⟨i + 1, (km + 1), no, ke, _, _, _, N, s, by go_num, rfl, hio, hno, by omega, by omega, HC9, HNU, HB1, HR1⟩
         case measure => simp [intOf]; omega
      | false =>
       have HB9 := Lib.hid (HBN.out false hq)
       have HMK := Lib.hid (show mksN (mkA a) s.ts i = mksN (mkA a) s.ts (i + 1) by rw [mksN_no HTT.out (show mkA a t9 = false from hq)])
       clear HBN hq
       refine uOne (i := 6) rfl (by kernel_rfl) (fun K hK => ?_)
       go_simp
       go_at_call 89
       refine HB9.out.mono ?_
       rintro e w5 ⟨⟨pos, rfl⟩, rfl⟩
       (refine hK _ _ ⟨hA0, fun _ => hB0⟩ ?_; clear hK K; (try simp only [Act.put, List.setIfInBounds_toArray, List.set_cons_zero, List.set_cons_succ]))
       (refine uA 7 ?_ rfl hA0 hB0 (fun W hA => ?_) ?_; rotate_left; (· (go_simp; try with_reducible rfl)); refine uA 8 ?_ rfl hA0 hB0 (fun W hA => ?_) ?_; rotate_left; (· (go_simp; try with_reducible rfl)); refine uA 9 ?_ rfl hA0 hB0 (fun W hA => ?_) ?_; rotate_left; (· (go_simp; try with_reducible rfl)); (try simp only [Act.put, List.setIfInBounds_toArray, List.set_cons_zero, List.set_cons_succ]))
       refine uOne (i := 10) rfl (by kernel_rfl) (fun K hK => ?_)
       go_simp
       (refine hK _ _ ⟨hA0, fun _ => hB0⟩ ?_; clear hK K; (try simp only [Act.put, List.setIfInBounds_toArray, List.set_cons_zero, List.set_cons_succ]))
       refine uOne (i := 11) rfl (by kernel_rfl) (fun K hK => ?_)
       go_simp
       (refine hK _ _ ⟨hA0, fun _ => hB0⟩ ?_; clear hK K; (try simp only [Act.put, List.setIfInBounds_toArray, List.set_cons_zero, List.set_cons_succ]))
       refine anyU_done (by kernel_rfl) ?_ _
       clear hA0 HB9 HBR hodb2
       go_wp2
       obtain ⟨mks, hmks⟩ : ∃ q, (mksN (mkA a) s.ts i) = q := ⟨_, rfl⟩
       rw [hmks] at HMK HCD
       clear hmks
       have hBW := HB2.out.trans (HCD.out.bel.mono HB2.out.size)
       have hbw := HBX2.out.below HCD.out.bel (by omega)
       obtain ⟨od2, t8, e9, hodb3, ht9, hoc⟩ := (RdI.of_own HCD.out.ord).at_ (k := i) (by rw [HCD.out.orl]; exact hlt)
       obtain rfl : od = od2 := by injection e9
       obtain rfl : t8 = t9 := by rw [HTT.out] at ht9; injection ht9 with e; exact e.symm
       have hBD := hBW.trans ((below_dr (wd)).mono hBW.size)
       have HOUT := Lib.hid (canonical_out w.heap.size A M E na ca nm cm ne ce a t8 (wd).drew hBD.size HH.out.le (HH.out.re.below hBD) HH.out.ec HH.out.cE HW.out t0 (by rw [HNN.out]; exact t1) (n : Int))
       have hA0 : (wd).drew.cell? ⟨w.heap.size, 0, none⟩ = some (.slice A na ca) ∧ (wd).drew.cell? ⟨w.heap.size, 1, none⟩ = some (.int .i64 (n : Int)) ∧ (wd).drew.cell? ⟨w.heap.size, 2, none⟩ = some (.slice M nm cm) ∧ (wd).drew.cell? ⟨w.heap.size, 3, none⟩ = some (.slice E ne ce) ∧ (wd).drew.cell? (od.add i) = some (.int .i64 t8) := ⟨hbw.cell (j := 0) rfl, hbw.cell (j := 1) rfl, hbw.cell (j := 2) rfl, hbw.cell (j := 3) rfl, hoc⟩
       have HCE := Lib.hid (HCD.out.quiet (below_dr _))
       have HBD := Lib.hid hBD
       have hodb4 : od.block < (wd).drew.heap.size := hodb3
       have hl9 : w.heap.size < (wd).drew.heap.size := by have h1 := HCE.out.lt; omega
       clear HCD hBW hbw ht9 hoc hBD hodb3
       go_wp2
       refine wp_region_U (fun W => W.cell? ⟨w.heap.size, 0, none⟩ = some (.slice A na ca) ∧ W.cell? ⟨w.heap.size, 1, none⟩ = some (.int .i64 (n : Int)) ∧ W.cell? ⟨w.heap.size, 2, none⟩ = some (.slice M nm cm) ∧ W.cell? ⟨w.heap.size, 3, none⟩ = some (.slice E ne ce) ∧ W.cell? (od.add i) = some (.int .i64 t8)) (fun _ => True) 5 (by kernel_rfl) ?_
       change anyU _ _ _ _ _ _ _ 8 _ _ _
       have hB0 : True := trivial
       generalize hwe : (wd).drew = we at hA0 HCE HBD HOUT hodb4 hl9 ⊢
       have HWE := Lib.hid hwe; clear hwe
       (refine uA 0 ?_ rfl hA0 hB0 (fun W hA => ?_) ?_; rotate_left; (· (go_simp; try with_reducible rfl)); refine uA 1 ?_ rfl hA0 hB0 (fun W hA => ?_) ?_; rotate_left; (· (go_simp; try with_reducible rfl)); refine uA 2 ?_ rfl hA0 hB0 (fun W hA => ?_) ?_; rotate_left; (· (go_simp; try with_reducible rfl)); refine uA 3 ?_ rfl hA0 hB0 (fun W hA => ?_) ?_; rotate_left; (· (go_simp; try with_reducible rfl)); refine uA 4 ?_ rfl hA0 hB0 (fun W hA => ?_) ?_; rotate_left; (· (go_simp; try with_reducible rfl)); refine uA 7 ?_ rfl hA0 hB0 (fun W hA => ?_) ?_; rotate_left; (· (go_simp; try with_reducible rfl)); (try simp only [Act.put, List.setIfInBounds_toArray, List.set_cons_zero, List.set_cons_succ]))
       refine uOne (i := 5) rfl (by kernel_rfl) (fun K hK => ?_)
       go_simp
       go_at_call 77
       refine HOUT.out.mono ?_
       rintro e w5 ⟨E', m, c', rfl, hml, hm32, hrx, hb5⟩
       have hA5 : w5.cell? ⟨w.heap.size, 0, none⟩ = some (.slice A na ca) ∧ w5.cell? ⟨w.heap.size, 1, none⟩ = some (.int .i64 (n : Int)) ∧ w5.cell? ⟨w.heap.size, 2, none⟩ = some (.slice M nm cm) ∧ w5.cell? ⟨w.heap.size, 3, none⟩ = some (.slice E ne ce) ∧ w5.cell? (od.add i) = some (.int .i64 t8) := ⟨(hb5.cell (p := ⟨w.heap.size, 0, none⟩) hl9).trans hA0.1, (hb5.cell (p := ⟨w.heap.size, 1, none⟩) hl9).trans hA0.2.1, (hb5.cell (p := ⟨w.heap.size, 2, none⟩) hl9).trans hA0.2.2.1, (hb5.cell (p := ⟨w.heap.size, 3, none⟩) hl9).trans hA0.2.2.2.1, (hb5.cell (p := od.add i) (by rw [block_of_add]; exact hodb4)).trans hA0.2.2.2.2⟩
       have HCF := Lib.hid (HCE.out.quiet hb5)
       have HRX := Lib.hid (show RdX w2 w.heap.size E' (outE a t8) from hrx.keep fun p hp => ((HCE.out.quiet hb5).bel.cell (by omega)).symm)
       have HML := Lib.hid hml; clear hml
       clear hA0 HCE HOUT hb5 hrx hl9 hodb4 HBD
       (refine hK _ _ ⟨hA5, fun _ => hB0⟩ ?_; clear hK K; (try simp only [Act.put, List.setIfInBounds_toArray, List.set_cons_zero, List.set_cons_succ]))
       refine uOne (i := 6) rfl (by kernel_rfl) (fun K hK => ?_)
       go_simp
       (refine hK _ _ ⟨hA5, fun _ => hB0⟩ ?_; clear hK K; (try simp only [Act.put, List.setIfInBounds_toArray, List.set_cons_zero, List.set_cons_succ]))
       refine anyU_done (by kernel_rfl) ?_ _
       clear hA5
       have HEI := Lib.hid (EInv.start HW.out HBI.out HTT.out)
       have hts1 : s.ts.length = no := HCF.out.orl
       have HMI := Lib.hid (show mks = mksN (mkA a) s.ts (i + 1) from HMK.out)
       have HBF := Lib.hid (show ∀ s', bsF 4096 (stA a) i t8 a.al s = some s' → bsR 4096 (stA a) a.al (4097 - (i + 1)) (i + 1) s' = canS a from fun s' hs' => by
        have e := HBS.out
        rw [show 4097 - i = (4097 - (i + 1)) + 1 by omega, bsR_go HTT.out hs'] at e
        exact e)
       have hke2 : ke ≤ i * 32 + 0 := hke
       have hts2 : i + 1 ≤ s.ts.length := by omega
       have HNU2 := HNU
       obtain ⟨F, hF⟩ : ∃ F, bsF 4096 (stA a) i t8 a.al s = F := ⟨_, rfl⟩
       rw [hF] at HEI HBF
       clear HBS HNU HBI HMK hF hke
       go_wp2
       go_loopw [6, 65] (fun s6 s65 wr => ∃ (p no ke : Nat) (ov ev : Value) (N : List Int) (s : Bs Int), s65 = .int .i64 p ∧ s6 = ov ∧ p ≤ m ∧ i + 1 ≤ no ∧ no ≤ 4096 ∧ ke ≤ i * 32 + p ∧ Hid (CanM w2.heap.size w2 wr (.slice V na cv) (.int .i64 0) (.slice MA km mc) ov ev km no ke N mks s.ts s.es) ∧ Hid (NumI N s.ts n) ∧ Hid (EInv a i t8 (outE a t8) p F s) ∧ Hid (mks = mksN (mkA a) s.ts (i + 1))) (fun _ s65 _ => m - (intOf s65).toNat)
       case atStart => exact ⟨0, no, ke, _, _, N, s, rfl, rfl, Nat.zero_le _, by omega, hno, hke2, HCF, HNU2, HEI, HMI⟩
       case round =>
        clear HCF HNU2 HEI HMI hts1 hts2 hke2 hcap1 hcap2 hno hlt b1
        obtain ⟨p, no, ke, ov, ev, N, s, rfl, rfl, hp, hio, hno, hke, HC, HNU, HEI, HMI⟩ := hrel
        obtain ⟨OA, oc, rfl⟩ := own_shape HC.out.ord
        obtain ⟨EA, ec, rfl⟩ := own_shape HC.out.edg
        by_cases hlt : p < m
        ·obtain ⟨ad, x, rfl, hab, hx, hcell⟩ := (HRX.out.after HC.out.bel (by omega)).get (k := p) (by rw [HML.out]; exact hlt)
         have b1 : (p : Int) < (m : Int) := by omega
         obtain ⟨_, _, x0, x1⟩ := out_st HW.out (List.mem_of_getElem? hx)
         rw [HNN.out] at x1
         have q0 : wr.cell? (ad.add (p * 3)) = some (.int .i64 x.f) := hcell 0 _ rfl
         have q1 : wr.cell? ⟨(ad.add (p * 3)).block, (ad.add (p * 3)).off + 1, none⟩ = some (.int .i64 x.e) := st_cells (j := 0) (hcell 1 _ rfl)
         have q2 : wr.cell? ⟨(ad.add (p * 3)).block, (ad.add (p * 3)).off + 2, none⟩ = some (.int .i64 x.t) := st_cells (j := 1) (hcell 2 _ rfl)
         have hst := HEI.out.step HW.out HMN.out hx
         have HCX := Lib.hid (HC.out.quiet (box_below wr (.cells #[.int .i64 x.f, .int .i64 x.e, .int .i64 x.t] 83)))
         have kx : Blk (wr.alloc (.cells #[.int .i64 x.f, .int .i64 x.e, .int .i64 x.t] 83)) wr.heap.size 83 [.int .i64 x.f, .int .i64 x.e, .int .i64 x.t] := Blk.new _ _ _
         have k0 := kx.cell (j := 0) rfl
         have k1 := kx.cell (j := 1) rfl
         have k2 := kx.cell (j := 2) rfl
         have hNa := HNU.out.at_ x0 x1
         have hn1 : (wr.alloc (.cells #[.int .i64 x.f, .int .i64 x.e, .int .i64 x.t] 83)).cell? ⟨w2.heap.size + 1, x.t.toNat, none⟩ = some (.int .i64 (idx s.ts x.t)) := HCX.out.num.cell (by rw [iv_get, hNa]; rfl)
         have hlw : w2.heap.size + 1 < wr.heap.size := HC.out.lt
         have HNL := Lib.hid (show x.t.toNat < N.length by rw [HNU.out.1]; omega)
         have HED := Lib.hid (show ∀ g, (Value.slice EA ke ec).ownBlock = some g → g < wr.heap.size from fun g hg => (HC.out.edg.lt g hg).2)
         have HOD := Lib.hid (show ∀ g, (Value.slice OA no oc).ownBlock = some g → g < wr.heap.size from fun g hg => (HC.out.ord.lt g hg).2)
         have hol : s.ts.length = no := HC.out.orl
         have hil : i + 1 ≤ s.ts.length := by omega
         have KX := Lib.hid kx; clear kx
         have HST := Lib.hid hst; clear hst
         clear hcell hNa hab
         by_cases hi0 : idx s.ts x.t < 0
         ·obtain ⟨hnot, hlen, HE2⟩ := HST.out.1 hi0
          have d1 : decide (idx s.ts x.t < 0) = true := decide_eq_true hi0
          have hlen2 : no < 4096 := by rw [← HC.out.orl]; exact hlen
          have hg2 : (wr.alloc (.cells #[.int .i64 x.f, .int .i64 x.e, .int .i64 x.t] 83)).frozen? ⟨w2.heap.size + 1, x.t.toNat, none⟩ = false := HCX.out.num.free _
          have hse : (wr.setCell ⟨w2.heap.size + 1, x.t.toNat, none⟩ (.int .i64 (no : Int))).heap.size = wr.heap.size := by simp [World.setCell]
          have HCP := Lib.hid ((HC.out.put x.t.toNat HNL.out (no : Int)).quiet (box_below _ (.cells #[.int .i64 x.f, .int .i64 x.e, .int .i64 x.t] 83)))
          have kx2 := Blk.new (wr.setCell ⟨w2.heap.size + 1, x.t.toNat, none⟩ (.int .i64 (no : Int))) 83 [.int .i64 x.f, .int .i64 x.e, .int .i64 x.t]
          rw [hse] at kx2
          have HNU2 := Lib.hid (HNU.out.put x0 x1 hnot)
          rw [hol] at HNU2 HE2
          have HE3 := Lib.hid HE2
          have HYY := Lib.hid (show idx (s.ts ++ [x.t]) x.t = (no : Int) by rw [idx_new hnot, hol])
          have HMI2 := Lib.hid (show mks = mksN (mkA a) (s.ts ++ [x.t]) (i + 1) by rw [mksN_app hil]; exact HMI.out)
          have hbs : w2.heap.size + 2 ≤ ((wr.setCell ⟨w2.heap.size + 1, x.t.toNat, none⟩ (.int .i64 (no : Int))).alloc (.cells #[.int .i64 x.f, .int .i64 x.e, .int .i64 x.t] 83)).heap.size := by rw [World.size_alloc, hse]; omega
          have HSZ2 := Lib.hid (show ((wr.setCell ⟨w2.heap.size + 1, x.t.toNat, none⟩ (.int .i64 (no : Int))).alloc (.cells #[.int .i64 x.f, .int .i64 x.e, .int .i64 x.t] 83)).heap.size = wr.heap.size + 1 by rw [World.size_alloc, hse])
          have KX2 := Lib.hid kx2; clear kx2
          have HSE := Lib.hid hse; clear hse
          clear HE2 hnot HC HCX KX
          go_wp2_with (at_builtin; go_loud (refine wpList_pushA ((wr.setCell ⟨w2.heap.size + 1, x.t.toNat, none⟩ (.int .i64 (no : Int))).alloc (.cells #[.int .i64 x.f, .int .i64 x.e, .int .i64 x.t] 83)) [.int .i64 x.t] rfl (.tmp 81) (.tmp 84) 22 rfl (w2.heap.size + 2) 3 (.int .i64 0) 1 8 Tryd.underlying22 int_info rfl (by decide) rfl (.slice OA no oc) no _ rfl HCP.out.ord (by rw [HSZ2.out]; rfl) (fun u hu => by simp at hu; subst hu; rfl) (by omega) (by omega) hbs ?_; intro OA2 oc2 w8 ho8 hg8 hl8; have HC8 := Lib.hid (HCP.out.more (i := x.t) ho8 hg8 hl8); have KX8 := Lib.hid (KX2.out.kept hg8 (fun e => by have := HOD.out _ e.symm; omega)); clear ho8 hg8 hl8 q0 q1 q2 k0 k1 k2 hn1 hg2 hbs))
          have k1 : (w8).drew.cell? ⟨wr.heap.size, 1, none⟩ = some (.int .i64 x.e) := KX8.out.cell (j := 1) rfl
          have k2 : (w8).drew.cell? ⟨wr.heap.size, 2, none⟩ = some (.int .i64 x.t) := KX8.out.cell (j := 2) rfl
          have hn9 : (w8).drew.cell? ⟨w2.heap.size + 1, x.t.toNat, none⟩ = some (.int .i64 ((no : Int))) := (HC8.out.quiet (below_dr (w8))).num.cell (by rw [iv_get, HNU2.out.at_ x0 x1, HYY.out]; rfl)
          have hA0 : (w8).drew.cell? ⟨wr.heap.size, 1, none⟩ = some (.int .i64 x.e) ∧ (w8).drew.cell? ⟨wr.heap.size, 2, none⟩ = some (.int .i64 x.t) ∧ (w8).drew.cell? ⟨w2.heap.size + 1, x.t.toNat, none⟩ = some (.int .i64 ((no : Int))) := ⟨k1, k2, hn9⟩
          have hB0 : (w8).drew.cell? ⟨w2.heap.size, 3, none⟩ = some (.slice EA ke ec) := HC8.out.blk.cell (j := 3) rfl
          have HCG := Lib.hid (HC8.out.quiet (below_dr (w8)))
          have hxb : wr.heap.size < (w8).drew.heap.size := KX8.out.lt
          have hbs : w2.heap.size + 2 ≤ (w8).drew.heap.size := by omega
          clear k1 k2 hn9 HC8 KX8
          go_wp2
          refine wp_region_U (fun W => W.cell? ⟨wr.heap.size, 1, none⟩ = some (.int .i64 x.e) ∧ W.cell? ⟨wr.heap.size, 2, none⟩ = some (.int .i64 x.t) ∧ W.cell? ⟨w2.heap.size + 1, x.t.toNat, none⟩ = some (.int .i64 ((no : Int)))) (fun W => W.cell? ⟨w2.heap.size, 3, none⟩ = some (.slice EA ke ec)) 12 (by kernel_rfl) ?_
          change anyU _ _ _ _ _ _ _ 15 _ _ _
          generalize hwf : (w8).drew = wf at hA0 hB0 HCG hxb hbs ⊢
          have HWF := Lib.hid hwf; clear hwf
          (refine uA 0 ?_ rfl hA0 hB0 (fun W hA => ?_) ?_; rotate_left; (· (go_simp; try with_reducible rfl)); (try simp only [Act.put, List.setIfInBounds_toArray, List.set_cons_zero, List.set_cons_succ]))
          (refine uB 1 ?_ rfl hA0 hB0 (fun W hA hB => ?_) ?_; rotate_left; (· (go_simp; try with_reducible rfl)); (try simp only [Act.put, List.setIfInBounds_toArray, List.set_cons_zero, List.set_cons_succ]))
          (refine uA 2 ?_ rfl hA0 hB0 (fun W hA => ?_) ?_; rotate_left; (· (go_simp; try with_reducible rfl)); refine uA 3 ?_ rfl hA0 hB0 (fun W hA => ?_) ?_; rotate_left; (· (go_simp; try with_reducible rfl)); refine uA 4 ?_ rfl hA0 hB0 (fun W hA => ?_) ?_; rotate_left; (· (go_simp; try with_reducible rfl)); refine uA 5 ?_ rfl hA0 hB0 (fun W hA => ?_) ?_; rotate_left; (· (go_simp; try with_reducible rfl)); refine uA 6 ?_ rfl hA0 hB0 (fun W hA => ?_) ?_; rotate_left; (· (go_simp; try with_reducible rfl)); refine uA 7 ?_ rfl hA0 hB0 (fun W hA => ?_) ?_; rotate_left; (· (go_simp; try with_reducible rfl)); refine uA 8 ?_ rfl hA0 hB0 (fun W hA => ?_) ?_; rotate_left; (· (go_simp; try with_reducible rfl)); refine uA 9 ?_ rfl hA0 hB0 (fun W hA => ?_) ?_; rotate_left; (· (go_simp; try with_reducible rfl)); refine uA 10 ?_ rfl hA0 hB0 (fun W hA => ?_) ?_; rotate_left; (· (go_simp; try with_reducible rfl)); (try simp only [Act.put, List.setIfInBounds_toArray, List.set_cons_zero, List.set_cons_succ]))
          refine uOne (i := 11) rfl (by kernel_rfl) (fun K hK => ?_)
          go_simp
          have hA1 : (wf.alloc (.cells #[.int .i64 (i : Int), .int .i64 x.e, .int .i64 ((no : Int))] 83)).cell? ⟨wr.heap.size, 1, none⟩ = some (.int .i64 x.e) ∧ (wf.alloc (.cells #[.int .i64 (i : Int), .int .i64 x.e, .int .i64 ((no : Int))] 83)).cell? ⟨wr.heap.size, 2, none⟩ = some (.int .i64 x.t) ∧ (wf.alloc (.cells #[.int .i64 (i : Int), .int .i64 x.e, .int .i64 ((no : Int))] 83)).cell? ⟨w2.heap.size + 1, x.t.toNat, none⟩ = some (.int .i64 ((no : Int))) := ⟨(World.cell?_alloc_lt wf _ ⟨wr.heap.size, 1, none⟩ hxb).trans hA0.1, (World.cell?_alloc_lt wf _ ⟨wr.heap.size, 2, none⟩ hxb).trans hA0.2.1, (World.cell?_alloc_lt wf _ ⟨w2.heap.size + 1, x.t.toNat, none⟩ hbs).trans hA0.2.2⟩
          have hB1 : (wf.alloc (.cells #[.int .i64 (i : Int), .int .i64 x.e, .int .i64 ((no : Int))] 83)).cell? ⟨w2.heap.size, 3, none⟩ = some (.slice EA ke ec) := (World.cell?_alloc_lt wf _ ⟨w2.heap.size, 3, none⟩ (Nat.lt_of_succ_lt hbs)).trans hB0
          (refine hK _ _ ⟨hA1, fun _ => hB1⟩ ?_; clear hK K; (try simp only [Act.put, List.setIfInBounds_toArray, List.set_cons_zero, List.set_cons_succ]))
          refine uOne (i := 12) rfl (by kernel_rfl) (fun K hK => ?_)
          refine step_pushN wf [.int .i64 (i : Int), .int .i64 x.e, .int .i64 ((no : Int))] (by rfl) (.tmp 87) (.tmp 97) 23 (by rfl) (w2.heap.size + 2) 83 (.agg #[.int .i64 0, .int .i64 0, .int .i64 0]) 3 24 Tryd.underlying23 edge_info (by rfl) (by decide) (by rfl) (.slice EA ke ec) ke _ (by rfl) HCG.out.edg (by rfl) (fun q hq => by simp at hq; rcases hq with rfl | rfl | rfl <;> rfl) (by omega) (by omega) hbs ?_
          intro A9 c9 w9 ho9 hg9
          have B9 := HCG.out.blk.kept hg9 (own_lt_ne HCG.out.edg (by omega))
          have e9 : w9.cell? ⟨w2.heap.size, 3, none⟩ = some (.slice EA ke ec) := B9.cell (j := 3) rfl
          have f9 : w9.frozen? ⟨w2.heap.size, 3, none⟩ = false := B9.free 3
          have l9 : w2.heap.size < w9.heap.size := B9.lt
          have HC9 := Lib.hid (HCG.out.edge (x := ⟨i, x.e, (no : Int)⟩) ho9 hg9)
          have hn1 : ∀ j, w9.cell? ⟨wr.heap.size, j, none⟩ = wf.cell? ⟨wr.heap.size, j, none⟩ := fun j => hg9.cell_far ⟨wr.heap.size, j, none⟩ hxb (fun e => by have := HED.out _ e.symm; simp only at this; omega)
          have hn2 : w9.cell? ⟨w2.heap.size + 1, x.t.toNat, none⟩ = wf.cell? ⟨w2.heap.size + 1, x.t.toNat, none⟩ := hg9.cell_far ⟨w2.heap.size + 1, x.t.toNat, none⟩ hbs (fun e => by have := (HCG.out.edg.lt _ e.symm).1; simp only at this; omega)
          have hA2 : w9.cell? ⟨wr.heap.size, 1, none⟩ = some (.int .i64 x.e) ∧ w9.cell? ⟨wr.heap.size, 2, none⟩ = some (.int .i64 x.t) ∧ w9.cell? ⟨w2.heap.size + 1, x.t.toNat, none⟩ = some (.int .i64 ((no : Int))) := ⟨(hn1 1).trans hA0.1, (hn1 2).trans hA0.2.1, hn2.trans hA0.2.2⟩
          have hx9 : wr.heap.size < w9.heap.size := Nat.lt_of_lt_of_le hxb hg9.size
          have hy9 : w2.heap.size + 1 < w9.heap.size := Nat.lt_of_lt_of_le hbs hg9.size
          clear B9 ho9 hg9 hn1 hn2 hA1 hB1 hA0 hB0 HCG
          (refine hK _ _ ⟨hA2, fun h => absurd (h.symm.trans (by kernel_rfl : _ = true)) Bool.false_ne_true⟩ ?_; clear hK K; (try simp only [Act.put, List.setIfInBounds_toArray, List.set_cons_zero, List.set_cons_succ]))
          refine uOne (i := 13) rfl (by kernel_rfl) (fun K hK => ?_)
          go_simp
          (refine hK _ _ ⟨hA2, fun h => absurd (h.symm.trans (by kernel_rfl : _ = true)) Bool.false_ne_true⟩ ?_; clear hK K; (try simp only [Act.put, List.setIfInBounds_toArray, List.set_cons_zero, List.set_cons_succ]))
          have hsc := grown_setCell w9 w2.heap.size 3 (.slice A9 (ke + 1) c9)
          have hA3 : (w9.setCell ⟨w2.heap.size, 3, none⟩ (.slice A9 (ke + 1) c9)).cell? ⟨wr.heap.size, 1, none⟩ = some (.int .i64 x.e) ∧ (w9.setCell ⟨w2.heap.size, 3, none⟩ (.slice A9 (ke + 1) c9)).cell? ⟨wr.heap.size, 2, none⟩ = some (.int .i64 x.t) ∧ (w9.setCell ⟨w2.heap.size, 3, none⟩ (.slice A9 (ke + 1) c9)).cell? ⟨w2.heap.size + 1, x.t.toNat, none⟩ = some (.int .i64 ((no : Int))) := ⟨(hsc.cell_far ⟨wr.heap.size, 1, none⟩ hx9 (fun e => by injection e with e; simp only at e; omega)).trans hA2.1, (hsc.cell_far ⟨wr.heap.size, 2, none⟩ hx9 (fun e => by injection e with e; simp only at e; omega)).trans hA2.2.1, (hsc.cell_far ⟨w2.heap.size + 1, x.t.toNat, none⟩ hy9 (fun e => by injection e with e; simp only at e; omega)).trans hA2.2.2⟩
          clear hsc
          refine uOne (i := 14) rfl (by kernel_rfl) (fun K hK => ?_)
          go_simp
          (refine hK _ _ ⟨hA3, fun h => absurd (h.symm.trans (by kernel_rfl : _ = true)) Bool.false_ne_true⟩ ?_; clear hK K; (try simp only [Act.put, List.setIfInBounds_toArray, List.set_cons_zero, List.set_cons_succ]))
          refine anyU_done (by kernel_rfl) ?_ _
          clear hA2 hA3 e9 f9 l9 hx9 hy9
          go_wp2
          go_roundw
          case rel => exact ⟨p + 1, (no + 1), ke + 1, _, _, (N.set x.t.toNat (no : Int)), ⟨(s.ts ++ [x.t]), s.es ++ [⟨i, x.e, (no : Int)⟩]⟩, by go_num, rfl, by omega, by omega, by omega, by omega, HC9, HNU2, HE3, HMI2⟩
          case measure => simp [intOf]; omega
         ·have HE2 := Lib.hid (HST.out.2 hi0)
          have d1 : decide (idx s.ts x.t < 0) = false := decide_eq_false hi0
          have HNA := Lib.hid (HNU.out.at_ x0 x1)
          clear HC
          obtain ⟨y, hy⟩ : ∃ y, idx s.ts x.t = y := ⟨_, rfl⟩
          rw [hy] at hn1 d1 HE2 HNA
          have HYY := Lib.hid hy
          clear hy hi0
          go_wp2
          clear q0 q1 q2 k0 k1 k2 hn1
          have hn1 : (wr.alloc (.cells #[.int .i64 x.f, .int .i64 x.e, .int .i64 x.t] 83)).cell? ⟨w2.heap.size + 1, x.t.toNat, none⟩ = some (.int .i64 y) := HCX.out.num.cell (by rw [iv_get, HNA.out]; rfl)
          have k1 : ((wr.alloc (.cells #[.int .i64 x.f, .int .i64 x.e, .int .i64 x.t] 83))).drew.cell? ⟨wr.heap.size, 1, none⟩ = some (.int .i64 x.e) := KX.out.cell (j := 1) rfl
          have k2 : ((wr.alloc (.cells #[.int .i64 x.f, .int .i64 x.e, .int .i64 x.t] 83))).drew.cell? ⟨wr.heap.size, 2, none⟩ = some (.int .i64 x.t) := KX.out.cell (j := 2) rfl
          have hn9 : ((wr.alloc (.cells #[.int .i64 x.f, .int .i64 x.e, .int .i64 x.t] 83))).drew.cell? ⟨w2.heap.size + 1, x.t.toNat, none⟩ = some (.int .i64 (y)) := (HCX.out.quiet (below_dr ((wr.alloc (.cells #[.int .i64 x.f, .int .i64 x.e, .int .i64 x.t] 83))))).num.cell (by rw [iv_get, HNU.out.at_ x0 x1, HYY.out]; rfl)
          have hA0 : ((wr.alloc (.cells #[.int .i64 x.f, .int .i64 x.e, .int .i64 x.t] 83))).drew.cell? ⟨wr.heap.size, 1, none⟩ = some (.int .i64 x.e) ∧ ((wr.alloc (.cells #[.int .i64 x.f, .int .i64 x.e, .int .i64 x.t] 83))).drew.cell? ⟨wr.heap.size, 2, none⟩ = some (.int .i64 x.t) ∧ ((wr.alloc (.cells #[.int .i64 x.f, .int .i64 x.e, .int .i64 x.t] 83))).drew.cell? ⟨w2.heap.size + 1, x.t.toNat, none⟩ = some (.int .i64 (y)) := ⟨k1, k2, hn9⟩
          have hB0 : ((wr.alloc (.cells #[.int .i64 x.f, .int .i64 x.e, .int .i64 x.t] 83))).drew.cell? ⟨w2.heap.size, 3, none⟩ = some (.slice EA ke ec) := HCX.out.blk.cell (j := 3) rfl
          have HCG := Lib.hid (HCX.out.quiet (below_dr ((wr.alloc (.cells #[.int .i64 x.f, .int .i64 x.e, .int .i64 x.t] 83)))))
          have hxb : wr.heap.size < ((wr.alloc (.cells #[.int .i64 x.f, .int .i64 x.e, .int .i64 x.t] 83))).drew.heap.size := KX.out.lt
          have hbs : w2.heap.size + 2 ≤ ((wr.alloc (.cells #[.int .i64 x.f, .int .i64 x.e, .int .i64 x.t] 83))).drew.heap.size := by omega
          clear k1 k2 hn9 HCX KX
          go_wp2
          refine wp_region_U (fun W => W.cell? ⟨wr.heap.size, 1, none⟩ = some (.int .i64 x.e) ∧ W.cell? ⟨wr.heap.size, 2, none⟩ = some (.int .i64 x.t) ∧ W.cell? ⟨w2.heap.size + 1, x.t.toNat, none⟩ = some (.int .i64 (y))) (fun W => W.cell? ⟨w2.heap.size, 3, none⟩ = some (.slice EA ke ec)) 12 (by kernel_rfl) ?_
          change anyU _ _ _ _ _ _ _ 15 _ _ _
          generalize hwf : ((wr.alloc (.cells #[.int .i64 x.f, .int .i64 x.e, .int .i64 x.t] 83))).drew = wf at hA0 hB0 HCG hxb hbs ⊢
          have HWF := Lib.hid hwf; clear hwf
          (refine uA 0 ?_ rfl hA0 hB0 (fun W hA => ?_) ?_; rotate_left; (· (go_simp; try with_reducible rfl)); (try simp only [Act.put, List.setIfInBounds_toArray, List.set_cons_zero, List.set_cons_succ]))
          (refine uB 1 ?_ rfl hA0 hB0 (fun W hA hB => ?_) ?_; rotate_left; (· (go_simp; try with_reducible rfl)); (try simp only [Act.put, List.setIfInBounds_toArray, List.set_cons_zero, List.set_cons_succ]))
          (refine uA 2 ?_ rfl hA0 hB0 (fun W hA => ?_) ?_; rotate_left; (· (go_simp; try with_reducible rfl)); refine uA 3 ?_ rfl hA0 hB0 (fun W hA => ?_) ?_; rotate_left; (· (go_simp; try with_reducible rfl)); refine uA 4 ?_ rfl hA0 hB0 (fun W hA => ?_) ?_; rotate_left; (· (go_simp; try with_reducible rfl)); refine uA 5 ?_ rfl hA0 hB0 (fun W hA => ?_) ?_; rotate_left; (· (go_simp; try with_reducible rfl)); refine uA 6 ?_ rfl hA0 hB0 (fun W hA => ?_) ?_; rotate_left; (· (go_simp; try with_reducible rfl)); refine uA 7 ?_ rfl hA0 hB0 (fun W hA => ?_) ?_; rotate_left; (· (go_simp; try with_reducible rfl)); refine uA 8 ?_ rfl hA0 hB0 (fun W hA => ?_) ?_; rotate_left; (· (go_simp; try with_reducible rfl)); refine uA 9 ?_ rfl hA0 hB0 (fun W hA => ?_) ?_; rotate_left; (· (go_simp; try with_reducible rfl)); refine uA 10 ?_ rfl hA0 hB0 (fun W hA => ?_) ?_; rotate_left; (· (go_simp; try with_reducible rfl)); (try simp only [Act.put, List.setIfInBounds_toArray, List.set_cons_zero, List.set_cons_succ]))
          refine uOne (i := 11) rfl (by kernel_rfl) (fun K hK => ?_)
          go_simp
          have hA1 : (wf.alloc (.cells #[.int .i64 (i : Int), .int .i64 x.e, .int .i64 (y)] 83)).cell? ⟨wr.heap.size, 1, none⟩ = some (.int .i64 x.e) ∧ (wf.alloc (.cells #[.int .i64 (i : Int), .int .i64 x.e, .int .i64 (y)] 83)).cell? ⟨wr.heap.size, 2, none⟩ = some (.int .i64 x.t) ∧ (wf.alloc (.cells #[.int .i64 (i : Int), .int .i64 x.e, .int .i64 (y)] 83)).cell? ⟨w2.heap.size + 1, x.t.toNat, none⟩ = some (.int .i64 (y)) := ⟨(World.cell?_alloc_lt wf _ ⟨wr.heap.size, 1, none⟩ hxb).trans hA0.1, (World.cell?_alloc_lt wf _ ⟨wr.heap.size, 2, none⟩ hxb).trans hA0.2.1, (World.cell?_alloc_lt wf _ ⟨w2.heap.size + 1, x.t.toNat, none⟩ hbs).trans hA0.2.2⟩
          have hB1 : (wf.alloc (.cells #[.int .i64 (i : Int), .int .i64 x.e, .int .i64 (y)] 83)).cell? ⟨w2.heap.size, 3, none⟩ = some (.slice EA ke ec) := (World.cell?_alloc_lt wf _ ⟨w2.heap.size, 3, none⟩ (Nat.lt_of_succ_lt hbs)).trans hB0
          (refine hK _ _ ⟨hA1, fun _ => hB1⟩ ?_; clear hK K; (try simp only [Act.put, List.setIfInBounds_toArray, List.set_cons_zero, List.set_cons_succ]))
          refine uOne (i := 12) rfl (by kernel_rfl) (fun K hK => ?_)
          refine step_pushN wf [.int .i64 (i : Int), .int .i64 x.e, .int .i64 (y)] (by rfl) (.tmp 87) (.tmp 97) 23 (by rfl) (w2.heap.size + 2) 83 (.agg #[.int .i64 0, .int .i64 0, .int .i64 0]) 3 24 Tryd.underlying23 edge_info (by rfl) (by decide) (by rfl) (.slice EA ke ec) ke _ (by rfl) HCG.out.edg (by rfl) (fun q hq => by simp at hq; rcases hq with rfl | rfl | rfl <;> rfl) (by omega) (by omega) hbs ?_
          intro A9 c9 w9 ho9 hg9
          have B9 := HCG.out.blk.kept hg9 (own_lt_ne HCG.out.edg (by omega))
          have e9 : w9.cell? ⟨w2.heap.size, 3, none⟩ = some (.slice EA ke ec) := B9.cell (j := 3) rfl
          have f9 : w9.frozen? ⟨w2.heap.size, 3, none⟩ = false := B9.free 3
          have l9 : w2.heap.size < w9.heap.size := B9.lt
          have HC9 := Lib.hid (HCG.out.edge (x := ⟨i, x.e, y⟩) ho9 hg9)
          have hn1 : ∀ j, w9.cell? ⟨wr.heap.size, j, none⟩ = wf.cell? ⟨wr.heap.size, j, none⟩ := fun j => hg9.cell_far ⟨wr.heap.size, j, none⟩ hxb (fun e => by have := HED.out _ e.symm; simp only at this; omega)
          have hn2 : w9.cell? ⟨w2.heap.size + 1, x.t.toNat, none⟩ = wf.cell? ⟨w2.heap.size + 1, x.t.toNat, none⟩ := hg9.cell_far ⟨w2.heap.size + 1, x.t.toNat, none⟩ hbs (fun e => by have := (HCG.out.edg.lt _ e.symm).1; simp only at this; omega)
          have hA2 : w9.cell? ⟨wr.heap.size, 1, none⟩ = some (.int .i64 x.e) ∧ w9.cell? ⟨wr.heap.size, 2, none⟩ = some (.int .i64 x.t) ∧ w9.cell? ⟨w2.heap.size + 1, x.t.toNat, none⟩ = some (.int .i64 (y)) := ⟨(hn1 1).trans hA0.1, (hn1 2).trans hA0.2.1, hn2.trans hA0.2.2⟩
          have hx9 : wr.heap.size < w9.heap.size := Nat.lt_of_lt_of_le hxb hg9.size
          have hy9 : w2.heap.size + 1 < w9.heap.size := Nat.lt_of_lt_of_le hbs hg9.size
          clear B9 ho9 hg9 hn1 hn2 hA1 hB1 hA0 hB0 HCG
          (refine hK _ _ ⟨hA2, fun h => absurd (h.symm.trans (by kernel_rfl : _ = true)) Bool.false_ne_true⟩ ?_; clear hK K; (try simp only [Act.put, List.setIfInBounds_toArray, List.set_cons_zero, List.set_cons_succ]))
          refine uOne (i := 13) rfl (by kernel_rfl) (fun K hK => ?_)
          go_simp
          (refine hK _ _ ⟨hA2, fun h => absurd (h.symm.trans (by kernel_rfl : _ = true)) Bool.false_ne_true⟩ ?_; clear hK K; (try simp only [Act.put, List.setIfInBounds_toArray, List.set_cons_zero, List.set_cons_succ]))
          have hsc := grown_setCell w9 w2.heap.size 3 (.slice A9 (ke + 1) c9)
          have hA3 : (w9.setCell ⟨w2.heap.size, 3, none⟩ (.slice A9 (ke + 1) c9)).cell? ⟨wr.heap.size, 1, none⟩ = some (.int .i64 x.e) ∧ (w9.setCell ⟨w2.heap.size, 3, none⟩ (.slice A9 (ke + 1) c9)).cell? ⟨wr.heap.size, 2, none⟩ = some (.int .i64 x.t) ∧ (w9.setCell ⟨w2.heap.size, 3, none⟩ (.slice A9 (ke + 1) c9)).cell? ⟨w2.heap.size + 1, x.t.toNat, none⟩ = some (.int .i64 (y)) := ⟨(hsc.cell_far ⟨wr.heap.size, 1, none⟩ hx9 (fun e => by injection e with e; simp only at e; omega)).trans hA2.1, (hsc.cell_far ⟨wr.heap.size, 2, none⟩ hx9 (fun e => by injection e with e; simp only at e; omega)).trans hA2.2.1, (hsc.cell_far ⟨w2.heap.size + 1, x.t.toNat, none⟩ hy9 (fun e => by injection e with e; simp only at e; omega)).trans hA2.2.2⟩
          clear hsc
          refine uOne (i := 14) rfl (by kernel_rfl) (fun K hK => ?_)
          go_simp
          (refine hK _ _ ⟨hA3, fun h => absurd (h.symm.trans (by kernel_rfl : _ = true)) Bool.false_ne_true⟩ ?_; clear hK K; (try simp only [Act.put, List.setIfInBounds_toArray, List.set_cons_zero, List.set_cons_succ]))
          refine anyU_done (by kernel_rfl) ?_ _
          clear hA2 hA3 e9 f9 l9 hx9 hy9
          go_wp2
          go_roundw
          case rel => exact ⟨p + 1, no, ke + 1, _, _, N, ⟨s.ts, s.es ++ [⟨i, x.e, y⟩]⟩, by go_num, rfl, by omega, by omega, by omega, by omega, HC9, HNU, HE2, HMI⟩
          case measure => simp [intOf]; omega
        ·obtain rfl : p = m := by omega
         have b1 : ¬ (p : Int) < (p : Int) := by omega
         obtain ⟨hB1, hF1⟩ := HEI.out.done HW.out (by rw [HML.out]; exact Nat.le_refl _)
         have HB1 := Lib.hid hB1
         have HR1 := Lib.hid (HBF.out s hF1)
         have hmk := HMI.out
         have HC9 := Lib.hid (show CanM w2.heap.size w2 wr (.slice V na cv) (.int .i64 0) (.slice MA km mc) (.slice OA no oc) (.slice EA ke ec) km no ke N (mksN (mkA a) s.ts (i + 1)) s.ts s.es by rw [← hmk]; exact HC.out)
         clear hB1 hF1 hmk
         go_wp2
         go_roundw
         case rel => exact ⟨i + 1, km, no, ke, _, _, _, N, s, by go_num, rfl, hio, hno, by omega, by omega, HC9, HNU, HB1, HR1⟩
         case measure => simp [intOf]; omega
     ·obtain rfl : i = no := by omega
      have hsl : s.ts.length = i := HC.out.orl
      have hcs : canS a = some s := by rw [← HBS.out]; exact bsR_end (by omega)
      have hfc := canA_of HST0.out hcs
      rw [hsl] at hfc
      have hrs := HRS2.out.below HC.out.bel (by omega)
      have hC1 := HC.out.set1 (.int .i64 (i : Int))
      have f0 := hrs.free 0
      have f1 := hrs.free 1
      have f2 := hrs.free 2
      have f3 := hrs.free 3
      have e0 := hrs.cell (j := 0) rfl
      have e1 := hrs.cell (j := 1) rfl
      have e2 := hrs.cell (j := 2) rfl
      have e3 := hrs.cell (j := 3) rfl
      have l0 : w.heap.size + 1 < wr.heap.size := hrs.lt
      have o0 : wr.cell? ⟨w2.heap.size, 0, none⟩ = some (.slice V na cv) := HC.out.blk.cell (j := 0) rfl
      have o1 : wr.cell? ⟨w2.heap.size, 1, none⟩ = some (.int .i64 0) := HC.out.blk.cell (j := 1) rfl
      have o2 : wr.cell? ⟨w2.heap.size, 2, none⟩ = some (.slice MA km mc) := HC.out.blk.cell (j := 2) rfl
      have o3 : wr.cell? ⟨w2.heap.size, 3, none⟩ = some (.slice EA ke ec) := HC.out.blk.cell (j := 3) rfl
      have o4 : wr.frozen? ⟨w2.heap.size, 1, none⟩ = false := HC.out.blk.free 1
      have lw : w2.heap.size < wr.heap.size := HC.out.blk.lt
      have b1 : ¬ (i : Int) < (i : Int) := by omega
      have hrs1 := hrs.kept (grown_setCell wr w2.heap.size 1 (.int .i64 (i : Int))) (by intro e; injection e with e; omega)
      have HO := Lib.hid (hC1.fin (st := (i : Int)) (q := w.heap.size + 2) HLA.out HOV.out (by omega))
      have HB1 := Lib.hid (HB2.out.trans (hC1.bel.mono HB2.out.size))
      have HFC := Lib.hid hfc; clear hfc
      have HR1 := Lib.hid hrs1; clear hrs1
      clear hrs hC1 hcs hsl HC hbw hBW
      go_wp2
      have hb3 := (((HR1.out.set (j := 0) (by simp) (.slice V na cv)).set (j := 1) (by simp) (.int .i64 (i : Int))).set (j := 2) (by simp) (.slice MA km mc)).set (j := 3) (by simp) (.slice EA ke ec)
      have z0 := hb3.cell (j := 0) rfl
      have z1 := hb3.cell (j := 1) rfl
      have z2 := hb3.cell (j := 2) rfl
      have z3 := hb3.cell (j := 3) rfl
      refine bodyPost_ret (v := .agg #[.slice V na cv, .int .i64 (i : Int), .slice MA km mc, .slice EA ke ec]) (by simp [results, Tryd.results68, go_sem, z0, z1, z2, z3]) rfl ?_
      have hg5 : (wr.setCell ⟨w2.heap.size, 1, none⟩ (.int .i64 (i : Int))).grownBy (((((wr.setCell ⟨w2.heap.size, 1, none⟩ (.int .i64 (i : Int))).setCell ⟨w.heap.size + 1, 0, none⟩ (.slice V na cv)).setCell ⟨w.heap.size + 1, 1, none⟩ (.int .i64 (i : Int))).setCell ⟨w.heap.size + 1, 2, none⟩ (.slice MA km mc)).setCell ⟨w.heap.size + 1, 3, none⟩ (.slice EA ke ec)) (some (w.heap.size + 1)) := (((grown_setCell _ _ _ _).trans (grown_setCell _ _ _ _)).trans (grown_setCell _ _ _ _)).trans (grown_setCell _ _ _ _)
      rw [HFC.out]
      exact ⟨V, na, cv, MA, km, mc, EA, ke, ec, rfl, ((HO.out.low hg5 (Nat.lt_succ_self _)).down (by omega)), HB1.out.grown hg5 HB1.out.size (fun j hj => by injection hj with hj; omega)⟩
end Go.Proofs.YtcchnibgehonoaaDoor
