/- An automaton under construction in a block of its own; the walk of ref03.Canonical. -/
import Derived.Test.YtbdliebjalghmaaDoorGb
import Derived.Deep.AppendLies
namespace Go.Proofs.YtbdliebjalghmaaDoor
open Go.RowKit Go

/-- The block w0.heap.size holds an automaton whose marks and edges grow in rows of its own. -/
structure Bld (w0 w : World) (v0 v1 mv ev : Value) (km ke : Nat) (mk : List Int) (es : List Ed) : Prop where
  bel : Below w0.heap.size w0 w
  blk : Blk w w0.heap.size 29 [v0, v1, mv, ev]
  mrk : w.ownsRow (w0.heap.size + 1) 3 1 mv km (iv mk)
  mkl : mk.length = km
  edg : w.ownsRow (w0.heap.size + 1) 43 3 ev ke (es.flatMap edc)
  edl : es.length = ke
theorem below_dr (w : World) : Below w.heap.size w w.drew := ⟨rfl, rfl, rfl, Nat.le_refl _, fun _ _ => rfl⟩
section
variable {w0 w w' : World} {v0 v1 mv ev : Value} {km ke : Nat} {mk : List Int} {es : List Ed}
theorem Bld.start (w0 : World) (v0 v1 : Value) : Bld w0 (w0.alloc (.cells #[v0, v1, .slice none 0 0, .slice none 0 0] 29)) v0 v1 (.slice none 0 0) (.slice none 0 0) 0 0 [] [] :=
  ⟨box_below _ _, Blk.new _ _ _, World.ownsRow_nil _ _ _ _, rfl, World.ownsRow_nil _ _ _ _, rfl⟩
theorem Bld.lt (h : Bld w0 w v0 v1 mv ev km ke mk es) : w0.heap.size < w.heap.size := h.blk.lt
theorem Bld.quiet (h : Bld w0 w v0 v1 mv ev km ke mk es) (hb : Below w.heap.size w w') : Bld w0 w' v0 v1 mv ev km ke mk es :=
  ⟨h.bel.trans (hb.mono (Nat.le_of_lt h.lt)), h.blk.below hb h.lt, own_below h.mrk hb, h.mkl, own_below h.edg hb, h.edl⟩
theorem Bld.mark (h : Bld w0 w v0 v1 mv ev km ke mk es) {A : Option Addr} {c : Nat} {i : Int} (ho : w'.ownsRow (w0.heap.size + 1) 3 1 (.slice A (km + 1) c) (km + 1) (iv mk ++ [.int .i64 i])) (hg : w.grownBy w' mv.ownBlock) :
    Bld w0 (w'.setCell ⟨w0.heap.size, 2, none⟩ (.slice A (km + 1) c)) v0 v1 (.slice A (km + 1) c) ev (km + 1) ke (mk ++ [i]) es := by
  have r1 : w0.heap.size < w0.heap.size + 1 := Nat.lt_succ_self _
  have hs := grown_setCell w' w0.heap.size 2 (.slice A (km + 1) c)
  have hbl := h.blk.kept hg (own_lt_ne h.mrk r1)
  exact ⟨(h.bel.grown hg (Nat.le_of_lt h.lt) (fun j hj => by have := (h.mrk.lt j hj).1; omega)).setCell (Nat.le_refl _) _, hbl.set (by simp) _, own_kept_low (by rw [iv_append]; exact ho) hs r1, by simp [h.mkl], own_kept_low (own_kept_ne h.edg h.mrk (by decide) hg) hs r1, h.edl⟩
theorem Bld.edge (h : Bld w0 w v0 v1 mv ev km ke mk es) {A : Option Addr} {c : Nat} {x : Ed} (ho : w'.ownsRow (w0.heap.size + 1) 43 3 (.slice A (ke + 1) c) (ke + 1) (es.flatMap edc ++ edc x)) (hg : w.grownBy w' ev.ownBlock) :
    Bld w0 (w'.setCell ⟨w0.heap.size, 3, none⟩ (.slice A (ke + 1) c)) v0 v1 mv (.slice A (ke + 1) c) km (ke + 1) mk (es ++ [x]) := by
  have r1 : w0.heap.size < w0.heap.size + 1 := Nat.lt_succ_self _
  have hs := grown_setCell w' w0.heap.size 3 (.slice A (ke + 1) c)
  have hbl := h.blk.kept hg (own_lt_ne h.edg r1)
  exact ⟨(h.bel.grown hg (Nat.le_of_lt h.lt) (fun j hj => by have := (h.edg.lt j hj).1; omega)).setCell (Nat.le_refl _) _, hbl.set (by simp) _, own_kept_low (own_kept_ne h.mrk h.edg (by decide) hg) hs r1, h.mkl, own_kept_low (by simpa using ho) hs r1, by simp [h.edl]⟩
theorem Bld.set1 (h : Bld w0 w v0 v1 mv ev km ke mk es) (u : Value) : Bld w0 (w.setCell ⟨w0.heap.size, 1, none⟩ u) v0 u mv ev km ke mk es := by
  have r1 : w0.heap.size < w0.heap.size + 1 := Nat.lt_succ_self _
  have hs := grown_setCell w w0.heap.size 1 u
  exact ⟨h.bel.setCell (Nat.le_refl _) _, h.blk.set (by simp) _, own_kept_low h.mrk hs r1, h.mkl, own_kept_low h.edg hs r1, h.edl⟩
/-- What has been built. -/
theorem Bld.fin {V M E : Option Addr} {nv cv cm ce : Nat} {st : Int} {al : List Int} {b : Nat} (h : Bld w0 w (.slice V nv cv) v1 (.slice M km cm) (.slice E ke ce) km ke mk es) (hv : al.length = nv) (ho : w0.ownsRow b 3 1 (.slice V nv cv) nv (iv al)) (hb : b ≤ w0.heap.size + 1) :
    AutO w b V nv cv M km cm E ke ce ⟨al, st, mk, es⟩ :=
  ⟨hv, own_below ho h.bel, h.mkl, own_base h.mrk hb, h.edl, own_base h.edg hb⟩
end
/-- push of one element as a step of a region that draws its order -/
theorem step_pushN {P : Program} (w : World) (us : List Value) {ops : Array Oper} {o : Oper} {a : Act} {K : Act → World → Prop} {Q : Exit → Act → World → Prop} {E : Prop} (hgd : o.guard = none) (s x : Operand) (t : TypeId)
    (ho : o.op = .call { callee := .builtin .append, args := #[s, x], argTypes := #[t, t] })
    (base : Nat) (e : TypeId) (z : Value) (size bytes : Nat) (ht : P.underlying t = some (.slice e)) (hinfo : (P.info? e).map (fun i => (i.zero, i.size, i.bytes)) = some (some z, size, bytes))
    (hz1 : z.cells.size = size) (hsz : 0 < size) (hus : us.length = size) (v : Value) (n : Nat) (xs : List Value) (hs : a.eval s = v) (hown : w.ownsRow base e size v n xs)
    (hx : a.eval x = .slice (some ⟨w.heap.size, 0, none⟩) 1 1) (h1 : ∀ u ∈ us, u.oneCell' = true) (hbytes : (n + 1) * bytes ≤ 140737488355328) (hn : n + 1 ≤ 9223372036854775807) (hbase : base ≤ w.heap.size)
    (h : ∀ A c w', w'.ownsRow base e size (.slice A (n + 1) c) (n + 1) (xs ++ us) → w.grownBy w' v.ownBlock → K (a.put o.dst (.slice A (n + 1) c)) w') :
    if Region.wanted o (yielded ops a.tmps) = true then Oper.wp P o a (w.alloc (.cells us.toArray e)) K Q else E := by
  obtain ⟨i, hi, hz, hs1, hby⟩ := info_parts hinfo
  refine step_append_lies (w.alloc (.cells us.toArray e)) hgd s x t ho base e i z size bytes ht hi hz hs1 hby hz1 hsz v n xs hs (hown.alloc _) ⟨w.heap.size, 0, none⟩ 1 1 us hx (by rw [hus, Nat.one_mul]) ?_ h1 (by omega) (by unfold maxLen; omega) hbytes (by simp; omega) _ rfl ?_
  · intro j y hj
    rw [add_lit0, cell_of_row _ _ _ _ e (0, 0) (heap_alloc_new w _)]
    simpa using hj
  · intro g cap w' ho' hg _ _
    have hg' : w.grownBy w' v.ownBlock := ⟨hg.os, hg.tape, hg.output, Nat.le_trans (by simp) hg.size, fun k hk hne => (hg.block k (by simp; omega) hne).trans (Below.heap_alloc w _ k hk)⟩
    exact h _ cap w' ho' hg'
theorem mono_same {P : Program} {f : FuncId} {args : Array Value} {w : World} {e0 : Ending} (h : Calls P f args w fun e w' => e = e0 ∧ w = w') : Calls P f args w fun e w' => e = e0 ∧ w' = w := h.mono fun _ _ ⟨h1, h2⟩ => ⟨h1, h2.symm⟩

/-- what Canonical makes of what is found -/
theorem found_can {a : Aut} {l : List Int} (h : FoundL a l) : canA a = ⟨a.al, l.length, mksN (mkA a) l l.length, edsOf (stA a) a.al l l.length⟩ := by
  rcases h with ⟨h0, rfl⟩ | ⟨h0, s, hs, hb, rfl⟩
  · unfold canA; rw [if_pos h0]; rfl
  · unfold canA; rw [if_neg h0, hs]
    show autOf a.al (mkA a) s = _
    unfold autOf
    rw [hb.es]
theorem edRow_yes {a : Aut} {l : List Int} {i k : Nat} {t v r : Int} (hv : a.al[k]? = some v) (hn : nxt a t v = r) (hr : 0 ≤ r) : edRow (stA a) l i t (a.al.take (k + 1)) = edRow (stA a) l i t (a.al.take k) ++ [⟨i, v, idx l r⟩] := by
  have hs : stA a t v = some r := by unfold stA; rw [hn, if_neg (by omega)]
  rw [take_snoc' hv]; unfold edRow; rw [List.filterMap_append]; simp [hs]
theorem edRow_no {a : Aut} {l : List Int} {i k : Nat} {t v r : Int} (hv : a.al[k]? = some v) (hn : nxt a t v = r) (hr : r < 0) : edRow (stA a) l i t (a.al.take (k + 1)) = edRow (stA a) l i t (a.al.take k) := by
  have hs : stA a t v = none := by unfold stA; rw [hn, if_pos hr]
  rw [take_snoc' hv]; unfold edRow; rw [List.filterMap_append]; simp [hs]
theorem edsOf_step {a : Aut} {l : List Int} {i : Nat} {t : Int} (ht : l[i]? = some t) : edsOf (stA a) a.al l (i + 1) = edsOf (stA a) a.al l i ++ edRow (stA a) l i t a.al := by
  rw [edsOf, ht]
end Go.Proofs.YtbdliebjalghmaaDoor
