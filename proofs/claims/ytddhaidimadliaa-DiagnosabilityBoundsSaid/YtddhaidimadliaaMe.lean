/- Walks: strings.Builder at this dump; the key of a tuple. -/
import Derived.Test.YtddhaidimadliaaSa
import Derived.Test.YtddhaidimadliaaAa
import Derived.Shelf.Strings.Builder1
import Derived.Shelf.Abstract
import Derived.Test.YtddhaidimadliaaQa
import Derived.Test.YtddhaidimadliaaMa
namespace Go.Proofs.Ytddhaidimadliaa
open Go.RowKit Go Go.Maps

end Go.Proofs.Ytddhaidimadliaa

/- Walks: the key of a tuple. -/
namespace Go.Proofs.Ytddhaidimadliaa
open Go.RowKit Go Go.Maps

end Go.Proofs.Ytddhaidimadliaa

/- The state of product.Synchronous as it stands in memory; what each of its steps leaves of it. -/
namespace Go.Proofs.Ytddhaidimadliaa
open Go.RowKit Go Go.Maps

theorem edge_info : (Try.prog.info? 106).map (fun i => (i.zero, i.size, i.bytes)) = some (some (.agg #[.int .i64 0, .int .i64 0, .int .i64 0]), 3, 24) := by kernel_rfl
/-- the place in a list, if any -/
def idxO {σ : Type} [DecidableEq σ] (l : List σ) (x : σ) : Option Int := if idx l x < 0 then none else some (idx l x)
theorem idx_snoc_other {σ : Type} [DecidableEq σ] : ∀ {l : List σ} {x y : σ}, y ≠ x → idx (l ++ [y]) x = idx l x
 | [], x, y, h => by simp [idx, h]
 | z :: r, x, y, h => by
  have ih := idx_snoc_other (l := r) h
  show idx (z :: (r ++ [y])) x = _
  unfold idx
  rw [ih]
theorem idxO_snoc_new {σ : Type} [DecidableEq σ] {l : List σ} {x : σ} (h : x ∉ l) : idxO (l ++ [x]) x = some (l.length : Int) := by
 unfold idxO; rw [idx_new h, if_neg (by omega)]
theorem idxO_snoc_other {σ : Type} [DecidableEq σ] {l : List σ} {x y : σ} (h : y ≠ x) : idxO (l ++ [y]) x = idxO l x := by
 unfold idxO; rw [idx_snoc_other h]

theorem own_ne {w : World} {base base' : Nat} {e e' : TypeId} {size size' n n' : Nat} {v v' : Value} {xs xs' : List Value} (h : w.ownsRow base e size v n xs) (h' : w.ownsRow base' e' size' v' n' xs') (hne : e ≠ e') : v.ownBlock = none ∨ v.ownBlock ≠ v'.ownBlock := by
 rcases h.2 with ⟨rfl, _⟩ | ⟨g, cap, cur, rfl, _, hg, _⟩
 ·exact .inl rfl
 ·right
  rcases h'.2 with ⟨rfl, _⟩ | ⟨g', cap', cur', rfl, _, hg', _⟩
  ·simp [Value.ownBlock]
  ·intro e0
   simp only [Value.ownBlock, Option.some.injEq] at e0
   subst e0
   rw [hg] at hg'
   injection hg' with hg'
   injection hg' with _ h2 _
   exact hne h2
theorem own_kept_ne {w w' : World} {base base' : Nat} {e e' : TypeId} {size size' n n' : Nat} {v v' : Value} {xs xs' : List Value} (h : w.ownsRow base e size v n xs) (h' : w.ownsRow base' e' size' v' n' xs') (hne : e ≠ e') (hg : w.grownBy w' v'.ownBlock) : w'.ownsRow base e size v n xs := h.kept hg (own_ne h h' hne)
theorem own_lt_ne {w : World} {base r : Nat} {e : TypeId} {size n : Nat} {v : Value} {xs : List Value} (h : w.ownsRow base e size v n xs) (hr : r < base) : some r ≠ v.ownBlock := fun e0 => by have := (h.lt r e0.symm).1; omega
theorem tab_ne_own' {α : Type} {P : Program} {K E : TypeId} {key : α → Value} {w : World} {b n : Nat} {g : α → Option Int} (h : TabI P K E key w b n g) {base : Nat} {e : TypeId} {size m : Nat} {v : Value} {xs : List Value} (ho : w.ownsRow base e size v m xs) : some b ≠ v.ownBlock := by
 obtain ⟨D, ⟨es, clock, hb, _⟩, _⟩ := h
 rcases ho.2 with ⟨rfl, _⟩ | ⟨g, cap, cur, rfl, _, hg, _⟩
 ·simp [Value.ownBlock]
 ·intro he
  simp only [Value.ownBlock, Option.some.injEq] at he
  subst he
  rw [hb] at hg; cases hg

/-- The constants of a call: the result's block ra, the machine's mb, the map's mp, and the machine's value. -/
structure Cst where
 ra : Nat
 mb : Nat
 mp : Nat
 L : Option Addr
 n : Nat
 c : Nat
 V : Option Addr
 nv : Nat
 cv : Nat
 G : Option Addr
 cg : Nat
 xs : List AV
/-- what is left of a search behind a state's events -/
def bsC {σ : Type} [DecidableEq σ] (C : Nat) (st : σ → Int → Option σ) (V : List Int) (n i : Nat) : Option (Bs σ) → Option (Bs σ)
 | none => none
 | some s => bsR C st V n (i + 1) s
theorem bsR_bsC {σ : Type} [DecidableEq σ] {C : Nat} {st : σ → Int → Option σ} {V : List Int} {n i : Nat} {s : Bs σ} {t : σ} (h : s.ts[i]? = some t) : bsR C st V (n + 1) i s = bsC C st V n i (bsF C st i t (V.drop 0) s) := by
 rw [bsR, h, List.drop_zero]
 simp only
 cases hb : bsF C st i t V s <;> simp [bsC]
theorem own_lit (w : World) (us : List Value) (base : Nat) (e : TypeId) (hb : base ≤ w.heap.size) (hn : us.length ≤ 9223372036854775807) : (w.alloc (.cells us.toArray e)).ownsRow base e 1 (.slice (some ⟨w.heap.size, 0, none⟩) us.length us.length) us.length us :=
 ⟨by simp, .inr ⟨w.heap.size, us.length, us.toArray, rfl, hb, heap_alloc_new w _, Nat.le_refl _, by unfold maxLen; omega, by simp, by simp⟩⟩
theorem wpList_tab_insert {α : Type} {P : Program} {K E : TypeId} {key : α → Value} {w : World} {b n : Nat} {g : α → Option Int} {ops : Array Oper} {rest : List Oper} {o : Oper} {a : Act} {Q : Exit → Act → World → Prop} (hg : o.guard = none) (m x v : Operand) (t : TypeId) (hop : o.op = Op.insert t m x v)
  (KK : Keyed P K) (ht : P.underlying t = some (.map K E)) (he : P.underlying E = some (.int .i64))
  (hm : a.eval m = .map (some b)) (h : TabI P K E key w b n g) (hn : n ≤ 1000000000) (c : α) (hx : a.eval x = key c) (hk : ∃ kl, keyOf P K (key c) = some kl) (y : Int) (hv : a.eval v = .int .i64 y) (hw : (Lit.int .i64 y).wf = true)
  (g' : α → Option Int) (hg1 : ∀ d, key d = key c → g' d = some y) (hg2 : ∀ d, key d ≠ key c → g' d = g d)
  (hK : ∀ w', TabI P K E key w' b (n + 1) g' → w.grownBy w' (some b) → wpList P ops Q rest (a.put o.dst undef) w') : wpList P ops Q (o :: rest) a w := by
 obtain ⟨D, h1, h2⟩ := h
 obtain ⟨kl, hkl⟩ := hk
 refine wpList_plain hg fun K' hK' => ?_
 obtain ⟨w', hrun, h3, h4⟩ := h1.update KK ht (Nat.lt_of_le_of_lt hn (by unfold maxLen; omega)) hkl (plainElem_int he hw)
 unfold Oper.wp
 simp [execOp, hop, hm, hx, hv, hrun, Result.andThen]
 refine hK' _ _ (hK w' ⟨_, h3, fun d kd hkd => ?_⟩ h4)
 by_cases hd : key d = key c
 ·have : kd = kl := by rw [hd, hkl] at hkd; injection hkd with e; exact e.symm
  subst this
  rw [hg1 d hd]
  exact ⟨Maps.has_put_same h1.isMap (KK.key hkl) _, fun z hz => by injection hz with hz; subst hz; exact Maps.atKey_put_same h1.isMap (KK.key hkl) _ _⟩
 ·have hne : kd ≠ kl := fun e => hd (KK.inj (by rw [← e]; exact hkd) hkl)
  rw [hg2 d hd, Maps.has_put_other hne, Maps.atKey_put_other hne]
  exact h2 d kd hkd
end Go.Proofs.Ytddhaidimadliaa
