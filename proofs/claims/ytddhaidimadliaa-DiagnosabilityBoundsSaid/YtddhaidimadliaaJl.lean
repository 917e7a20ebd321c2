/- Plain words on rank, and the opened twin plant in memory. -/
import Derived.Test.YtddhaidimadliaaJi
namespace Go.Proofs.Ytddhaidimadliaa
open Go.RowKit Go

section
variable {es : List Ed} {w : Ed → Int} {n : Nat} {s s' : RS} {i j : Int}
/-- how many nodes are done -/
def cnt2 (s : RS) : Nat := s.2.countP fun q => q == 2
/-- ranks are bounded by how many nodes are done -/
structure RkQ (n : Nat) (s : RS) : Prop where
 l1 : s.1.length = n
 l2 : s.2.length = n
 val : ∀ j : Int, 0 ≤ j → j < (n : Int) → gI s.2 j = 0 ∨ gI s.2 j = 1 ∨ gI s.2 j = 2
 any : ∀ j : Int, 0 ≤ j → j < (n : Int) → -1 ≤ gI s.1 j ∧ gI s.1 j ≤ (cnt2 s : Int) + 1
 don : ∀ j : Int, 0 ≤ j → j < (n : Int) → gI s.2 j = 2 → gI s.1 j ≤ (cnt2 s : Int)
theorem cnt2_up : ∀ {l : List Int} {k : Nat} {q : Int}, l[k]? = some q → q ≠ 2 → (l.set k 2).countP (fun q => q == 2) = l.countP (fun q => q == 2) + 1
 | [], k, q, h, _ => by simp at h
 | p :: l, 0, q, h, hq => by
  simp at h; subst h
  rw [List.set_cons_zero, List.countP_cons, List.countP_cons]
  simp [hq]
 | p :: l, k + 1, q, h, hq => by
  have ih := cnt2_up (l := l) (k := k) (q := q) (by simpa using h) hq
  rw [List.set_cons_succ, List.countP_cons, List.countP_cons, ih]
  omega
theorem cnt2_one : ∀ {l : List Int} {k : Nat} {q : Int}, l[k]? = some q → q ≠ 2 → (l.set k 1).countP (fun q => q == 2) = l.countP (fun q => q == 2)
 | [], k, q, h, _ => by simp at h
 | p :: l, 0, q, h, hq => by
  simp at h; subst h
  rw [List.set_cons_zero, List.countP_cons, List.countP_cons]
  simp [hq]
 | p :: l, k + 1, q, h, hq => by
  have ih := cnt2_one (l := l) (k := k) (q := q) (by simpa using h) hq
  rw [List.set_cons_succ, List.countP_cons, List.countP_cons, ih]
theorem RkQ.le (h : RkQ n s) : cnt2 s ≤ n := by rw [← h.l2]; exact List.countP_le_length
/-- a node is opened -/
theorem RkQ.opened (h : RkQ n s) (h0 : 0 ≤ i) (h1 : i < (n : Int)) (hi : gI s.2 i = 0) : RkQ n (s.1, s.2.set i.toNat 1) ∧ cnt0 (s.1, s.2.set i.toNat 1) + 1 = cnt0 s ∧ gI (s.2.set i.toNat 1) i = 1 := by
 have hat := gI_at h0 (by rw [h.l2]; exact h1) hi
 have hc : cnt2 (s.1, s.2.set i.toNat 1) = cnt2 s := cnt2_one hat (by decide)
 have hg : ∀ j, 0 ≤ j → gI (s.2.set i.toNat 1) j = if j = i then 1 else gI s.2 j := fun j hj => gI_set h0 (by rw [h.l2]; exact h1) hj
 refine ⟨⟨h.l1, by rw [List.length_set]; exact h.l2, fun j j0 j1 => ?_, fun j j0 j1 => by rw [hc]; exact h.any j j0 j1, fun j j0 j1 hj => ?_⟩, cnt_set hat (by decide), by rw [hg i h0, if_pos rfl]⟩
 ·show gI (s.2.set i.toNat 1) j = 0 ∨ _
  rw [hg j j0]
  by_cases e : j = i
  ·rw [if_pos e]; exact .inr (.inl rfl)
  ·rw [if_neg e]; exact h.val j j0 j1
 ·rw [hc]
  refine h.don j j0 j1 ?_
  have : gI (s.2.set i.toNat 1) j = 2 := hj
  rw [hg j j0] at this
  by_cases e : j = i
  ·rw [if_pos e] at this; cases this
  ·rwa [if_neg e] at this
/-- an open node is done -/
theorem RkQ.closed (h : RkQ n s) (h0 : 0 ≤ i) (h1 : i < (n : Int)) (hi : gI s.2 i = 1) : RkQ n (s.1, s.2.set i.toNat 2) ∧ cnt0 (s.1, s.2.set i.toNat 2) = cnt0 s ∧ gI (s.2.set i.toNat 2) i = 2 := by
 have hat := gI_at h0 (by rw [h.l2]; exact h1) hi
 have hc : cnt2 (s.1, s.2.set i.toNat 2) = cnt2 s + 1 := cnt2_up hat (by decide)
 have hg : ∀ j, 0 ≤ j → gI (s.2.set i.toNat 2) j = if j = i then 2 else gI s.2 j := fun j hj => gI_set h0 (by rw [h.l2]; exact h1) hj
 refine ⟨⟨h.l1, by rw [List.length_set]; exact h.l2, fun j j0 j1 => ?_, fun j j0 j1 => ?_, fun j j0 j1 hj => ?_⟩, cnt_keep hat (by decide) (by decide), by rw [hg i h0, if_pos rfl]⟩
 ·show gI (s.2.set i.toNat 2) j = 0 ∨ _
  rw [hg j j0]
  by_cases e : j = i
  ·rw [if_pos e]; exact .inr (.inr rfl)
  ·rw [if_neg e]; exact h.val j j0 j1
 ·have := h.any j j0 j1; rw [hc]; exact ⟨this.1, by show gI s.1 j ≤ _; omega⟩
 ·have := h.any j j0 j1; rw [hc]; show gI s.1 j ≤ _; omega
/-- an open node's rank is raised by that of one that is done -/
theorem RkQ.upd (h : RkQ n s) (h0 : 0 ≤ i) (h1 : i < (n : Int)) (hi : gI s.2 i = 1) {x : Ed} (x0 : 0 ≤ x.t) (x1 : x.t < (n : Int)) (hx : gI s.2 x.t = 2) (hw : 0 ≤ w x ∧ w x ≤ 1) : RkQ n (updR w i x s) := by
 have hg : ∀ j, 0 ≤ j → gI (s.1.set i.toNat (max (gI s.1 i) (gI s.1 x.t + w x))) j = if j = i then max (gI s.1 i) (gI s.1 x.t + w x) else gI s.1 j := fun j hj => gI_set h0 (by rw [h.l1]; exact h1) hj
 have a1 := h.any i h0 h1
 have a2 := h.don x.t x0 x1 hx
 refine ⟨by unfold updR; rw [List.length_set]; exact h.l1, h.l2, h.val, fun j j0 j1 => ?_, fun j j0 j1 hj => ?_⟩
 ·show -1 ≤ gI (s.1.set i.toNat _) j ∧ gI (s.1.set i.toNat _) j ≤ (cnt2 s : Int) + 1
  rw [hg j j0]
  by_cases e : j = i
  ·rw [if_pos e]; omega
  ·rw [if_neg e]; exact h.any j j0 j1
 ·show gI (s.1.set i.toNat _) j ≤ (cnt2 s : Int)
  rw [hg j j0]
  by_cases e : j = i
  ·rw [e] at hj; rw [show gI (updR w i x s).2 i = gI s.2 i from rfl, hi] at hj; cases hj
  ·rw [if_neg e]; exact h.don j j0 j1 hj
/-- what a search keeps -/
structure RkK (n : Nat) (s s' : RS) : Prop where
 q : RkQ n s'
 opn : ∀ j : Int, 0 ≤ j → j < (n : Int) → gI s.2 j = 1 → gI s'.2 j = 1
 cnt : cnt0 s' ≤ cnt0 s
theorem RkK.trans {s'' : RS} (h : RkK n s s') (k : RkK n s' s'') : RkK n s s'' := ⟨k.q, fun j h0 h1 h2 => k.opn j h0 h1 (h.opn j h0 h1 h2), Nat.le_trans k.cnt h.cnt⟩
theorem RkQ.keep (h : RkQ n s) : RkK n s s := ⟨h, fun _ _ _ h => h, Nat.le_refl _⟩
theorem rkL_keep (he : EdR n es) (hw : ∀ x, 0 ≤ w x ∧ w x ≤ 1) {f : Int → RS → Bool × RS} {c : Nat} (hf : ∀ (k : Int) (s : RS), 0 ≤ k → k < (n : Int) → RkQ n s → cnt0 s < c → RkK n s (f k s).2 ∧ ((f k s).1 = true → gI (f k s).2.2 k = 2)) (h0 : 0 ≤ i) (h1 : i < (n : Int)) :
  ∀ (r : List Ed) (s : RS), (∀ x ∈ r, x ∈ es) → RkQ n s → cnt0 s < c → gI s.2 i = 1 → RkK n s (rkL f w i r s).2
 | [], s, _, hq, _, _ => hq.keep
 | x :: r, s, hr, hq, hc, hi => by
  have hx := he x (hr x (List.mem_cons_self ..))
  obtain ⟨k1, k2⟩ := hf x.t s hx.2.1 hx.2.2 hq hc
  rw [rkL]
  by_cases hb : (f x.t s).1 = true
  ·rw [if_pos hb]
   have hi2 := k1.opn i h0 h1 hi
   have hu := k1.q.upd h0 h1 hi2 hx.2.1 hx.2.2 (k2 hb) (hw x)
   have hk : RkK n s (updR w i x (f x.t s).2) := ⟨hu, fun j a b c => k1.opn j a b c, k1.cnt⟩
   exact hk.trans (rkL_keep he hw hf h0 h1 r _ (fun y hy => hr y (List.mem_cons_of_mem _ hy)) hu (Nat.lt_of_le_of_lt k1.cnt hc) hi2)
  ·rw [if_neg hb]; exact k1
theorem rkD_keep (he : EdR n es) (hw : ∀ x, 0 ≤ w x ∧ w x ≤ 1) : ∀ (g : Nat) (i : Int) (s : RS), 0 ≤ i → i < (n : Int) → RkQ n s → cnt0 s < g → RkK n s (rkD es w g i s).2 ∧ ((rkD es w g i s).1 = true → gI (rkD es w g i s).2.2 i = 2)
 | 0, _, _, _, _, _, h => by omega
 | g + 1, i, s, h0, h1, hq, hc => by
  unfold rkD
  by_cases c1 : gI s.2 i = 1
  ·rw [if_pos c1]; exact ⟨hq.keep, fun h => by cases h⟩
  rw [if_neg c1]
  by_cases c2 : gI s.2 i = 2
  ·rw [if_pos c2]; exact ⟨hq.keep, fun _ => c2⟩
  rw [if_neg c2]
  have c0 : gI s.2 i = 0 := by rcases hq.val i h0 h1 with h | h | h; exact h; exact absurd h c1; exact absurd h c2
  obtain ⟨q1, q2, q3⟩ := hq.opened h0 h1 c0
  have hkL := rkL_keep he hw (fun k s' a b c d => rkD_keep he hw g k s' a b c d) h0 h1 (outL es i) _ (fun x hx => (outL_mem.1 hx).1) q1 (by omega) q3
  have hop : ∀ {s' : RS}, RkK n (s.1, s.2.set i.toNat 1) s' → RkK n s s' := fun {s'} h => ⟨h.q, fun j a b c => h.opn j a b (by
   show gI (s.2.set i.toNat 1) j = 1
   rw [gI_set h0 (by rw [hq.l2]; exact h1) a]
   by_cases e : j = i
   ·rw [if_pos e]
   ·rw [if_neg e]; exact c), by have := h.cnt; omega⟩
  by_cases hb : (rkL (rkD es w g) w i (outL es i) (s.1, s.2.set i.toNat 1)).1 = true
  ·rw [if_pos hb]
   have hk := hop hkL
   have hio := hkL.opn i h0 h1 q3
   obtain ⟨p1, p2, p3⟩ := hkL.q.closed h0 h1 hio
   refine ⟨⟨p1, fun j a b c => ?_, by rw [p2]; exact hk.cnt⟩, fun _ => p3⟩
   show gI (List.set _ i.toNat 2) j = 1
   rw [gI_set h0 (by rw [hkL.q.l2]; exact h1) a]
   by_cases e : j = i
   ·exact absurd (by rw [← e]; exact c) c1
   ·rw [if_neg e]; exact hk.opn j a b c
  ·rw [if_neg hb]; exact ⟨hop hkL, fun h => by cases h⟩
theorem rkL_cons {f : Int → RS → Bool × RS} {x : Ed} {r : List Ed} {b : Bool} (h : f x.t s = (b, s')) : rkL f w i (x :: r) s = if b = true then rkL f w i r (updR w i x s') else (false, s') := by
 rw [rkL, h]
end
theorem iv_gI {l : List Int} {i : Nat} (h : i < l.length) : (iv l)[i]? = some (.int .i64 (gI l (i : Int))) := by
 unfold iv gI
 rw [List.getElem?_map, Int.toNat_natCast, List.getD_eq_getElem?_getD, List.getElem?_eq_getElem h]; rfl

/-- all but two blocks is as it was -/
structure Ex2 (r s : Nat) (w w' : World) : Prop where
 os : w'.os = w.os
 tape : w'.tape = w.tape
 output : w'.output = w.output
 size : w.heap.size ≤ w'.heap.size
 blk : ∀ k, k < w.heap.size → k ≠ r → k ≠ s → w'.heap[k]? = w.heap[k]?
section
variable {r s : Nat} {w w' w'' : World}
theorem Ex2.refl : Ex2 r s w w := ⟨rfl, rfl, rfl, Nat.le_refl _, fun _ _ _ _ => rfl⟩
theorem Ex2.trans (h : Ex2 r s w w') (k : Ex2 r s w' w'') : Ex2 r s w w'' :=
 ⟨k.os.trans h.os, k.tape.trans h.tape, k.output.trans h.output, Nat.le_trans h.size k.size, fun j h1 h2 h3 => (k.blk j (Nat.lt_of_lt_of_le h1 h.size) h2 h3).trans (h.blk j h1 h2 h3)⟩
theorem Ex2.below (h : Below w.heap.size w w') : Ex2 r s w w' := ⟨h.os, h.tape, h.output, h.size, fun k hk _ _ => h.block k hk⟩
theorem Ex2.grown1 (h : w.grownBy w' (some r)) : Ex2 r s w w' := ⟨h.os, h.tape, h.output, h.size, fun k hk h1 _ => h.block k hk (by intro e; injection e with e; exact h1 e)⟩
theorem Ex2.grown2 (h : w.grownBy w' (some s)) : Ex2 r s w w' := ⟨h.os, h.tape, h.output, h.size, fun k hk _ h1 => h.block k hk (by intro e; injection e with e; exact h1 e)⟩
theorem Ex2.toBelow {B : Nat} {w0 : World} (h : Ex2 r s w w') (hb : Below B w0 w) (hB : B ≤ w.heap.size) (hr : B ≤ r) (hs : B ≤ s) : Below B w0 w' :=
 ⟨h.os.trans hb.os, h.tape.trans hb.tape, h.output.trans hb.output, Nat.le_trans hb.size h.size, fun k hk => (h.blk k (by omega) (by omega) (by omega)).trans (hb.block k hk)⟩
theorem Blk.ex2 {b : Nat} {t : TypeId} {vs : List Value} (h : Blk w b t vs) (k : Ex2 r s w w') (h1 : b ≠ r) (h2 : b ≠ s) : Blk w' b t vs := (k.blk b h.lt h1 h2).trans h
/-- a row of structs apart from two blocks -/
def RdY {α : Type} (r s sz : Nat) (f : α → List Value) (w : World) (A : Option Addr) (l : List α) : Prop := RdR sz f w w.heap.size A l ∧ ∀ ad, A = some ad → ad.block ≠ r ∧ ad.block ≠ s
theorem RdY.ex2 {α : Type} {sz : Nat} {f : α → List Value} {A : Option Addr} {l : List α} (h : RdY r s sz f w A l) (k : Ex2 r s w w') : RdY r s sz f w' A l := by
 refine ⟨fun i e he => ?_, h.2⟩
 obtain ⟨ad, e1, e2, e3⟩ := h.1 i e he
 have h2 := h.2 ad e1
 exact ⟨ad, e1, Nat.lt_of_lt_of_le e2 k.size, fun j u hj => (World.cell?_of_block (k.blk _ (by rw [block_of_add]; exact e2) (by rw [block_of_add]; exact h2.1) (by rw [block_of_add]; exact h2.2))).trans (e3 j u hj)⟩
end
/-- an opened twin plant -/
structure TwP where
 tb : Nat
 fb : Nat
 rb : Nat
 sb : Nat
 n : Nat
 m : Nat
 A1 : Option Addr
 c1 : Nat
 A2 : Option Addr
 c2 : Nat
 F : List Value
def TwP.cells (z : TwP) : List Value := [.slice z.A1 z.n z.c1, .slice z.A2 z.m z.c2, .slice (some ⟨z.fb, 0, none⟩) z.n z.n, .slice (some ⟨z.rb, 0, none⟩) z.n z.n, .slice (some ⟨z.sb, 0, none⟩) z.n z.n]
structure TwP.ok (w : World) (z : TwP) (s : Bs TwS) : Prop where
 blk : Blk w z.tb 151 z.cells
 ln : s.ts.length = z.n
 lm : s.es.length = z.m
 prs : RdY z.rb z.sb 3 prC w z.A1 s.ts
 mvs : RdY z.rb z.sb 4 mvc w z.A2 s.es
 fr : Blk w z.fb 52 z.F
 row : ∀ i : Nat, i < z.n → ∃ (A : Option Addr) (c : Nat), z.F[i]? = some (.slice A (outL s.es (i : Int)).length c) ∧ RdY z.rb z.sb 4 mvc w A (outL s.es (i : Int))
 n1 : z.tb ≠ z.rb ∧ z.tb ≠ z.sb
 n2 : z.fb ≠ z.rb ∧ z.fb ≠ z.sb
 n3 : z.rb ≠ z.sb
theorem TwP.ok.ex2 {w w' : World} {z : TwP} {s : Bs TwS} (h : z.ok w s) (k : Ex2 z.rb z.sb w w') : z.ok w' s :=
 ⟨h.blk.ex2 k h.n1.1 h.n1.2, h.ln, h.lm, h.prs.ex2 k, h.mvs.ex2 k, h.fr.ex2 k h.n2.1 h.n2.2, fun i hi => by obtain ⟨A, c, e1, e2⟩ := h.row i hi; exact ⟨A, c, e1, e2.ex2 k⟩, h.n1, h.n2, h.n3⟩
/-- its ranks and states -/
structure TwP.rs (w : World) (z : TwP) (q : RS) : Prop where
 rk : Blk w z.rb 3 (iv q.1)
 st : Blk w z.sb 3 (iv q.2)
 q : RkQ z.n q
theorem TwP.rs.below {w w' : World} {z : TwP} {q : RS} (h : z.rs w q) (hb : Below w.heap.size w w') : z.rs w' q := ⟨h.rk.below hb h.rk.lt, h.st.below hb h.st.lt, h.q⟩
end Go.Proofs.Ytddhaidimadliaa
