/- Walks: forcing.Loop, forcing.open; two rows that grow apart; tuples of two do not lie in a zero automaton's block. -/
import Derived.Test.YtddhaidimadliaaUl
import Derived.Test.YtddhaidimadliaaMh
namespace Go.Proofs.Ytddhaidimadliaa
open Go.RowKit Go Go.Maps

theorem own_far {w w' : World} {base : Nat} {e : TypeId} {size n : Nat} {v v' : Value} {xs : List Value} (h : w.ownsRow base e size v n xs) (hg : w.grownBy w' v'.ownBlock) (hne : ∀ g, v.ownBlock = some g → v'.ownBlock ≠ some g) : w'.ownsRow base e size v n xs :=
 h.kept hg (by
  cases hv : v.ownBlock with
  | none => exact .inl rfl
  | some g => exact .inr (fun e => hne g hv e.symm))
/-- two rows of ints that grow apart from each other -/
structure TwoR (B : Nat) (w0 w : World) (v1 v2 : Value) (n1 n2 : Nat) (l1 l2 : List Int) : Prop where
 bel : Below B w0 w
 siz : B ≤ w.heap.size
 o1 : w.ownsRow B 3 1 v1 n1 (iv l1)
 o2 : w.ownsRow B 3 1 v2 n2 (iv l2)
 e1 : l1.length = n1
 e2 : l2.length = n2
 apt : ∀ g, v1.ownBlock = some g → v2.ownBlock ≠ some g
section
variable {B : Nat} {w0 w w' : World} {v1 v2 : Value} {n1 n2 : Nat} {l1 l2 : List Int}
theorem TwoR.swap (h : TwoR B w0 w v1 v2 n1 n2 l1 l2) : TwoR B w0 w v2 v1 n2 n1 l2 l1 := ⟨h.bel, h.siz, h.o2, h.o1, h.e2, h.e1, fun g h1 h2 => h.apt g h2 h1⟩
theorem TwoR.quiet (h : TwoR B w0 w v1 v2 n1 n2 l1 l2) (hb : Below w.heap.size w w') : TwoR B w0 w' v1 v2 n1 n2 l1 l2 :=
 ⟨h.bel.trans (hb.mono h.siz), Nat.le_trans h.siz hb.size, own_below h.o1 hb, own_below h.o2 hb, h.e1, h.e2, h.apt⟩
theorem TwoR.push (h : TwoR B w0 w v1 v2 n1 n2 l1 l2) {A : Option Addr} {c : Nat} {i : Int} (ho : w'.ownsRow B 3 1 (.slice A (n1 + 1) c) (n1 + 1) (iv l1 ++ [.int .i64 i])) (hg : w.grownBy w' v1.ownBlock)
  (hl : (Value.slice A (n1 + 1) c).ownBlock = v1.ownBlock ∨ ∃ g, (Value.slice A (n1 + 1) c).ownBlock = some g ∧ w.heap.size ≤ g) : TwoR B w0 w' (.slice A (n1 + 1) c) v2 (n1 + 1) n2 (l1 ++ [i]) l2 := by
 refine ⟨h.bel.grown hg h.siz (fun j hj => (h.o1.lt j hj).1), Nat.le_trans h.siz hg.size, by rw [iv_append]; exact ho, own_far h.o2 hg (fun g e1 e2 => h.apt g e2 e1), by simp [h.e1], h.e2, fun g hg1 hg2 => ?_⟩
 rcases hl with hl | ⟨g', hl, hle⟩
 ·rw [hl] at hg1; exact h.apt g hg1 hg2
 ·rw [hl] at hg1; injection hg1 with hg1
  have := (h.o2.lt g hg2).2
  omega
theorem TwoR.start (w : World) : TwoR w.heap.size w w (.slice none 0 0) (.slice none 0 0) 0 0 [] [] :=
 ⟨Below.refl _ _, Nat.le_refl _, World.ownsRow_nil _ _ _ _, World.ownsRow_nil _ _ _ _, rfl, rfl, fun g hg => by simp [Value.ownBlock] at hg⟩
end
theorem Fr3.mono {r r' : Nat} {A M E : Option Addr} (h : Fr3 r A M E) (hr : r' ≤ r) : Fr3 r' A M E :=
 ⟨fun ad e => Nat.lt_of_le_of_lt hr (h.1 ad e), fun ad e => Nat.lt_of_le_of_lt hr (h.2.1 ad e), fun ad e => Nat.lt_of_le_of_lt hr (h.2.2 ad e)⟩
theorem RdI.keepF {w w' : World} {B r : Nat} {A : Option Addr} {l : List Int} (h : RdI w B A l) (hf : ∀ ad, A = some ad → r < ad.block) (hk : ∀ p : Addr, p.block < B → r < p.block → w'.cell? p = w.cell? p) : RdI w' B A l := fun k u hu => by
 obtain ⟨ad, e1, hb, hc⟩ := h k u hu
 exact ⟨ad, e1, hb, (hk _ (by rw [block_of_add]; exact hb) (by rw [block_of_add]; exact hf ad e1)).trans hc⟩
theorem RdX.keepF {w w' : World} {B r : Nat} {A : Option Addr} {l : List Ed} (h : RdX w B A l) (hf : ∀ ad, A = some ad → r < ad.block) (hk : ∀ p : Addr, p.block < B → r < p.block → w'.cell? p = w.cell? p) : RdX w' B A l := fun k e hu => by
 obtain ⟨ad, e1, hb, hc⟩ := h k e hu
 exact ⟨ad, e1, hb, fun j u hj => (hk _ (by rw [block_of_add]; exact hb) (by rw [block_of_add]; exact hf ad e1)).trans (hc j u hj)⟩
theorem AutR.keepF {w w' : World} {B r : Nat} {A M E : Option Addr} {na ca nm cm ne ce : Nat} {a : Aut} (h : AutR w B A na ca M nm cm E ne ce a) (hf : Fr3 r A M E) (hk : ∀ p : Addr, p.block < B → r < p.block → w'.cell? p = w.cell? p) : AutR w' B A na ca M nm cm E ne ce a :=
 ⟨h.la, h.ac, h.cA, h.ra.keepF hf.1 hk, h.lm, h.mc, h.cM, h.rm.keepF hf.2.1 hk, h.le, h.ec, h.cE, h.re.keepF hf.2.2 hk⟩

/-- a variable that holds an automaton -/
structure VarA (w : World) (b : Nat) (x : AV) : Prop where
 blk : Blk w b 34 (avc x)
 ok : x.ok w w.heap.size
theorem VarA.new {w : World} {x : AV} (h : x.ok w w.heap.size) : VarA (w.alloc (.cells #[.slice x.A x.na x.ca, .int .i64 x.a.st, .slice x.M x.nm x.cm, .slice x.E x.ne x.ce] 34)) w.heap.size x :=
 ⟨Blk.new _ _ (avc x), AutR.more (AutR.below h (box_below _ _)) (box_below _ _).size⟩
theorem VarA.below {w w' : World} {b : Nat} {x : AV} (h : VarA w b x) (hb : Below w.heap.size w w') : VarA w' b x :=
 ⟨h.blk.below hb h.blk.lt, AutR.more (AutR.below h.ok hb) hb.size⟩
theorem VarA.put {w : World} {b q : Nat} {v0 v1 v2 v3 : Value} {x : AV} (hk : Blk w b 34 [v0, v1, v2, v3]) (hx : x.ok w w.heap.size) (hf : Fr3 q x.A x.M x.E) (hq : b ≤ q) :
  VarA ((((w.setCell ⟨b, 0, none⟩ (.slice x.A x.na x.ca)).setCell ⟨b, 1, none⟩ (.int .i64 x.a.st)).setCell ⟨b, 2, none⟩ (.slice x.M x.nm x.cm)).setCell ⟨b, 3, none⟩ (.slice x.E x.ne x.ce)) b x := by
 have hg : w.grownBy ((((w.setCell ⟨b, 0, none⟩ (.slice x.A x.na x.ca)).setCell ⟨b, 1, none⟩ (.int .i64 x.a.st)).setCell ⟨b, 2, none⟩ (.slice x.M x.nm x.cm)).setCell ⟨b, 3, none⟩ (.slice x.E x.ne x.ce)) (some b) := (((grown_setCell _ _ _ _).trans (grown_setCell _ _ _ _)).trans (grown_setCell _ _ _ _)).trans (grown_setCell _ _ _ _)
 exact ⟨(((hk.set (j := 0) (by simp) _).set (j := 1) (by simp) _).set (j := 2) (by simp) _).set (j := 3) (by simp) _, (AutR.keepF (r := b) hx (Fr3.mono hf hq) fun p h1 h2 => World.cell?_of_block (hg.block _ h1 (by intro e; injection e with e; omega))).more hg.size⟩
end Go.Proofs.Ytddhaidimadliaa
