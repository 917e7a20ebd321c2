/- Walks: classed, reach.Dead, automaton.Step, the model's step, Live. Printed by wip/mkjb.py. -/
import Derived.Test.YtdnmpndnpfklcaaUf
import Derived.Test.YtdnmpndnpfklcaaIa
import Derived.Test.YtdnmpndnpfklcaaUk
import Derived.BigQuiet
import Derived.Maps.Own
import Derived.Maps.OwnOps
import Derived.Maps.OwnSet
import Derived.Test.YtdnmpndnpfklcaaMi
import Derived.Deep.Cut
import Derived.Deep.AppendLies
import Derived.Deep.RegionLaw
import Derived.Deep.CutRange
import Derived.Deep.CutBlock
import Derived.WideKeyEntry

namespace Go.Proofs.Ytdnmpndnpfklcaa
open Go.RowKit Go

/-- what the plain laws say of a model -/
def DV.m (z : DV) : Dm := ⟨z.x.a, z.l.map Ev.o, z.l.map Ev.fault⟩
/-- a list and no error -/
def RetLE (l : List Int) (w : World) (e : Ending) (w' : World) : Prop := ∃ v, e = .returned (.tuple #[v, .int .i64 0]) ∧ w'.ownsRow w.heap.size 3 1 v l.length (iv l) ∧ Below w.heap.size w w'
end Go.Proofs.Ytdnmpndnpfklcaa
/- Walks: diagnosability.Live. Printed by wip/mkjc.py. -/
namespace Go.Proofs.Ytdnmpndnpfklcaa
open Go.RowKit Go

theorem dmE_wf {z : DV} (h : dmE z = 0) : WF z.x.a := by
  unfold dmE at h
  by_cases h1 : chkE z.l ≠ 0
  · rw [if_pos h1] at h; exact absurd h h1
  rw [if_neg h1] at h
  by_cases h2 : chkA z.x.a ≠ 0
  · rw [if_pos h2] at h; exact absurd h h2
  exact chkA_wf (Classical.not_not.1 h2)
end Go.Proofs.Ytdnmpndnpfklcaa

/- Walks: alphabet.chosen, alphabet.Select: a map of functions. -/
namespace Go.Proofs.Ytdnmpndnpfklcaa
open Go.RowKit Go Go.Maps

end Go.Proofs.Ytdnmpndnpfklcaa

/- Walks: diagnosability's Quiet, settled. Printed by wip/mkje.py. -/
namespace Go.Proofs.Ytdnmpndnpfklcaa
open Go.RowKit Go

theorem dmE_ev {z : DV} (h : dmE z = 0) : chkE z.l = 0 := by
  unfold dmE at h
  by_cases h1 : chkE z.l ≠ 0
  · rw [if_pos h1] at h; exact absurd h h1
  exact Classical.not_not.1 h1
end Go.Proofs.Ytdnmpndnpfklcaa

/- Walks: forcing.Check; a system as a value. -/
namespace Go.Proofs.Ytdnmpndnpfklcaa
open Go.RowKit Go

/-- a system: two automata, two lists, an event -/
structure SV where
  p : AV
  s : AV
  U : Option Addr
  nu : Nat
  cu : Nat
  u : List Int
  F : Option Addr
  nf : Nat
  cf : Nat
  f : List Int
  tick : Int
structure SV.ok (w : World) (B : Nat) (z : SV) : Prop where
  p : z.p.ok w B
  s : z.s.ok w B
  lu : z.u.length = z.nu
  ru : RdI w B z.U z.u
  u1 : z.nu ≤ z.cu
  u2 : z.cu ≤ 9223372036854775807
  lf : z.f.length = z.nf
  rf : RdI w B z.F z.f
  f1 : z.nf ≤ z.cf
  f2 : z.cf ≤ 9223372036854775807
theorem SV.ok.below {w w' : World} {B : Nat} {z : SV} (h : z.ok w B) (hb : Below B w w') : z.ok w' B := ⟨AutR.below h.p hb, AutR.below h.s hb, h.lu, h.ru.below hb, h.u1, h.u2, h.lf, h.rf.below hb, h.f1, h.f2⟩
theorem SV.ok.more {w : World} {B B' : Nat} {z : SV} (h : z.ok w B) (hB : B ≤ B') : z.ok w B' := ⟨AutR.more h.p hB, AutR.more h.s hB, h.lu, h.ru.more hB, h.u1, h.u2, h.lf, h.rf.more hB, h.f1, h.f2⟩
end Go.Proofs.Ytdnmpndnpfklcaa

/- Walks: forcing.Loop, forcing.open; two rows that grow apart; tuples of two do not lie in a zero automaton's block. -/
namespace Go.Proofs.Ytdnmpndnpfklcaa
open Go.RowKit Go Go.Maps

theorem own_far {w w' : World} {base : Nat} {e : TypeId} {size n : Nat} {v v' : Value} {xs : List Value} (h : w.ownsRow base e size v n xs) (hg : w.grownBy w' v'.ownBlock) (hne : ∀ g, v.ownBlock = some g → v'.ownBlock ≠ some g) : w'.ownsRow base e size v n xs :=
  h.kept hg (by
    cases hv : v.ownBlock with
    | none => exact .inl rfl
    | some g => exact .inr (fun e => hne g hv e.symm))
/-- two rows of ints that grow apart from each other -/
structure TwoR (B : Nat) (w0 w : World) (v1 v2 : Value) (n1 n2 : Nat) (l1 l2 : List Int) : Prop where
  bel : Below B w0 w
  siz : B ≤ w.heap.size
  o1 : w.ownsRow B 3 1 v1 n1 (iv l1)
  o2 : w.ownsRow B 3 1 v2 n2 (iv l2)
  e1 : l1.length = n1
  e2 : l2.length = n2
  apt : ∀ g, v1.ownBlock = some g → v2.ownBlock ≠ some g
section
variable {B : Nat} {w0 w w' : World} {v1 v2 : Value} {n1 n2 : Nat} {l1 l2 : List Int}
theorem TwoR.quiet (h : TwoR B w0 w v1 v2 n1 n2 l1 l2) (hb : Below w.heap.size w w') : TwoR B w0 w' v1 v2 n1 n2 l1 l2 :=
  ⟨h.bel.trans (hb.mono h.siz), Nat.le_trans h.siz hb.size, own_below h.o1 hb, own_below h.o2 hb, h.e1, h.e2, h.apt⟩
theorem TwoR.push (h : TwoR B w0 w v1 v2 n1 n2 l1 l2) {A : Option Addr} {c : Nat} {i : Int} (ho : w'.ownsRow B 3 1 (.slice A (n1 + 1) c) (n1 + 1) (iv l1 ++ [.int .i64 i])) (hg : w.grownBy w' v1.ownBlock)
    (hl : (Value.slice A (n1 + 1) c).ownBlock = v1.ownBlock ∨ ∃ g, (Value.slice A (n1 + 1) c).ownBlock = some g ∧ w.heap.size ≤ g) : TwoR B w0 w' (.slice A (n1 + 1) c) v2 (n1 + 1) n2 (l1 ++ [i]) l2 := by
  refine ⟨h.bel.grown hg h.siz (fun j hj => (h.o1.lt j hj).1), Nat.le_trans h.siz hg.size, by rw [iv_append]; exact ho, own_far h.o2 hg (fun g e1 e2 => h.apt g e2 e1), by simp [h.e1], h.e2, fun g hg1 hg2 => ?_⟩
  rcases hl with hl | ⟨g', hl, hle⟩
  · rw [hl] at hg1; exact h.apt g hg1 hg2
  · rw [hl] at hg1; injection hg1 with hg1
    have := (h.o2.lt g hg2).2
    omega
theorem TwoR.start (w : World) : TwoR w.heap.size w w (.slice none 0 0) (.slice none 0 0) 0 0 [] [] :=
  ⟨Below.refl _ _, Nat.le_refl _, World.ownsRow_nil _ _ _ _, World.ownsRow_nil _ _ _ _, rfl, rfl, fun g hg => by simp [Value.ownBlock] at hg⟩
end
theorem Fr3.mono {r r' : Nat} {A M E : Option Addr} (h : Fr3 r A M E) (hr : r' ≤ r) : Fr3 r' A M E :=
  ⟨fun ad e => Nat.lt_of_le_of_lt hr (h.1 ad e), fun ad e => Nat.lt_of_le_of_lt hr (h.2.1 ad e), fun ad e => Nat.lt_of_le_of_lt hr (h.2.2 ad e)⟩
theorem RdI.keepF {w w' : World} {B r : Nat} {A : Option Addr} {l : List Int} (h : RdI w B A l) (hf : ∀ ad, A = some ad → r < ad.block) (hk : ∀ p : Addr, p.block < B → r < p.block → w'.cell? p = w.cell? p) : RdI w' B A l := fun k u hu => by
  obtain ⟨ad, e1, hb, hc⟩ := h k u hu
  exact ⟨ad, e1, hb, (hk _ (by rw [block_of_add]; exact hb) (by rw [block_of_add]; exact hf ad e1)).trans hc⟩
theorem RdX.keepF {w w' : World} {B r : Nat} {A : Option Addr} {l : List Ed} (h : RdX w B A l) (hf : ∀ ad, A = some ad → r < ad.block) (hk : ∀ p : Addr, p.block < B → r < p.block → w'.cell? p = w.cell? p) : RdX w' B A l := fun k e hu => by
  obtain ⟨ad, e1, hb, hc⟩ := h k e hu
  exact ⟨ad, e1, hb, fun j u hj => (hk _ (by rw [block_of_add]; exact hb) (by rw [block_of_add]; exact hf ad e1)).trans (hc j u hj)⟩
theorem AutR.keepF {w w' : World} {B r : Nat} {A M E : Option Addr} {na ca nm cm ne ce : Nat} {a : Aut} (h : AutR w B A na ca M nm cm E ne ce a) (hf : Fr3 r A M E) (hk : ∀ p : Addr, p.block < B → r < p.block → w'.cell? p = w.cell? p) : AutR w' B A na ca M nm cm E ne ce a :=
  ⟨h.la, h.ac, h.cA, h.ra.keepF hf.1 hk, h.lm, h.mc, h.cM, h.rm.keepF hf.2.1 hk, h.le, h.ec, h.cE, h.re.keepF hf.2.2 hk⟩

/-- a variable that holds an automaton -/
structure VarA (w : World) (b : Nat) (x : AV) : Prop where
  blk : Blk w b 32 (avc x)
  ok : x.ok w w.heap.size
theorem VarA.new {w : World} {x : AV} (h : x.ok w w.heap.size) : VarA (w.alloc (.cells #[.slice x.A x.na x.ca, .int .i64 x.a.st, .slice x.M x.nm x.cm, .slice x.E x.ne x.ce] 32)) w.heap.size x :=
  ⟨Blk.new _ _ (avc x), AutR.more (AutR.below h (box_below _ _)) (box_below _ _).size⟩
theorem VarA.below {w w' : World} {b : Nat} {x : AV} (h : VarA w b x) (hb : Below w.heap.size w w') : VarA w' b x :=
  ⟨h.blk.below hb h.blk.lt, AutR.more (AutR.below h.ok hb) hb.size⟩
theorem VarA.put {w : World} {b q : Nat} {v0 v1 v2 v3 : Value} {x : AV} (hk : Blk w b 32 [v0, v1, v2, v3]) (hx : x.ok w w.heap.size) (hf : Fr3 q x.A x.M x.E) (hq : b ≤ q) :
    VarA ((((w.setCell ⟨b, 0, none⟩ (.slice x.A x.na x.ca)).setCell ⟨b, 1, none⟩ (.int .i64 x.a.st)).setCell ⟨b, 2, none⟩ (.slice x.M x.nm x.cm)).setCell ⟨b, 3, none⟩ (.slice x.E x.ne x.ce)) b x := by
  have hg : w.grownBy ((((w.setCell ⟨b, 0, none⟩ (.slice x.A x.na x.ca)).setCell ⟨b, 1, none⟩ (.int .i64 x.a.st)).setCell ⟨b, 2, none⟩ (.slice x.M x.nm x.cm)).setCell ⟨b, 3, none⟩ (.slice x.E x.ne x.ce)) (some b) := (((grown_setCell _ _ _ _).trans (grown_setCell _ _ _ _)).trans (grown_setCell _ _ _ _)).trans (grown_setCell _ _ _ _)
  exact ⟨(((hk.set (j := 0) (by simp) _).set (j := 1) (by simp) _).set (j := 2) (by simp) _).set (j := 3) (by simp) _, (AutR.keepF (r := b) hx (Fr3.mono hf hq) fun p h1 h2 => World.cell?_of_block (hg.block _ h1 (by intro e; injection e with e; omega))).more hg.size⟩
end Go.Proofs.Ytdnmpndnpfklcaa

/- Walks: the law's step, all, ends; diagnosability.words. Printed by wip/mkjf.py. -/
namespace Go.Proofs.Ytdnmpndnpfklcaa
open Go.RowKit Go

end Go.Proofs.Ytdnmpndnpfklcaa

/- Walks: diagnosability.Model.moves. Printed by wip/mkjg.py. -/
namespace Go.Proofs.Ytdnmpndnpfklcaa
open Go.RowKit Go

/-- two rows of whatever elements that grow apart from each other -/
structure TwoG (B : Nat) (w0 w : World) (e1 e2 : TypeId) (s1 s2 : Nat) (v1 v2 : Value) (n1 n2 : Nat) (l1 l2 : List Value) : Prop where
  bel : Below B w0 w
  siz : B ≤ w.heap.size
  o1 : w.ownsRow B e1 s1 v1 n1 l1
  o2 : w.ownsRow B e2 s2 v2 n2 l2
  apt : ∀ g, v1.ownBlock = some g → v2.ownBlock ≠ some g
section
variable {B : Nat} {w0 w w' : World} {v1 v2 : Value} {n1 n2 s1 s2 : Nat} {l1 l2 : List Value} {e1 e2 : TypeId}
theorem TwoG.quiet (h : TwoG B w0 w e1 e2 s1 s2 v1 v2 n1 n2 l1 l2) (hb : Below w.heap.size w w') : TwoG B w0 w' e1 e2 s1 s2 v1 v2 n1 n2 l1 l2 :=
  ⟨h.bel.trans (hb.mono h.siz), Nat.le_trans h.siz hb.size, own_below h.o1 hb, own_below h.o2 hb, h.apt⟩
theorem TwoG.push (h : TwoG B w0 w e1 e2 s1 s2 v1 v2 n1 n2 l1 l2) {v : Value} {n : Nat} {l : List Value} (ho : w'.ownsRow B e1 s1 v n l) (hg : w.grownBy w' v1.ownBlock)
    (hl : v.ownBlock = v1.ownBlock ∨ ∃ g, v.ownBlock = some g ∧ w.heap.size ≤ g) : TwoG B w0 w' e1 e2 s1 s2 v v2 n n2 l l2 := by
  refine ⟨h.bel.grown hg h.siz (fun j hj => (h.o1.lt j hj).1), Nat.le_trans h.siz hg.size, ho, own_far h.o2 hg (fun g e1 e2 => h.apt g e2 e1), fun g hg1 hg2 => ?_⟩
  rcases hl with hl | ⟨g', hl, hle⟩
  · rw [hl] at hg1; exact h.apt g hg1 hg2
  · rw [hl] at hg1; injection hg1 with hg1
    have := (h.o2.lt g hg2).2
    omega
theorem TwoG.start (w : World) (e1 e2 : TypeId) (s1 s2 : Nat) : TwoG w.heap.size w w e1 e2 s1 s2 (.slice none 0 0) (.slice none 0 0) 0 0 [] [] :=
  ⟨Below.refl _ _, Nat.le_refl _, World.ownsRow_nil _ _ _ _, World.ownsRow_nil _ _ _ _, fun g hg => by simp [Value.ownBlock] at hg⟩
end
/- two chains, each a literal of one element and an append of it, that come up in any order -/
end Go.Proofs.Ytdnmpndnpfklcaa

/- Walks: diagnosability.Twin: the twin plant of a class of faults. -/
namespace Go.Proofs.Ytdnmpndnpfklcaa
open Go.RowKit Go Go.Maps

section
variable {B o : Nat} {w0 w w' : World} {tv mv pv lv : Value} {nt nm ke n : Nat} {tk ts : List TwS} {es : List Ed} {L : List (Int × TwS)}
theorem TwoG.other {e1 e2 e : TypeId} {s1 s2 s : Nat} {v1 v2 v : Value} {n1 n2 m : Nat} {l1 l2 l : List Value} (h : TwoG B w0 w e1 e2 s1 s2 v1 v2 n1 n2 l1 l2) (ho : w.ownsRow B e s v m l) (h1 : e1 ≠ e) (h2 : e2 ≠ e) (hg : w.grownBy w' v.ownBlock) : TwoG B w0 w' e1 e2 s1 s2 v1 v2 n1 n2 l1 l2 :=
  ⟨h.bel.grown hg h.siz (fun j hj => (ho.lt j hj).1), Nat.le_trans h.siz hg.size, own_kept_ne h.o1 ho h1 hg, own_kept_ne h.o2 ho h2 hg, h.apt⟩
theorem TwoG.map {e1 e2 : TypeId} {s1 s2 : Nat} {v1 v2 : Value} {n1 n2 : Nat} {l1 l2 : List Value} (h : TwoG B w0 w e1 e2 s1 s2 v1 v2 n1 n2 l1 l2) {P : Program} {K E : TypeId} {α : Type} {key : α → Value} {m : Nat} {g : α → Option Int} (ht : TabI P K E key w o m g) (hB : B ≤ o) (hg : w.grownBy w' (some o)) : TwoG B w0 w' e1 e2 s1 s2 v1 v2 n1 n2 l1 l2 := by
  have kp : ∀ {base : Nat} {e : TypeId} {size n : Nat} {v : Value} {zs : List Value}, w.ownsRow base e size v n zs → w'.ownsRow base e size v n zs := fun {base e size n v zs} hz => hz.kept hg (.inr (fun e0 => tab_ne_own' ht hz e0.symm))
  exact ⟨h.bel.grown hg h.siz (fun j hj => by injection hj with hj; omega), Nat.le_trans h.siz hg.size, kp h.o1, kp h.o2, h.apt⟩
end
theorem dmE_al {z : DV} (h : dmE z = 0) : ∀ x ∈ z.x.a.al, 0 ≤ x ∧ x < (z.nv : Int) := by
  have hw := dmE_wf h
  unfold dmE at h
  by_cases h1 : chkE z.l ≠ 0
  · rw [if_pos h1] at h; exact absurd h h1
  rw [if_neg h1] at h
  by_cases h2 : chkA z.x.a ≠ 0
  · rw [if_pos h2] at h; exact absurd h h2
  rw [if_neg h2] at h
  by_cases h3 : z.x.a.al.any (fun v => decide ((z.nv : Int) ≤ v)) = true
  · rw [if_pos h3] at h; cases h
  · intro x hx
    refine ⟨(hw.rng x hx).1, ?_⟩
    have h4 : z.x.a.al.any (fun v => decide ((z.nv : Int) ≤ v)) = false := by simpa using h3
    rw [List.any_eq_false] at h4
    have := h4 x hx
    simp only [decide_eq_true_eq] at this
    omega
end Go.Proofs.Ytdnmpndnpfklcaa

/- Plain words on rank, and the opened twin plant in memory. -/
namespace Go.Proofs.Ytdnmpndnpfklcaa
open Go.RowKit Go

section
variable {es : List Ed} {w : Ed → Int} {n : Nat} {s s' : RS} {i j : Int}
/-- how many nodes are done -/
def cnt2 (s : RS) : Nat := s.2.countP fun q => q == 2
/-- ranks are bounded by how many nodes are done -/
structure RkQ (n : Nat) (s : RS) : Prop where
  l1 : s.1.length = n
  l2 : s.2.length = n
  val : ∀ j : Int, 0 ≤ j → j < (n : Int) → gI s.2 j = 0 ∨ gI s.2 j = 1 ∨ gI s.2 j = 2
  any : ∀ j : Int, 0 ≤ j → j < (n : Int) → -1 ≤ gI s.1 j ∧ gI s.1 j ≤ (cnt2 s : Int) + 1
  don : ∀ j : Int, 0 ≤ j → j < (n : Int) → gI s.2 j = 2 → gI s.1 j ≤ (cnt2 s : Int)
theorem cnt2_up : ∀ {l : List Int} {k : Nat} {q : Int}, l[k]? = some q → q ≠ 2 → (l.set k 2).countP (fun q => q == 2) = l.countP (fun q => q == 2) + 1
  | [], k, q, h, _ => by simp at h
  | p :: l, 0, q, h, hq => by
    simp at h; subst h
    rw [List.set_cons_zero, List.countP_cons, List.countP_cons]
    simp [hq]
  | p :: l, k + 1, q, h, hq => by
    have ih := cnt2_up (l := l) (k := k) (q := q) (by simpa using h) hq
    rw [List.set_cons_succ, List.countP_cons, List.countP_cons, ih]
    omega
theorem cnt2_one : ∀ {l : List Int} {k : Nat} {q : Int}, l[k]? = some q → q ≠ 2 → (l.set k 1).countP (fun q => q == 2) = l.countP (fun q => q == 2)
  | [], k, q, h, _ => by simp at h
  | p :: l, 0, q, h, hq => by
    simp at h; subst h
    rw [List.set_cons_zero, List.countP_cons, List.countP_cons]
    simp [hq]
  | p :: l, k + 1, q, h, hq => by
    have ih := cnt2_one (l := l) (k := k) (q := q) (by simpa using h) hq
    rw [List.set_cons_succ, List.countP_cons, List.countP_cons, ih]
theorem RkQ.le (h : RkQ n s) : cnt2 s ≤ n := by rw [← h.l2]; exact List.countP_le_length
/-- a node is opened -/
theorem RkQ.opened (h : RkQ n s) (h0 : 0 ≤ i) (h1 : i < (n : Int)) (hi : gI s.2 i = 0) : RkQ n (s.1, s.2.set i.toNat 1) ∧ cnt0 (s.1, s.2.set i.toNat 1) + 1 = cnt0 s ∧ gI (s.2.set i.toNat 1) i = 1 := by
  have hat := gI_at h0 (by rw [h.l2]; exact h1) hi
  have hc : cnt2 (s.1, s.2.set i.toNat 1) = cnt2 s := cnt2_one hat (by decide)
  have hg : ∀ j, 0 ≤ j → gI (s.2.set i.toNat 1) j = if j = i then 1 else gI s.2 j := fun j hj => gI_set h0 (by rw [h.l2]; exact h1) hj
  refine ⟨⟨h.l1, by rw [List.length_set]; exact h.l2, fun j j0 j1 => ?_, fun j j0 j1 => by rw [hc]; exact h.any j j0 j1, fun j j0 j1 hj => ?_⟩, cnt_set hat (by decide), by rw [hg i h0, if_pos rfl]⟩
  · show gI (s.2.set i.toNat 1) j = 0 ∨ _
    rw [hg j j0]
    by_cases e : j = i
    · rw [if_pos e]; exact .inr (.inl rfl)
    · rw [if_neg e]; exact h.val j j0 j1
  · rw [hc]
    refine h.don j j0 j1 ?_
    have : gI (s.2.set i.toNat 1) j = 2 := hj
    rw [hg j j0] at this
    by_cases e : j = i
    · rw [if_pos e] at this; cases this
    · rwa [if_neg e] at this
/-- an open node is done -/
theorem RkQ.closed (h : RkQ n s) (h0 : 0 ≤ i) (h1 : i < (n : Int)) (hi : gI s.2 i = 1) : RkQ n (s.1, s.2.set i.toNat 2) ∧ cnt0 (s.1, s.2.set i.toNat 2) = cnt0 s ∧ gI (s.2.set i.toNat 2) i = 2 := by
  have hat := gI_at h0 (by rw [h.l2]; exact h1) hi
  have hc : cnt2 (s.1, s.2.set i.toNat 2) = cnt2 s + 1 := cnt2_up hat (by decide)
  have hg : ∀ j, 0 ≤ j → gI (s.2.set i.toNat 2) j = if j = i then 2 else gI s.2 j := fun j hj => gI_set h0 (by rw [h.l2]; exact h1) hj
  refine ⟨⟨h.l1, by rw [List.length_set]; exact h.l2, fun j j0 j1 => ?_, fun j j0 j1 => ?_, fun j j0 j1 hj => ?_⟩, cnt_keep hat (by decide) (by decide), by rw [hg i h0, if_pos rfl]⟩
  · show gI (s.2.set i.toNat 2) j = 0 ∨ _
    rw [hg j j0]
    by_cases e : j = i
    · rw [if_pos e]; exact .inr (.inr rfl)
    · rw [if_neg e]; exact h.val j j0 j1
  · have := h.any j j0 j1; rw [hc]; exact ⟨this.1, by show gI s.1 j ≤ _; omega⟩
  · have := h.any j j0 j1; rw [hc]; show gI s.1 j ≤ _; omega
/-- what a search keeps -/
structure RkK (n : Nat) (s s' : RS) : Prop where
  q : RkQ n s'
  opn : ∀ j : Int, 0 ≤ j → j < (n : Int) → gI s.2 j = 1 → gI s'.2 j = 1
  cnt : cnt0 s' ≤ cnt0 s
theorem RkK.trans {s'' : RS} (h : RkK n s s') (k : RkK n s' s'') : RkK n s s'' := ⟨k.q, fun j h0 h1 h2 => k.opn j h0 h1 (h.opn j h0 h1 h2), Nat.le_trans k.cnt h.cnt⟩
theorem RkQ.keep (h : RkQ n s) : RkK n s s := ⟨h, fun _ _ _ h => h, Nat.le_refl _⟩
end
theorem iv_gI {l : List Int} {i : Nat} (h : i < l.length) : (iv l)[i]? = some (.int .i64 (gI l (i : Int))) := by
  unfold iv gI
  rw [List.getElem?_map, Int.toNat_natCast, List.getD_eq_getElem?_getD, List.getElem?_eq_getElem h]; rfl

/-- all but two blocks is as it was -/
structure Ex2 (r s : Nat) (w w' : World) : Prop where
  os : w'.os = w.os
  tape : w'.tape = w.tape
  output : w'.output = w.output
  size : w.heap.size ≤ w'.heap.size
  blk : ∀ k, k < w.heap.size → k ≠ r → k ≠ s → w'.heap[k]? = w.heap[k]?
section
variable {r s : Nat} {w w' w'' : World}
theorem Ex2.refl : Ex2 r s w w := ⟨rfl, rfl, rfl, Nat.le_refl _, fun _ _ _ _ => rfl⟩
theorem Ex2.trans (h : Ex2 r s w w') (k : Ex2 r s w' w'') : Ex2 r s w w'' :=
  ⟨k.os.trans h.os, k.tape.trans h.tape, k.output.trans h.output, Nat.le_trans h.size k.size, fun j h1 h2 h3 => (k.blk j (Nat.lt_of_lt_of_le h1 h.size) h2 h3).trans (h.blk j h1 h2 h3)⟩
theorem Ex2.below (h : Below w.heap.size w w') : Ex2 r s w w' := ⟨h.os, h.tape, h.output, h.size, fun k hk _ _ => h.block k hk⟩
theorem Ex2.grown2 (h : w.grownBy w' (some s)) : Ex2 r s w w' := ⟨h.os, h.tape, h.output, h.size, fun k hk _ h1 => h.block k hk (by intro e; injection e with e; exact h1 e)⟩
end
/-- an opened twin plant -/
structure TwP where
  tb : Nat
  fb : Nat
  rb : Nat
  sb : Nat
  n : Nat
  m : Nat
  A1 : Option Addr
  c1 : Nat
  A2 : Option Addr
  c2 : Nat
  F : List Value
def TwP.cells (z : TwP) : List Value := [.slice z.A1 z.n z.c1, .slice z.A2 z.m z.c2, .slice (some ⟨z.fb, 0, none⟩) z.n z.n, .slice (some ⟨z.rb, 0, none⟩) z.n z.n, .slice (some ⟨z.sb, 0, none⟩) z.n z.n]
/-- its ranks and states -/
structure TwP.rs (w : World) (z : TwP) (q : RS) : Prop where
  rk : Blk w z.rb 3 (iv q.1)
  st : Blk w z.sb 3 (iv q.2)
  q : RkQ z.n q
theorem TwP.rs.below {w w' : World} {z : TwP} {q : RS} (h : z.rs w q) (hb : Below w.heap.size w w') : z.rs w' q := ⟨h.rk.below hb h.rk.lt, h.st.below hb h.st.lt, h.q⟩
end Go.Proofs.Ytdnmpndnpfklcaa
