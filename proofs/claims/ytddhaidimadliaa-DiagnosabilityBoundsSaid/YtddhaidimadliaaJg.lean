/- Walks: diagnosability.Model.moves. Printed by wip/mkjg.py. -/
import Derived.Test.YtddhaidimadliaaJf
import Derived.Deep.AppendLies
import Derived.Deep.RegionLaw
import Derived.Deep.CutRange
import Derived.Deep.CutBlock
namespace Go.Proofs.Ytddhaidimadliaa
open Go.RowKit Go

section
variable {m : Dm} {c x : Int} {t : TwS}
/-- the moves of a pair at one event: their labels and where they lead -/
def mvX (m : Dm) (c : Int) (t : TwS) (x : Int) : List (Int × TwS) := (if m.ob x = true then [3 * x] else [3 * x + 1, 3 * x + 2]).filterMap fun v => (twS m c t v).map fun u => (v, u)
def mvP (m : Dm) (c : Int) (t : TwS) (l : List Int) : List (Int × TwS) := l.flatMap (mvX m c t)
theorem mvP_all : mvP m c t m.a.al = (twV m).filterMap fun v => (twS m c t v).map fun u => (v, u) := by
  unfold mvP mvX twV
  generalize m.a.al = l
  induction l with
  | nil => rfl
  | cons y l ih => rw [List.flatMap_cons, List.flatMap_cons, List.filterMap_append, ih]
theorem mvP_at {l : List Int} {k : Nat} (h : l[k]? = some x) : mvP m c t (l.take (k + 1)) = mvP m c t (l.take k) ++ mvX m c t x := by
  unfold mvP
  rw [List.take_add_one, h]
  simp
theorem mvX_ob (ho : m.ob x = true) : mvX m c t x = if 0 ≤ nxt m.a t.1 x ∧ 0 ≤ nxt m.a t.2.2 x then [(3 * x, nxt m.a t.1 x, t.2.1, nxt m.a t.2.2 x)] else [] := by
  have h1 : 3 * x % 3 = 0 := by omega
  have h2 : 3 * x / 3 = x := by omega
  unfold mvX twS
  rw [if_pos ho]
  by_cases h : 0 ≤ nxt m.a t.1 x ∧ 0 ≤ nxt m.a t.2.2 x
  · have h3 : ¬ (nxt m.a t.1 x < 0 ∨ nxt m.a t.2.2 x < 0) := by omega
    simp [h1, h2, h, h3]
  · have h3 : nxt m.a t.1 x < 0 ∨ nxt m.a t.2.2 x < 0 := by omega
    simp [h1, h2, h, h3]
theorem mvX_un (ho : m.ob x = false) : mvX m c t x = (if 0 ≤ nxt m.a t.1 x then [(3 * x + 1, nxt m.a t.1 x, (t.2.1 || m.ft x == c), t.2.2)] else []) ++ (if 0 ≤ nxt m.a t.2.2 x ∧ m.ft x ≠ c then [(3 * x + 2, t.1, t.2.1, nxt m.a t.2.2 x)] else []) := by
  have h1 : ¬ (3 * x + 1) % 3 = 0 := by omega
  have h2 : (3 * x + 1) / 3 = x := by omega
  have h3 : (3 * x + 1) % 3 = 1 := by omega
  have h4 : ¬ (3 * x + 2) % 3 = 0 := by omega
  have h5 : (3 * x + 2) / 3 = x := by omega
  have h6 : ¬ (3 * x + 2) % 3 = 1 := by omega
  have hn : ¬ m.ob x = true := by simp [ho]
  unfold mvX twS
  rw [if_neg hn, List.filterMap_cons, List.filterMap_cons, List.filterMap_nil]
  rw [if_neg h1, if_pos h3, if_neg h4, if_neg h6, h2, h5]
  by_cases a1 : 0 ≤ nxt m.a t.1 x
  · have b1 : ¬ nxt m.a t.1 x < 0 := by omega
    by_cases a2 : 0 ≤ nxt m.a t.2.2 x ∧ m.ft x ≠ c
    · have b2 : ¬ (m.ft x = c ∨ nxt m.a t.2.2 x < 0) := by rintro (h | h); exact a2.2 h; omega
      rw [if_pos a1, if_pos a2, if_neg b1, if_neg b2]; rfl
    · have b2 : m.ft x = c ∨ nxt m.a t.2.2 x < 0 := by
        by_cases q : m.ft x = c
        · exact .inl q
        · exact .inr (by have : ¬ 0 ≤ nxt m.a t.2.2 x := fun h => a2 ⟨h, q⟩
                         omega)
      rw [if_pos a1, if_neg a2, if_neg b1, if_pos b2]; rfl
  · have b1 : nxt m.a t.1 x < 0 := by omega
    by_cases a2 : 0 ≤ nxt m.a t.2.2 x ∧ m.ft x ≠ c
    · have b2 : ¬ (m.ft x = c ∨ nxt m.a t.2.2 x < 0) := by rintro (h | h); exact a2.2 h; omega
      rw [if_neg a1, if_pos a2, if_pos b1, if_neg b2]; rfl
    · have b2 : m.ft x = c ∨ nxt m.a t.2.2 x < 0 := by
        by_cases q : m.ft x = c
        · exact .inl q
        · exact .inr (by have : ¬ 0 ≤ nxt m.a t.2.2 x := fun h => a2 ⟨h, q⟩
                         omega)
      rw [if_neg a1, if_neg a2, if_pos b1, if_pos b2]; rfl
end
/-- the cells of moves, and of pairs -/
def mvCs (l : List (Int × TwS)) : List Value := l.flatMap fun p => [.int .i64 0, .int .i64 (p.1 / 3), .int .i64 (p.1 % 3), .int .i64 0]
def prCs (l : List (Int × TwS)) : List Value := l.flatMap fun p => [.int .i64 p.2.1, .bool p.2.2.1, .int .i64 p.2.2.2]
theorem mvCs_push (l : List (Int × TwS)) (p : Int × TwS) : mvCs (l ++ [p]) = mvCs l ++ [.int .i64 0, .int .i64 (p.1 / 3), .int .i64 (p.1 % 3), .int .i64 0] := by simp [mvCs]
theorem prCs_push (l : List (Int × TwS)) (p : Int × TwS) : prCs (l ++ [p]) = prCs l ++ [.int .i64 p.2.1, .bool p.2.2.1, .int .i64 p.2.2.2] := by simp [prCs]
/-- two rows of whatever elements that grow apart from each other -/
structure TwoG (B : Nat) (w0 w : World) (e1 e2 : TypeId) (s1 s2 : Nat) (v1 v2 : Value) (n1 n2 : Nat) (l1 l2 : List Value) : Prop where
  bel : Below B w0 w
  siz : B ≤ w.heap.size
  o1 : w.ownsRow B e1 s1 v1 n1 l1
  o2 : w.ownsRow B e2 s2 v2 n2 l2
  apt : ∀ g, v1.ownBlock = some g → v2.ownBlock ≠ some g
section
variable {B : Nat} {w0 w w' : World} {v1 v2 : Value} {n1 n2 s1 s2 : Nat} {l1 l2 : List Value} {e1 e2 : TypeId}
theorem TwoG.swap (h : TwoG B w0 w e1 e2 s1 s2 v1 v2 n1 n2 l1 l2) : TwoG B w0 w e2 e1 s2 s1 v2 v1 n2 n1 l2 l1 := ⟨h.bel, h.siz, h.o2, h.o1, fun g h1 h2 => h.apt g h2 h1⟩
theorem TwoG.quiet (h : TwoG B w0 w e1 e2 s1 s2 v1 v2 n1 n2 l1 l2) (hb : Below w.heap.size w w') : TwoG B w0 w' e1 e2 s1 s2 v1 v2 n1 n2 l1 l2 :=
  ⟨h.bel.trans (hb.mono h.siz), Nat.le_trans h.siz hb.size, own_below h.o1 hb, own_below h.o2 hb, h.apt⟩
theorem TwoG.push (h : TwoG B w0 w e1 e2 s1 s2 v1 v2 n1 n2 l1 l2) {v : Value} {n : Nat} {l : List Value} (ho : w'.ownsRow B e1 s1 v n l) (hg : w.grownBy w' v1.ownBlock)
    (hl : v.ownBlock = v1.ownBlock ∨ ∃ g, v.ownBlock = some g ∧ w.heap.size ≤ g) : TwoG B w0 w' e1 e2 s1 s2 v v2 n n2 l l2 := by
  refine ⟨h.bel.grown hg h.siz (fun j hj => (h.o1.lt j hj).1), Nat.le_trans h.siz hg.size, ho, own_far h.o2 hg (fun g e1 e2 => h.apt g e2 e1), fun g hg1 hg2 => ?_⟩
  rcases hl with hl | ⟨g', hl, hle⟩
  · rw [hl] at hg1; exact h.apt g hg1 hg2
  · rw [hl] at hg1; injection hg1 with hg1
    have := (h.o2.lt g hg2).2
    omega
theorem TwoG.start (w : World) (e1 e2 : TypeId) (s1 s2 : Nat) : TwoG w.heap.size w w e1 e2 s1 s2 (.slice none 0 0) (.slice none 0 0) 0 0 [] [] :=
  ⟨Below.refl _ _, Nat.le_refl _, World.ownsRow_nil _ _ _ _, World.ownsRow_nil _ _ _ _, fun g hg => by simp [Value.ownBlock] at hg⟩
end
theorem mov_info : (Try.prog.info? 62).map (fun i => (i.zero, i.size, i.bytes)) = some (some (.agg #[.int .i64 0, .int .i64 0, .int .i64 0, .int .i64 0]), 4, 32) := by kernel_rfl
theorem prr_info : (Try.prog.info? 59).map (fun i => (i.zero, i.size, i.bytes)) = some (some (.agg #[.int .i64 0, .bool false, .int .i64 0]), 3, 24) := by kernel_rfl
theorem step_pushG {P : Program} {ops : Array Oper} {o : Oper} {a : Act} {K : Act → World → Prop} {Q : Exit → Act → World → Prop} {E : Prop} (hgd : o.guard = none) (s x : Operand) (t : TypeId)
    (ho : o.op = .call { callee := .builtin .append, args := #[s, x], argTypes := #[t, t] })
    (B : Nat) (e : TypeId) (z : Value) (size bytes : Nat) (ht : P.underlying t = some (.slice e)) (hinfo : (P.info? e).map (fun i => (i.zero, i.size, i.bytes)) = some (some z, size, bytes))
    (hz1 : z.cells.size = size) (hsz : 0 < size) {w0 w : World} {e2 : TypeId} {s2 : Nat} {v1 v2 : Value} {n1 n2 : Nat} {l1 l2 : List Value} (hs : a.eval s = v1) (q : Nat) (news : List Value) (hx : a.eval x = .slice (some ⟨q, 0, none⟩) 1 1)
    (hT : TwoG B w0 w e e2 size s2 v1 v2 n1 n2 l1 l2) (hk : Blk w q e news) (hl : news.length = size) (h1 : ∀ u ∈ news, u.oneCell' = true) (hn : n1 + 1 ≤ 9223372036854775807) (hbytes : (n1 + 1) * bytes ≤ 140737488355328)
    (h : ∀ (A : Option Addr) (c : Nat) (w' : World), TwoG B w0 w' e e2 size s2 (.slice A (n1 + 1) c) v2 (n1 + 1) n2 (l1 ++ news) l2 → (∀ (b : Nat) (t : TypeId) (vs : List Value), e ≠ t → Blk w b t vs → Blk w' b t vs) → K (a.put o.dst (.slice A (n1 + 1) c)) w') :
    if Region.wanted o (yielded ops a.tmps) = true then Oper.wp P o a w K Q else E := by
  obtain ⟨i, hi, hz, hs1, hby⟩ := info_parts hinfo
  refine step_append_lies w hgd s x t ho B e i z size bytes ht hi hz hs1 hby hz1 hsz v1 n1 l1 hs hT.o1 ⟨q, 0, none⟩ 1 1 news hx (by omega) (fun j u hj => by rw [add_lit0]; exact hk.cell hj) h1 (by omega) (by unfold maxLen; omega) hbytes hT.siz _ rfl ?_
  intro g cap w' how hg hgb _
  refine h _ cap w' (hT.push how hg ?_) (fun b t vs hne hk => hk.kept hg (blk_ne_own hT.o1 hk hne))
  rcases hgb with hgb | hgb
  · exact .inl (by rw [hgb]; rfl)
  · exact .inr ⟨g, rfl, by omega⟩
theorem mov_one (x y z u : Int) : ∀ v ∈ [Value.int .i64 x, .int .i64 y, .int .i64 z, .int .i64 u], v.oneCell' = true := by
  intro v hv
  simp only [List.mem_cons, List.not_mem_nil, or_false] at hv
  rcases hv with rfl | rfl | rfl | rfl <;> rfl
theorem prr_one (x z : Int) (y : Bool) : ∀ v ∈ [Value.int .i64 x, .bool y, .int .i64 z], v.oneCell' = true := by
  intro v hv
  simp only [List.mem_cons, List.not_mem_nil, or_false] at hv
  rcases hv with rfl | rfl | rfl <;> rfl
/- two chains, each a literal of one element and an append of it, that come up in any order -/
def put4g (a : Act) (d1 d2 e1 e2 : Nat) (V1 V2 U1 U2 : Value) : Act := { a with tmps := (((a.tmps.setIfInBounds d1 V1).setIfInBounds d2 V2).setIfInBounds e1 U1).setIfInBounds e2 U2 }
def set4g (L : Array Bool) (i1 i2 j1 j2 : Nat) (b1 b2 c1 c2 : Bool) : Array Bool := (((L.setIfInBounds i1 b1).setIfInBounds i2 b2).setIfInBounds j1 c1).setIfInBounds j2 c2
def chainsAt (md : Region.Mode) (ops : Array Oper) (L : Array Bool) (i1 i2 j1 j2 : Nat) (b1 b2 c1 c2 : Bool) : Bool :=
  ((b2 && c2) || !(Region.ready md ops (set4g L i1 i2 j1 j2 b1 b2 c1 c2)).isEmpty && (Region.ready md ops (set4g L i1 i2 j1 j2 b1 b2 c1 c2)).all fun i => (i == i1 && !b1) || (i == i2 && b1 && !b2) || (i == j1 && !c1) || (i == j2 && c1 && !c2))
def chainsOk (md : Region.Mode) (ops : Array Oper) (L : Array Bool) (i1 i2 j1 j2 : Nat) : Bool :=
  ([(false, false), (true, false), (true, true)] : List (Bool × Bool)).all fun b => ([(false, false), (true, false), (true, true)] : List (Bool × Bool)).all fun c => chainsAt md ops L i1 i2 j1 j2 b.1 b.2 c.1 c.2
def apart4 (i1 i2 j1 j2 : Nat) : Bool := i1 != i2 && i1 != j1 && i1 != j2 && i2 != j1 && i2 != j2 && j1 != j2
section
variable {α : Type} {X : Array α} {i1 i2 j1 j2 : Nat} {x1 x2 y1 y2 z : α}
theorem apart4_spec (h : apart4 i1 i2 j1 j2 = true) : i1 ≠ i2 ∧ i1 ≠ j1 ∧ i1 ≠ j2 ∧ i2 ≠ j1 ∧ i2 ≠ j2 ∧ j1 ≠ j2 := by
  simpa [apart4, and_assoc] using h
theorem s4_1 (h : apart4 i1 i2 j1 j2 = true) : ((((X.setIfInBounds i1 x1).setIfInBounds i2 x2).setIfInBounds j1 y1).setIfInBounds j2 y2).setIfInBounds i1 z = ((((X.setIfInBounds i1 z).setIfInBounds i2 x2).setIfInBounds j1 y1).setIfInBounds j2 y2) := by
  obtain ⟨h1, h2, h3, h4, h5, h6⟩ := apart4_spec h
  rw [Array.setIfInBounds_comm _ _ h3.symm, Array.setIfInBounds_comm _ _ h2.symm, Array.setIfInBounds_comm _ _ h1.symm, Array.setIfInBounds_setIfInBounds]
theorem s4_2 (h : apart4 i1 i2 j1 j2 = true) : ((((X.setIfInBounds i1 x1).setIfInBounds i2 x2).setIfInBounds j1 y1).setIfInBounds j2 y2).setIfInBounds i2 z = ((((X.setIfInBounds i1 x1).setIfInBounds i2 z).setIfInBounds j1 y1).setIfInBounds j2 y2) := by
  obtain ⟨h1, h2, h3, h4, h5, h6⟩ := apart4_spec h
  rw [Array.setIfInBounds_comm _ _ h5.symm, Array.setIfInBounds_comm _ _ h4.symm, Array.setIfInBounds_setIfInBounds]
theorem s4_3 (h : apart4 i1 i2 j1 j2 = true) : ((((X.setIfInBounds i1 x1).setIfInBounds i2 x2).setIfInBounds j1 y1).setIfInBounds j2 y2).setIfInBounds j1 z = ((((X.setIfInBounds i1 x1).setIfInBounds i2 x2).setIfInBounds j1 z).setIfInBounds j2 y2) := by
  obtain ⟨h1, h2, h3, h4, h5, h6⟩ := apart4_spec h
  rw [Array.setIfInBounds_comm _ _ h6.symm, Array.setIfInBounds_setIfInBounds]
theorem s4_4 : ((((X.setIfInBounds i1 x1).setIfInBounds i2 x2).setIfInBounds j1 y1).setIfInBounds j2 y2).setIfInBounds j2 z = ((((X.setIfInBounds i1 x1).setIfInBounds i2 x2).setIfInBounds j1 y1).setIfInBounds j2 z) := by
  rw [Array.setIfInBounds_setIfInBounds]
theorem s4_id (h1 : X[i1]? = some x1) (h2 : X[i2]? = some x2) (h3 : X[j1]? = some y1) (h4 : X[j2]? = some y2) : X = ((((X.setIfInBounds i1 x1).setIfInBounds i2 x2).setIfInBounds j1 y1).setIfInBounds j2 y2) := by
  have g : ∀ {Y : Array α} {i : Nat} {v : α}, Y[i]? = some v → Y.setIfInBounds i v = Y := by
    intro Y i v h
    apply Array.ext_getElem?
    intro k
    rw [Array.getElem?_setIfInBounds]
    by_cases hk : i = k
    · subst hk; rw [if_pos rfl, h]
      split
      · rfl
      · rename_i hn; rw [Array.getElem?_eq_none (by omega)] at h; cases h
    · rw [if_neg hk]
  rw [g h1, g h2, g h3, g h4]
end
/-- what holds while two chains come up -/
structure ChW (B0 : Nat) (w0 w W : World) (t1 t2 : TypeId) (s1 s2 : Nat) (v1 v2 : Value) (n1 n2 : Nat) (l1 l2 k1 k2 : List Value) (b1 b2 c1 c2 : Bool) (V1 V2 U1 U2 : Value) : Prop where
  two : TwoG B0 w0 W t1 t2 s1 s2 (if b2 = true then V2 else v1) (if c2 = true then U2 else v2) (if b2 = true then n1 + 1 else n1) (if c2 = true then n2 + 1 else n2) (if b2 = true then l1 ++ k1 else l1) (if c2 = true then l2 ++ k2 else l2)
  kee : ∀ (b : Nat) (t : TypeId) (vs : List Value), t1 ≠ t → t2 ≠ t → Blk w b t vs → Blk W b t vs
  lt1 : b1 = true → b2 = false → ∃ x, V1 = .slice (some ⟨x, 0, none⟩) 1 1 ∧ Blk W x t1 k1
  lt2 : c1 = true → c2 = false → ∃ x, U1 = .slice (some ⟨x, 0, none⟩) 1 1 ∧ Blk W x t2 k2
  sh1 : b2 = true → ∃ (A : Option Addr) (c : Nat), V2 = .slice A (n1 + 1) c
  sh2 : c2 = true → ∃ (A : Option Addr) (c : Nat), U2 = .slice A (n2 + 1) c
section
variable {P : Program} {l : List Oper} {md : Region.Mode} {Q : Exit → Act → World → Prop} {A B : World → Prop} {q : Nat}
theorem anyJ (I : Act → Nat → Array Bool → Act → World → Prop) {f : Nat} {L : Array Bool} {a : Act} {w : World} (h0 : I a f L a w)
    (hI : ∀ f L a' w, I a f L a' w → heldU A B q L w ∧ (anyU P md l.toArray Q A B q f L a' w ∨ (Region.ready md l.toArray L ≠ [] ∧ f ≠ 0 ∧ ∀ i ∈ Region.ready md l.toArray L, ∀ g, f = g + 1 → wpOp P l.toArray Q i (I a g (L.setIfInBounds i true)) a' w))) :
    anyU P md l.toArray Q A B q f L a w := by
  have key : ∀ (f : Nat) (L : Array Bool) (a' : Act) (w : World), I a f L a' w → anyU P md l.toArray Q A B q f L a' w := by
    intro f
    induction f with
    | zero =>
      intro L a' w h
      obtain ⟨_, h | ⟨_, h, _⟩⟩ := hI 0 L a' w h
      · exact h
      · exact absurd rfl h
    | succ f ih =>
      intro L a' w h
      obtain ⟨_, h | ⟨h1, _, h2⟩⟩ := hI (f + 1) L a' w h
      · exact h
      · exact ⟨fun hr => absurd hr h1, fun i hi => wpOp_mono (fun a2 w2 h' => ⟨(hI f _ a2 w2 h').1, ih _ a2 w2 h'⟩) (h2 i hi f rfl)⟩
  exact key f L a w h0
theorem anyU_chains {L : Array Bool} {f0 : Nat} {a : Act} {w : World} {o1 o2 p1 p2 : Oper} {r1 r2 r3 r4 : List Oper} (d1 d2 e1 e2 : Nat) (z1 z2 z3 z4 : Value)
    {B0 : Nat} {w0 : World} {t1 t2 : TypeId} {s1 s2 : Nat} {v1 v2 : Value} {n1 n2 : Nat} {l1 l2 : List Value} (k1 k2 : List Value) (i1 i2 j1 j2 : Nat)
    (hi1 : l.drop i1 = o1 :: r1) (hi2 : l.drop i2 = o2 :: r2) (hj1 : l.drop j1 = p1 :: r3) (hj2 : l.drop j2 = p2 :: r4)
    (hT : TwoG B0 w0 w t1 t2 s1 s2 v1 v2 n1 n2 l1 l2)
    (hA : ∀ W, Below B0 w0 W → (∀ (b : Nat) (t : TypeId) (vs : List Value), t1 ≠ t → t2 ≠ t → Blk w b t vs → Blk W b t vs) → A W) (hB : ∀ W, B W) (hne : t1 ≠ t2)
    (x1 x2 y1 y2 : Operand) (ty1 ty2 : TypeId) (zv1 zv2 : Value) (by1 by2 : Nat)
    (ho2 : o2.op = .call { callee := .builtin .append, args := #[x1, x2], argTypes := #[ty1, ty1] }) (hg2 : o2.guard = none)
    (ho4 : p2.op = .call { callee := .builtin .append, args := #[y1, y2], argTypes := #[ty2, ty2] }) (hg4 : p2.guard = none)
    (hu1 : P.underlying ty1 = some (.slice t1)) (hu2 : P.underlying ty2 = some (.slice t2))
    (hf1 : (P.info? t1).map (fun i => (i.zero, i.size, i.bytes)) = some (some zv1, s1, by1)) (hf2 : (P.info? t2).map (fun i => (i.zero, i.size, i.bytes)) = some (some zv2, s2, by2))
    (hz1 : zv1.cells.size = s1) (hz2 : zv2.cells.size = s2) (hs1 : 0 < s1) (hs2 : 0 < s2) (hk1 : k1.length = s1) (hk2 : k2.length = s2) (hc1 : ∀ u ∈ k1, u.oneCell' = true) (hc2 : ∀ u ∈ k2, u.oneCell' = true)
    (hn1 : n1 + 1 ≤ 9223372036854775807) (hn2 : n2 + 1 ≤ 9223372036854775807) (hy1 : (n1 + 1) * by1 ≤ 140737488355328) (hy2 : (n2 + 1) * by2 ≤ 140737488355328)
    (hl1 : ∀ (V1 V2 U1 U2 : Value) (W : World) (K : Act → World → Prop), K (put4g a d1 d2 e1 e2 (.slice (some ⟨W.heap.size, 0, none⟩) 1 1) V2 U1 U2) (W.alloc (.cells k1.toArray t1)) → if Region.wanted o1 (yielded l.toArray (put4g a d1 d2 e1 e2 V1 V2 U1 U2).tmps) then o1.wp P (put4g a d1 d2 e1 e2 V1 V2 U1 U2) W K Q else K ((put4g a d1 d2 e1 e2 V1 V2 U1 U2).put o1.dst undef) W)
    (hl2 : ∀ (V1 V2 U1 U2 : Value) (W : World) (K : Act → World → Prop), K (put4g a d1 d2 e1 e2 V1 V2 (.slice (some ⟨W.heap.size, 0, none⟩) 1 1) U2) (W.alloc (.cells k2.toArray t2)) → if Region.wanted p1 (yielded l.toArray (put4g a d1 d2 e1 e2 V1 V2 U1 U2).tmps) then p1.wp P (put4g a d1 d2 e1 e2 V1 V2 U1 U2) W K Q else K ((put4g a d1 d2 e1 e2 V1 V2 U1 U2).put p1.dst undef) W)
    (hs3 : ∀ V1 V2 U1 U2, (put4g a d1 d2 e1 e2 V1 V2 U1 U2).eval x1 = v1) (hs4 : ∀ V1 V2 U1 U2, (put4g a d1 d2 e1 e2 V1 V2 U1 U2).eval x2 = V1)
    (hs5 : ∀ V1 V2 U1 U2, (put4g a d1 d2 e1 e2 V1 V2 U1 U2).eval y1 = v2) (hs6 : ∀ V1 V2 U1 U2, (put4g a d1 d2 e1 e2 V1 V2 U1 U2).eval y2 = U1)
    (hend : ∀ (V1 U1 : Value) (A1 A2 : Option Addr) (c1 c2 : Nat) (W : World), TwoG B0 w0 W t1 t2 s1 s2 (.slice A1 (n1 + 1) c1) (.slice A2 (n2 + 1) c2) (n1 + 1) (n2 + 1) (l1 ++ k1) (l2 ++ k2) → (∀ (b : Nat) (t : TypeId) (vs : List Value), t1 ≠ t → t2 ≠ t → Blk w b t vs → Blk W b t vs) → A W → anyU P md l.toArray Q A B q f0 (set4g L i1 i2 j1 j2 true true true true) (put4g a d1 d2 e1 e2 V1 (.slice A1 (n1 + 1) c1) U1 (.slice A2 (n2 + 1) c2)) W)
    (hd2 : o2.dst = d2 := by rfl) (hd4 : p2.dst = e2 := by rfl)
    (hz01 : a.tmps[d1]? = some z1 := by rfl) (hz02 : a.tmps[d2]? = some z2 := by rfl) (hz03 : a.tmps[e1]? = some z3 := by rfl) (hz04 : a.tmps[e2]? = some z4 := by rfl)
    (hL1 : L[i1]? = some false := by rfl) (hL2 : L[i2]? = some false := by rfl) (hL3 : L[j1]? = some false := by rfl) (hL4 : L[j2]? = some false := by rfl)
    (hap : apart4 i1 i2 j1 j2 = true := by kernel_rfl) (hap' : apart4 d1 d2 e1 e2 = true := by kernel_rfl) (hok : chainsOk md l.toArray L i1 i2 j1 j2 = true := by kernel_rfl) :
    anyU P md l.toArray Q A B q (f0 + 4) L a w := by
  have hrd : ∀ b1 b2 c1 c2 : Bool, (b2 = true → b1 = true) → (c2 = true → c1 = true) → chainsAt md l.toArray L i1 i2 j1 j2 b1 b2 c1 c2 = true := by
    intro b1 b2 c1 c2 g1 g2
    unfold chainsOk at hok
    rw [List.all_eq_true] at hok
    have := hok (b1, b2) (by cases b1 <;> cases b2 <;> simp at g1 ⊢)
    rw [List.all_eq_true] at this
    exact this (c1, c2) (by cases c1 <;> cases c2 <;> simp at g2 ⊢)
  refine anyJ (I := fun a0 f L' a' W => ∃ (b1 b2 c1 c2 : Bool) (V1 V2 U1 U2 : Value), L' = set4g L i1 i2 j1 j2 b1 b2 c1 c2 ∧ f + b1.toNat + b2.toNat + c1.toNat + c2.toNat = f0 + 4 ∧ (b2 = true → b1 = true) ∧ (c2 = true → c1 = true) ∧ a' = put4g a0 d1 d2 e1 e2 V1 V2 U1 U2 ∧ ChW B0 w0 w W t1 t2 s1 s2 v1 v2 n1 n2 l1 l2 k1 k2 b1 b2 c1 c2 V1 V2 U1 U2) ?_ ?_
  · refine ⟨false, false, false, false, z1, z2, z3, z4, s4_id hL1 hL2 hL3 hL4, rfl, by simp, by simp, ?_, ⟨hT, fun _ _ _ _ _ h => h, by simp, by simp, by simp, by simp⟩⟩
    unfold put4g
    rw [← s4_id hz01 hz02 hz03 hz04]
  · rintro f L' a' W ⟨b1, b2, c1, c2, V1, V2, U1, U2, rfl, hf, g1, g2, rfl, HC⟩
    have hAW := hA W HC.two.bel HC.kee
    refine ⟨⟨hAW, fun _ => hB W⟩, ?_⟩
    have hr := hrd b1 b2 c1 c2 g1 g2
    unfold chainsAt at hr
    rw [Bool.or_eq_true, Bool.and_eq_true, Bool.and_eq_true, List.all_eq_true] at hr
    rcases hr with ⟨rfl, rfl⟩ | ⟨hr1, hr2⟩
    · obtain ⟨A1, m1, rfl⟩ := HC.sh1 rfl
      obtain ⟨A2, m2, rfl⟩ := HC.sh2 rfl
      obtain rfl := g1 rfl
      obtain rfl := g2 rfl
      obtain rfl : f = f0 := by simp only [Bool.toNat_true] at hf; omega
      exact .inl (hend V1 U1 A1 A2 m1 m2 W HC.two HC.kee hAW)
    · have hr3 : Region.ready md l.toArray (set4g L i1 i2 j1 j2 b1 b2 c1 c2) ≠ [] := by simpa using hr1
      have hf0 : f ≠ 0 := by
        rintro rfl
        obtain ⟨i, hi⟩ := List.exists_mem_of_ne_nil _ hr3
        have h9 := hr2 i hi
        revert hf h9
        cases b1 <;> cases b2 <;> cases c1 <;> cases c2 <;> simp <;> omega
      refine .inr ⟨hr3, hf0, ?_⟩
      intro i hi g hfg
      subst hfg
      have h9 := hr2 i hi
      simp only [Bool.or_eq_true, Bool.and_eq_true, beq_iff_eq, Bool.not_eq_true'] at h9
      rcases h9 with ((⟨rfl, rfl⟩ | ⟨⟨rfl, rfl⟩, rfl⟩) | ⟨rfl, rfl⟩) | ⟨⟨rfl, rfl⟩, rfl⟩
      · have hb2 : b2 = false := by cases b2 with | false => rfl | true => exact absurd (g1 rfl) (by simp)
        subst hb2
        refine wpOp_at hi1 (fun K hK => hl1 V1 V2 U1 U2 W K (hK _ _ ⟨true, false, c1, c2, _, V2, U1, U2, s4_1 hap, by simp only [Bool.toNat_true, Bool.toNat_false] at hf ⊢; omega, by simp, g2, rfl, ?_⟩))
        exact ⟨HC.two.quiet (box_below _ _), fun b t vs h1 h2 h3 => (HC.kee b t vs h1 h2 h3).al _, fun _ _ => ⟨W.heap.size, rfl, by simpa using Blk.new W _ k1⟩, fun x1 x2 => by obtain ⟨x, e, h⟩ := HC.lt2 x1 x2; exact ⟨x, e, h.al _⟩, by simp, HC.sh2⟩
      · obtain ⟨x, rfl, hx⟩ := HC.lt1 rfl rfl
        refine wpOp_at hi2 (fun K hK => ?_)
        refine step_pushG hg2 x1 x2 ty1 ho2 B0 t1 zv1 s1 by1 hu1 hf1 hz1 hs1 (hs3 _ _ _ _) x k1 (hs4 _ _ _ _) HC.two hx hk1 hc1 (by simpa using hn1) (by simpa using hy1) ?_
        intro A' c' w' HT' hkee
        refine hK _ _ ⟨true, true, c1, c2, .slice (some ⟨x, 0, none⟩) 1 1, .slice A' (n1 + 1) c', U1, U2, s4_2 hap, by simp only [Bool.toNat_true, Bool.toNat_false] at hf ⊢; omega, by simp, g2, ?_, ?_⟩
        · unfold put4g Act.put; rw [hd2]; dsimp only; rw [s4_2 hap']; rfl
        · exact ⟨HT', fun b t vs h1 h2 h3 => hkee b t vs h1 (HC.kee b t vs h1 h2 h3), by simp, fun x1 x2 => by obtain ⟨x, e, h⟩ := HC.lt2 x1 x2; exact ⟨x, e, hkee _ _ _ hne h⟩, fun _ => ⟨_, _, rfl⟩, HC.sh2⟩
      · have hc2 : c2 = false := by cases c2 with | false => rfl | true => exact absurd (g2 rfl) (by simp)
        subst hc2
        refine wpOp_at hj1 (fun K hK => hl2 V1 V2 U1 U2 W K (hK _ _ ⟨b1, b2, true, false, V1, V2, _, U2, s4_3 hap, by simp only [Bool.toNat_true, Bool.toNat_false] at hf ⊢; omega, g1, by simp, rfl, ?_⟩))
        exact ⟨HC.two.quiet (box_below _ _), fun b t vs h1 h2 h3 => (HC.kee b t vs h1 h2 h3).al _, fun x1 x2 => by obtain ⟨x, e, h⟩ := HC.lt1 x1 x2; exact ⟨x, e, h.al _⟩, fun _ _ => ⟨W.heap.size, rfl, by simpa using Blk.new W _ k2⟩, HC.sh1, by simp⟩
      · obtain ⟨x, rfl, hx⟩ := HC.lt2 rfl rfl
        refine wpOp_at hj2 (fun K hK => ?_)
        refine step_pushG hg4 y1 y2 ty2 ho4 B0 t2 zv2 s2 by2 hu2 hf2 hz2 hs2 (hs5 _ _ _ _) x k2 (hs6 _ _ _ _) HC.two.swap hx hk2 hc2 (by simpa using hn2) (by simpa using hy2) ?_
        intro A' c' w' HT' hkee
        refine hK _ _ ⟨b1, b2, true, true, V1, V2, .slice (some ⟨x, 0, none⟩) 1 1, .slice A' (n2 + 1) c', s4_4, by simp only [Bool.toNat_true, Bool.toNat_false] at hf ⊢; omega, g1, by simp, ?_, ?_⟩
        · unfold put4g Act.put; rw [hd4]; dsimp only; rw [s4_4]; rfl
        · exact ⟨HT'.swap, fun b t vs h1 h2 h3 => hkee b t vs h2 (HC.kee b t vs h1 h2 h3), fun x1 x2 => by obtain ⟨x, e, h⟩ := HC.lt1 x1 x2; exact ⟨x, e, hkee _ _ _ hne.symm h⟩, by simp, HC.sh1, fun _ => ⟨_, _, rfl⟩⟩
end
end Go.Proofs.Ytddhaidimadliaa
