/- The memory of diagnosability.Excuse: a map of places, visits, a word. -/
import Derived.Test.YtddhaidimadliaaKe
import Derived.Test.YtddhaidimadliaaJt
namespace Go.Proofs.Ytddhaidimadliaa
open Go.RowKit Go Go.Maps

/-- a place as a key, a visit's cells -/
def kPl (p : Int × Nat) : Value := .agg #[.int .i64 p.1, .int .i64 (p.2 : Int)]
theorem kPl_inj {t u : Int × Nat} (h : kPl t = kPl u) : t = u := by
 obtain ⟨a, b⟩ := t
 obtain ⟨d, e⟩ := u
 unfold kPl at h
 simp only [Value.agg.injEq, Array.mk.injEq, List.cons.injEq, Value.int.injEq, true_and, and_true] at h
 obtain ⟨rfl, h2⟩ := h
 rw [Int.ofNat.inj h2]
theorem plLawK : WideMaps.KeyLaw Try.prog 131 := deep_law_laid laidOut (m := 2) (by omega) (of_decide_eq_true (by kernel_rfl)) (by kernel_rfl) (by rw [Try.underlying131])
theorem plLaw : Keyed Try.prog 131 := Keyed.of_law plLawK
theorem key2_any {P : Program} {t i : TypeId} {f1 f2 : Field} (ht : P.underlying t = some (.struct #[f1, f2])) (e1 : f1.type = i) (e2 : f2.type = i) (o1 : f1.offset = 0) (o2 : f2.offset = 1) (hi : P.underlying i = some (.int .i64)) (hc : P.cellsOf t = 2) (hci : P.cellsOf i = 1) (hk : P.keyTypeAt (P.types.size + 1) t = true) (w : World) (a b : Int) (h1 : (Lit.int .i64 a).wf = true) (h2 : (Lit.int .i64 b).wf = true) : ∃ kl, keyOf P t (.agg #[.int .i64 a, .int .i64 b]) = some kl := by
 have hd : DataW.Trod (H := Unit) (fun _ => ()) P w 0 (fun _ => true) true t (.agg #[.int .i64 a, .int .i64 b]) (.agg [.lit (.int .i64 a), .lit (.int .i64 b)]) [] := by
  refine ⟨2, ?_⟩
  simp [DataW.trod, Value.cells, ht, e1, e2, o1, o2, hi, hc, hci, h1, h2]
 exact ⟨_, (keyOf_asKey hk (by rw [ht]) (by simp [Value.formed, ht, hc]) hd).1⟩
set_option maxRecDepth 100000 in
theorem plKey (w : World) (p : Int × Nat) (h1 : (Lit.int .i64 p.1).wf = true) (h2 : (Lit.int .i64 (p.2 : Int)).wf = true) : ∃ kl, keyOf Try.prog 131 (kPl p) = some kl :=
 key2_any Try.underlying131 rfl rfl rfl rfl Try.underlying3 (by kernel_rfl) intCells (by kernel_rfl) w p.1 p.2 h1 h2
def vsc (t : Vst) : List Value := [.int .i64 t.s, .int .i64 (t.k : Int), .int .i64 t.f, .int .i64 t.e]
/-- a bool as a map's element -/
def blR : Value → Option (DataW Unit × List MemPlace)
 | .bool b => some (.lit (.bool b), [])
 | _ => none
theorem blR_inv {v : Value} {z : DataW Unit} {ps : List MemPlace} (h : blR v = some (z, ps)) : ∃ b, v = .bool b ∧ z = .lit (.bool b) := by
 unfold blR at h
 split at h
 ·rename_i b
  injection h with h
  injection h with h _
  exact ⟨b, rfl, h.symm⟩
 ·cases h
/-- Block b is a set of places, of at most n entries, that says g. -/
def TabB (P : Program) (K : TypeId) (w : World) (b n : Nat) (g : Int × Nat → Bool) : Prop :=
 ∃ D : DataW Unit, w.ownsMap P K blR b n D ∧ ∀ (a : Int × Nat) (kl : Lit), keyOf P K (kPl a) = some kl → Maps.has D kl = g a ∧ (g a = true → D.atKey kl (.lit (.bool false)) = .lit (.bool true))
section
variable {P : Program} {K E : TypeId} {w w' : World} {b n : Nat} {g : Int × Nat → Bool}
theorem TabB.lt (h : TabB P K w b n g) : b < w.heap.size := by
 obtain ⟨D, h1, h2⟩ := h
 exact h1.lt
theorem TabB.kept (h : TabB P K w b n g) {row : Option Nat} (hg : w.grownBy w' row) (hne : some b ≠ row) : TabB P K w' b n g := by
 obtain ⟨D, h1, h2⟩ := h
 exact ⟨D, h1.kept hg hne, h2⟩
theorem TabB.block (h : TabB P K w b n g) (he : w'.heap[b]? = w.heap[b]?) : TabB P K w' b n g := by
 obtain ⟨D, ⟨es, clock, hb, F, hs, hD⟩, h2⟩ := h
 exact ⟨D, ⟨es, clock, he.trans hb, F, hs, hD⟩, h2⟩
theorem TabB.below (h : TabB P K w b n g) (hb : Below w.heap.size w w') : TabB P K w' b n g := h.block (hb.block b h.lt)
theorem TabB.made (w : World) (P : Program) (K : TypeId) : TabB P K (w.alloc (.map #[] 0)) w.heap.size 0 (fun _ => false) :=
 ⟨_, World.ownsMap_made _ _ _ _, fun a kl _ => ⟨by simp [Maps.has_eq], fun h => by cases h⟩⟩
theorem TabB.ne {base : Nat} {e : TypeId} {size m : Nat} {v : Value} {xs : List Value} (h : TabB P K w b n g) (ho : w.ownsRow base e size v m xs) : some b ≠ v.ownBlock := by
 obtain ⟨D, ⟨es, clock, hb, _⟩, _⟩ := h
 intro e
 rcases ho.2 with ⟨rfl, _⟩ | ⟨q, cap, cur, rfl, _, hq, _⟩
 ·cases e
 ·injection e with e
  subst e
  rw [show w.heap[b]? = some (.map es clock) from hb] at hq
  cases hq
theorem TabB.run (h : TabB P K w b n g) {t : TypeId} (KK : Keyed P K) (ht : P.underlying t = some (.map K E)) (hz : (zeroValue E).run P w = .ok (.bool false) w)
  (c : Int × Nat) (hk : ∃ kl, keyOf P K (kPl c) = some kl) (q : Bool) (hq : g c = q) : (Instr.lookup t (.map (some b)) (kPl c) false).run P w = .ok (.bool q) w := by
 obtain ⟨D, h1, h2⟩ := h
 obtain ⟨kl, hkl⟩ := hk
 obtain ⟨h3, h4⟩ := h2 c kl hkl
 obtain ⟨v, ps, hrun, hv⟩ := h1.lookup KK ht hz (show blR (.bool false) = some (.lit (.bool false), []) from rfl) hkl
 rw [hrun]
 cases q with
 | true =>
  rw [h4 hq] at hv
  obtain ⟨b1, rfl, h5⟩ := blR_inv hv
  injection h5 with h5
  injection h5 with h5
  rw [← h5]
 | false =>
  rw [hq] at h3
  rw [Maps.atKey_of_not_has h3] at hv
  obtain ⟨b1, rfl, h5⟩ := blR_inv hv
  injection h5 with h5
  injection h5 with h5
  rw [← h5]
theorem TabB.put (h : TabB P K w b n g) {t : TypeId} (KK : Keyed P K) (ht : P.underlying t = some (.map K E)) (hn : n ≤ 1000000000) (c : Int × Nat) (hk : ∃ kl, keyOf P K (kPl c) = some kl)
  (g' : Int × Nat → Bool) (hg1 : g' c = true) (hg2 : ∀ d, d ≠ c → g' d = g d) : ∃ w', (Instr.mapUpdate t (.map (some b)) (kPl c) (.bool true)).run P w = .ok () w' ∧ TabB P K w' b (n + 1) g' ∧ w.grownBy w' (some b) := by
 obtain ⟨D, h1, h2⟩ := h
 obtain ⟨kl, hkl⟩ := hk
 obtain ⟨w', hrun, q1, q2⟩ := h1.update KK ht (by unfold maxLen; omega) hkl (show blR (.bool true) = some (.lit (.bool true), []) from rfl)
 refine ⟨w', hrun, ⟨_, q1, fun d kd hkd => ?_⟩, q2⟩
 by_cases hd : d = c
 ·subst hd
  have : kd = kl := by rw [hkl] at hkd; injection hkd with e; exact e.symm
  subst this
  rw [hg1]
  exact ⟨Maps.has_put_same h1.isMap (KK.key hkl) _, fun _ => Maps.atKey_put_same h1.isMap (KK.key hkl) _ _⟩
 ·have hne : kd ≠ kl := fun e => hd (kPl_inj (KK.inj (by rw [← e]; exact hkd) hkl))
  rw [hg2 d hd, Maps.has_put_other hne, Maps.atKey_put_other hne]
  exact h2 d kd hkd
theorem wpList_tabB_put {ops : Array Oper} {rest : List Oper} {o : Oper} {a : Act} {Q : Exit → Act → World → Prop} (hg : o.guard = none) (m x v : Operand) (t : TypeId) (hop : o.op = Op.mapUpdate t m x v)
  (KK : Keyed P K) (ht : P.underlying t = some (.map K E))
  (hm : a.eval m = .map (some b)) (h : TabB P K w b n g) (hn : n ≤ 1000000000) (c : Int × Nat) (hx : a.eval x = kPl c) (hk : ∃ kl, keyOf P K (kPl c) = some kl) (hv : a.eval v = .bool true)
  (g' : Int × Nat → Bool) (hg1 : g' c = true) (hg2 : ∀ d, d ≠ c → g' d = g d)
  (hK : ∀ w', TabB P K w' b (n + 1) g' → w.grownBy w' (some b) → wpList P ops Q rest (a.put o.dst undef) w') : wpList P ops Q (o :: rest) a w := by
 obtain ⟨D, h1, h2⟩ := h
 obtain ⟨kl, hkl⟩ := hk
 refine wpList_mapUpdate_own w hg m x v t hop K E KK ht blR b n D hm h1 (by unfold maxLen; omega) _ _ kl hx hv hkl (.lit (.bool true)) [] rfl ?_
 intro w' h3 h4
 refine hK w' ⟨_, h3, fun d kd hkd => ?_⟩ h4
 by_cases hd : d = c
 ·subst hd
  have : kd = kl := by rw [hkl] at hkd; injection hkd with e; exact e.symm
  subst this
  rw [hg1]
  exact ⟨Maps.has_put_same h1.isMap (KK.key hkl) _, fun _ => Maps.atKey_put_same h1.isMap (KK.key hkl) _ _⟩
 ·have hne : kd ≠ kl := fun e => hd (kPl_inj (KK.inj (by rw [← e]; exact hkd) hkl))
  rw [hg2 d hd, Maps.has_put_other hne, Maps.atKey_put_other hne]
  exact h2 d kd hkd
end
theorem exH_snoc {l : List Vst} {v : Vst} {s : Int} {k : Nat} : exH (l ++ [v]) s k = (exH l s k || (v.s == s && v.k == k)) := by
 unfold exH
 rw [List.any_append]
 simp
/-- Excuse's memory: the visits, what is observed of the word, the places -/
structure ExN (B o : Nat) (w0 w : World) (lv sv : Value) (nl ns : Nat) (l : List Vst) (os : List Int) : Prop where
 two : TwoG B w0 w 133 3 4 1 lv sv nl ns (l.flatMap vsc) (iv os)
 ln : l.length = nl
 sn : os.length = ns
 ob : B ≤ o
 tab : TabB Try.prog 131 w o nl (fun p => exH l p.1 p.2)
section
variable {B o : Nat} {w0 w w' : World} {lv sv : Value} {nl ns : Nat} {l : List Vst} {os : List Int}
theorem ExN.quiet (h : ExN B o w0 w lv sv nl ns l os) (hb : Below w.heap.size w w') : ExN B o w0 w' lv sv nl ns l os := ⟨h.two.quiet hb, h.ln, h.sn, h.ob, h.tab.below hb⟩
theorem ExN.add (h : ExN B o w0 w lv sv nl ns l os) {A : Option Addr} {c : Nat} {x : Vst} {w6 w7 : World} (ho : w6.ownsRow B 133 4 (.slice A (nl + 1) c) (nl + 1) (l.flatMap vsc ++ vsc x)) (hg : w.grownBy w6 lv.ownBlock)
  (hl : (Value.slice A (nl + 1) c).ownBlock = lv.ownBlock ∨ ∃ g, (Value.slice A (nl + 1) c).ownBlock = some g ∧ w.heap.size ≤ g)
  (ht : TabB Try.prog 131 w7 o (nl + 1) (fun p => exH (l ++ [x]) p.1 p.2)) (hg7 : w6.grownBy w7 (some o)) : ExN B o w0 w7 (.slice A (nl + 1) c) sv (nl + 1) ns (l ++ [x]) os := by
 have h6 := h.two.push ho hg hl
 have t6 : TabB Try.prog 131 w6 o nl (fun p => exH l p.1 p.2) := h.tab.kept hg (h.tab.ne h.two.o1)
 have ob := h.ob
 refine ⟨⟨h6.bel.grown hg7 h6.siz (fun j hj => by injection hj with hj; omega), Nat.le_trans h6.siz hg7.size, ?_, h6.o2.kept hg7 (.inr fun e => t6.ne h6.o2 e.symm), h6.apt⟩, by simp [h.ln], h.sn, h.ob, ht⟩
 rw [List.flatMap_append]
 simpa using h6.o1.kept hg7 (.inr fun e => t6.ne h6.o1 e.symm)
theorem ExN.bel (h : ExN B o w0 w lv sv nl ns l os) : Below B w0 w := h.two.bel
end
section
variable {m : Dm} {c : Int} {o : List Int} {i : Nat} {t : Vst} {x : Int} {r : List Int} {l : List Vst}
theorem exX_none (h : exN m c o t.s t.k x = none) : exX m c o i t (x :: r) l = exX m c o i t r l := by rw [exX, h]
theorem exX_old {p : Int × Nat} (h : exN m c o t.s t.k x = some p) (hh : exH l p.1 p.2 = true) : exX m c o i t (x :: r) l = exX m c o i t r l := by rw [exX, h]; dsimp only; rw [if_pos hh]
theorem exX_new {p : Int × Nat} (h : exN m c o t.s t.k x = some p) (hh : exH l p.1 p.2 = false) : exX m c o i t (x :: r) l = exX m c o i t r (l ++ [⟨p.1, p.2, i, x⟩]) := by rw [exX, h]; dsimp only; rw [if_neg (by rw [hh]; simp)]
theorem exG_round {g : Nat} (ht : l[i]? = some t) (hk : t.k ≠ o.length) : exG m c o (g + 1) i l = exG m c o g (i + 1) (exX m c o i t m.a.al l) := by rw [exG, ht]; dsimp only; rw [if_neg hk]
theorem exG_hit {g : Nat} (ht : l[i]? = some t) (hk : t.k = o.length) : exG m c o (g + 1) i l = some (exB l l.length i).reverse := by rw [exG, ht]; dsimp only; rw [if_pos hk]
theorem exG_end {g : Nat} (ht : l[i]? = none) : exG m c o g i l = none := by
 cases g with
 | zero => rfl
 | succ g => rw [exG, ht]
theorem exB_go {n : Nat} {k : Int} (ht : l[k.toNat]? = some t) (hf : ¬ t.f < 0) : exB l (n + 1) k = t.e :: exB l n t.f := by rw [exB, ht]; dsimp only; rw [if_neg hf]
theorem exB_end {n : Nat} {k : Int} (ht : l[k.toNat]? = some t) (hf : t.f < 0) : exB l (n + 1) k = [] := by rw [exB, ht]; dsimp only; rw [if_pos hf]
end
/-- what Excuse returns where the class is one -/
def excR (m : Dm) (c : Int) (ws : List Int) : Option (List Int) × Int :=
 if 4096 < ws.length then (none, 15) else match runC m c 0 ws false with
 | none => (none, 10)
 | some _ => (excE m c (obsW m ws), 0)
def RetEx (r : Option (List Int) × Int) (w : World) (e : Ending) (w' : World) : Prop := ∃ v, e = .returned (.tuple #[v, .bool r.1.isSome, .int .i64 r.2]) ∧ w'.ownsRow w.heap.size 3 1 v (r.1.getD []).length (iv (r.1.getD [])) ∧ Below w.heap.size w w'
end Go.Proofs.Ytddhaidimadliaa
