/- The memory of diagnosability.Excuse: a map of places, visits, a word. -/
import Derived.Test.YtddhaidimadliaaKe
import Derived.Test.YtddhaidimadliaaJt
import Derived.Test.YtddhaidimadliaaKh

namespace Go.Proofs.Ytddhaidimadliaa
open Go.RowKit Go Go.Maps

/-- a place as a key, a visit's cells -/
def kPl (p : Int × Nat) : Value := .agg #[.int .i64 p.1, .int .i64 (p.2 : Int)]
theorem kPl_inj {t u : Int × Nat} (h : kPl t = kPl u) : t = u := by
 obtain ⟨a, b⟩ := t
 obtain ⟨d, e⟩ := u
 unfold kPl at h
 simp only [Value.agg.injEq, Array.mk.injEq, List.cons.injEq, Value.int.injEq, true_and, and_true] at h
 obtain ⟨rfl, h2⟩ := h
 rw [Int.ofNat.inj h2]
theorem plLawK : WideMaps.KeyLaw Try.prog 131 := deep_law_laid laidOut (m := 2) (by omega) (of_decide_eq_true (by kernel_rfl)) (by kernel_rfl) (by rw [Try.underlying131])
theorem plLaw : Keyed Try.prog 131 := Keyed.of_law plLawK
theorem key2_any {P : Program} {t i : TypeId} {f1 f2 : Field} (ht : P.underlying t = some (.struct #[f1, f2])) (e1 : f1.type = i) (e2 : f2.type = i) (o1 : f1.offset = 0) (o2 : f2.offset = 1) (hi : P.underlying i = some (.int .i64)) (hc : P.cellsOf t = 2) (hci : P.cellsOf i = 1) (hk : P.keyTypeAt (P.types.size + 1) t = true) (w : World) (a b : Int) (h1 : (Lit.int .i64 a).wf = true) (h2 : (Lit.int .i64 b).wf = true) : ∃ kl, keyOf P t (.agg #[.int .i64 a, .int .i64 b]) = some kl := by
 have hd : DataW.Trod (H := Unit) (fun _ => ()) P w 0 (fun _ => true) true t (.agg #[.int .i64 a, .int .i64 b]) (.agg [.lit (.int .i64 a), .lit (.int .i64 b)]) [] := by
  refine ⟨2, ?_⟩
  simp [DataW.trod, Value.cells, ht, e1, e2, o1, o2, hi, hc, hci, h1, h2]
 exact ⟨_, (keyOf_asKey hk (by rw [ht]) (by simp [Value.formed, ht, hc]) hd).1⟩
set_option maxRecDepth 100000 in
theorem plKey (w : World) (p : Int × Nat) (h1 : (Lit.int .i64 p.1).wf = true) (h2 : (Lit.int .i64 (p.2 : Int)).wf = true) : ∃ kl, keyOf Try.prog 131 (kPl p) = some kl :=
 key2_any Try.underlying131 rfl rfl rfl rfl Try.underlying3 (by kernel_rfl) intCells (by kernel_rfl) w p.1 p.2 h1 h2
def vsc (t : Vst) : List Value := [.int .i64 t.s, .int .i64 (t.k : Int), .int .i64 t.f, .int .i64 t.e]
/-- a bool as a map's element -/
def blR : Value → Option (DataW Unit × List MemPlace)
 | .bool b => some (.lit (.bool b), [])
 | _ => none
theorem blR_inv {v : Value} {z : DataW Unit} {ps : List MemPlace} (h : blR v = some (z, ps)) : ∃ b, v = .bool b ∧ z = .lit (.bool b) := by
 unfold blR at h
 split at h
 ·rename_i b
  injection h with h
  injection h with h _
  exact ⟨b, rfl, h.symm⟩
 ·cases h
/-- Block b is a set of places, of at most n entries, that says g. -/
def TabB (P : Program) (K : TypeId) (w : World) (b n : Nat) (g : Int × Nat → Bool) : Prop :=
 ∃ D : DataW Unit, w.ownsMap P K blR b n D ∧ ∀ (a : Int × Nat) (kl : Lit), keyOf P K (kPl a) = some kl → Maps.has D kl = g a ∧ (g a = true → D.atKey kl (.lit (.bool false)) = .lit (.bool true))
section
variable {P : Program} {K E : TypeId} {w w' : World} {b n : Nat} {g : Int × Nat → Bool}
theorem TabB.lt (h : TabB P K w b n g) : b < w.heap.size := by
 obtain ⟨D, h1, h2⟩ := h
 exact h1.lt
theorem TabB.kept (h : TabB P K w b n g) {row : Option Nat} (hg : w.grownBy w' row) (hne : some b ≠ row) : TabB P K w' b n g := by
 obtain ⟨D, h1, h2⟩ := h
 exact ⟨D, h1.kept hg hne, h2⟩
theorem TabB.block (h : TabB P K w b n g) (he : w'.heap[b]? = w.heap[b]?) : TabB P K w' b n g := by
 obtain ⟨D, ⟨es, clock, hb, F, hs, hD⟩, h2⟩ := h
 exact ⟨D, ⟨es, clock, he.trans hb, F, hs, hD⟩, h2⟩
theorem TabB.below (h : TabB P K w b n g) (hb : Below w.heap.size w w') : TabB P K w' b n g := h.block (hb.block b h.lt)
theorem TabB.made (w : World) (P : Program) (K : TypeId) : TabB P K (w.alloc (.map #[] 0)) w.heap.size 0 (fun _ => false) :=
 ⟨_, World.ownsMap_made _ _ _ _, fun a kl _ => ⟨by simp [Maps.has_eq], fun h => by cases h⟩⟩
theorem TabB.ne {base : Nat} {e : TypeId} {size m : Nat} {v : Value} {xs : List Value} (h : TabB P K w b n g) (ho : w.ownsRow base e size v m xs) : some b ≠ v.ownBlock := by
 obtain ⟨D, ⟨es, clock, hb, _⟩, _⟩ := h
 intro e
 rcases ho.2 with ⟨rfl, _⟩ | ⟨q, cap, cur, rfl, _, hq, _⟩
 ·cases e
 ·injection e with e
  subst e
  rw [show w.heap[b]? = some (.map es clock) from hb] at hq
  cases hq
theorem TabB.run (h : TabB P K w b n g) {t : TypeId} (KK : Keyed P K) (ht : P.underlying t = some (.map K E)) (hz : (zeroValue E).run P w = .ok (.bool false) w)
  (c : Int × Nat) (hk : ∃ kl, keyOf P K (kPl c) = some kl) (q : Bool) (hq : g c = q) : (Instr.lookup t (.map (some b)) (kPl c) false).run P w = .ok (.bool q) w := by
 obtain ⟨D, h1, h2⟩ := h
 obtain ⟨kl, hkl⟩ := hk
 obtain ⟨h3, h4⟩ := h2 c kl hkl
 obtain ⟨v, ps, hrun, hv⟩ := h1.lookup KK ht hz (show blR (.bool false) = some (.lit (.bool false), []) from rfl) hkl
 rw [hrun]
 cases q with
 | true =>
  rw [h4 hq] at hv
  obtain ⟨b1, rfl, h5⟩ := blR_inv hv
  injection h5 with h5
  injection h5 with h5
  rw [← h5]
 | false =>
  rw [hq] at h3
  rw [Maps.atKey_of_not_has h3] at hv
  obtain ⟨b1, rfl, h5⟩ := blR_inv hv
  injection h5 with h5
  injection h5 with h5
  rw [← h5]
theorem TabB.put (h : TabB P K w b n g) {t : TypeId} (KK : Keyed P K) (ht : P.underlying t = some (.map K E)) (hn : n ≤ 1000000000) (c : Int × Nat) (hk : ∃ kl, keyOf P K (kPl c) = some kl)
  (g' : Int × Nat → Bool) (hg1 : g' c = true) (hg2 : ∀ d, d ≠ c → g' d = g d) : ∃ w', (Instr.mapUpdate t (.map (some b)) (kPl c) (.bool true)).run P w = .ok () w' ∧ TabB P K w' b (n + 1) g' ∧ w.grownBy w' (some b) := by
 obtain ⟨D, h1, h2⟩ := h
 obtain ⟨kl, hkl⟩ := hk
 obtain ⟨w', hrun, q1, q2⟩ := h1.update KK ht (by unfold maxLen; omega) hkl (show blR (.bool true) = some (.lit (.bool true), []) from rfl)
 refine ⟨w', hrun, ⟨_, q1, fun d kd hkd => ?_⟩, q2⟩
 by_cases hd : d = c
 ·subst hd
  have : kd = kl := by rw [hkl] at hkd; injection hkd with e; exact e.symm
  subst this
  rw [hg1]
  exact ⟨Maps.has_put_same h1.isMap (KK.key hkl) _, fun _ => Maps.atKey_put_same h1.isMap (KK.key hkl) _ _⟩
 ·have hne : kd ≠ kl := fun e => hd (kPl_inj (KK.inj (by rw [← e]; exact hkd) hkl))
  rw [hg2 d hd, Maps.has_put_other hne, Maps.atKey_put_other hne]
  exact h2 d kd hkd
theorem wpList_tabB_put {ops : Array Oper} {rest : List Oper} {o : Oper} {a : Act} {Q : Exit → Act → World → Prop} (hg : o.guard = none) (m x v : Operand) (t : TypeId) (hop : o.op = Op.mapUpdate t m x v)
  (KK : Keyed P K) (ht : P.underlying t = some (.map K E))
  (hm : a.eval m = .map (some b)) (h : TabB P K w b n g) (hn : n ≤ 1000000000) (c : Int × Nat) (hx : a.eval x = kPl c) (hk : ∃ kl, keyOf P K (kPl c) = some kl) (hv : a.eval v = .bool true)
  (g' : Int × Nat → Bool) (hg1 : g' c = true) (hg2 : ∀ d, d ≠ c → g' d = g d)
  (hK : ∀ w', TabB P K w' b (n + 1) g' → w.grownBy w' (some b) → wpList P ops Q rest (a.put o.dst undef) w') : wpList P ops Q (o :: rest) a w := by
 obtain ⟨D, h1, h2⟩ := h
 obtain ⟨kl, hkl⟩ := hk
 refine wpList_mapUpdate_own w hg m x v t hop K E KK ht blR b n D hm h1 (by unfold maxLen; omega) _ _ kl hx hv hkl (.lit (.bool true)) [] rfl ?_
 intro w' h3 h4
 refine hK w' ⟨_, h3, fun d kd hkd => ?_⟩ h4
 by_cases hd : d = c
 ·subst hd
  have : kd = kl := by rw [hkl] at hkd; injection hkd with e; exact e.symm
  subst this
  rw [hg1]
  exact ⟨Maps.has_put_same h1.isMap (KK.key hkl) _, fun _ => Maps.atKey_put_same h1.isMap (KK.key hkl) _ _⟩
 ·have hne : kd ≠ kl := fun e => hd (kPl_inj (KK.inj (by rw [← e]; exact hkd) hkl))
  rw [hg2 d hd, Maps.has_put_other hne, Maps.atKey_put_other hne]
  exact h2 d kd hkd
end
theorem exH_snoc {l : List Vst} {v : Vst} {s : Int} {k : Nat} : exH (l ++ [v]) s k = (exH l s k || (v.s == s && v.k == k)) := by
 unfold exH
 rw [List.any_append]
 simp
/-- Excuse's memory: the visits, what is observed of the word, the places -/
structure ExN (B o : Nat) (w0 w : World) (lv sv : Value) (nl ns : Nat) (l : List Vst) (os : List Int) : Prop where
 two : TwoG B w0 w 133 3 4 1 lv sv nl ns (l.flatMap vsc) (iv os)
 ln : l.length = nl
 sn : os.length = ns
 ob : B ≤ o
 tab : TabB Try.prog 131 w o nl (fun p => exH l p.1 p.2)
section
variable {B o : Nat} {w0 w w' : World} {lv sv : Value} {nl ns : Nat} {l : List Vst} {os : List Int}
theorem ExN.quiet (h : ExN B o w0 w lv sv nl ns l os) (hb : Below w.heap.size w w') : ExN B o w0 w' lv sv nl ns l os := ⟨h.two.quiet hb, h.ln, h.sn, h.ob, h.tab.below hb⟩
theorem ExN.add (h : ExN B o w0 w lv sv nl ns l os) {A : Option Addr} {c : Nat} {x : Vst} {w6 w7 : World} (ho : w6.ownsRow B 133 4 (.slice A (nl + 1) c) (nl + 1) (l.flatMap vsc ++ vsc x)) (hg : w.grownBy w6 lv.ownBlock)
  (hl : (Value.slice A (nl + 1) c).ownBlock = lv.ownBlock ∨ ∃ g, (Value.slice A (nl + 1) c).ownBlock = some g ∧ w.heap.size ≤ g)
  (ht : TabB Try.prog 131 w7 o (nl + 1) (fun p => exH (l ++ [x]) p.1 p.2)) (hg7 : w6.grownBy w7 (some o)) : ExN B o w0 w7 (.slice A (nl + 1) c) sv (nl + 1) ns (l ++ [x]) os := by
 have h6 := h.two.push ho hg hl
 have t6 : TabB Try.prog 131 w6 o nl (fun p => exH l p.1 p.2) := h.tab.kept hg (h.tab.ne h.two.o1)
 have ob := h.ob
 refine ⟨⟨h6.bel.grown hg7 h6.siz (fun j hj => by injection hj with hj; omega), Nat.le_trans h6.siz hg7.size, ?_, h6.o2.kept hg7 (.inr fun e => t6.ne h6.o2 e.symm), h6.apt⟩, by simp [h.ln], h.sn, h.ob, ht⟩
 rw [List.flatMap_append]
 simpa using h6.o1.kept hg7 (.inr fun e => t6.ne h6.o1 e.symm)
theorem ExN.bel (h : ExN B o w0 w lv sv nl ns l os) : Below B w0 w := h.two.bel
end
section
variable {m : Dm} {c : Int} {o : List Int} {i : Nat} {t : Vst} {x : Int} {r : List Int} {l : List Vst}
theorem exX_none (h : exN m c o t.s t.k x = none) : exX m c o i t (x :: r) l = exX m c o i t r l := by rw [exX, h]
theorem exX_old {p : Int × Nat} (h : exN m c o t.s t.k x = some p) (hh : exH l p.1 p.2 = true) : exX m c o i t (x :: r) l = exX m c o i t r l := by rw [exX, h]; dsimp only; rw [if_pos hh]
theorem exX_new {p : Int × Nat} (h : exN m c o t.s t.k x = some p) (hh : exH l p.1 p.2 = false) : exX m c o i t (x :: r) l = exX m c o i t r (l ++ [⟨p.1, p.2, i, x⟩]) := by rw [exX, h]; dsimp only; rw [if_neg (by rw [hh]; simp)]
theorem exG_round {g : Nat} (ht : l[i]? = some t) (hk : t.k ≠ o.length) : exG m c o (g + 1) i l = exG m c o g (i + 1) (exX m c o i t m.a.al l) := by rw [exG, ht]; dsimp only; rw [if_neg hk]
theorem exG_hit {g : Nat} (ht : l[i]? = some t) (hk : t.k = o.length) : exG m c o (g + 1) i l = some (exB l l.length i).reverse := by rw [exG, ht]; dsimp only; rw [if_pos hk]
theorem exG_end {g : Nat} (ht : l[i]? = none) : exG m c o g i l = none := by
 cases g with
 | zero => rfl
 | succ g => rw [exG, ht]
theorem exB_go {n : Nat} {k : Int} (ht : l[k.toNat]? = some t) (hf : ¬ t.f < 0) : exB l (n + 1) k = t.e :: exB l n t.f := by rw [exB, ht]; dsimp only; rw [if_neg hf]
theorem exB_end {n : Nat} {k : Int} (ht : l[k.toNat]? = some t) (hf : t.f < 0) : exB l (n + 1) k = [] := by rw [exB, ht]; dsimp only; rw [if_pos hf]
end
/-- what Excuse returns where the class is one -/
def excR (m : Dm) (c : Int) (ws : List Int) : Option (List Int) × Int :=
 if 4096 < ws.length then (none, 15) else match runC m c 0 ws false with
 | none => (none, 10)
 | some _ => (excE m c (obsW m ws), 0)
def RetEx (r : Option (List Int) × Int) (w : World) (e : Ending) (w' : World) : Prop := ∃ v, e = .returned (.tuple #[v, .bool r.1.isSome, .int .i64 r.2]) ∧ w'.ownsRow w.heap.size 3 1 v (r.1.getD []).length (iv (r.1.getD [])) ∧ Below w.heap.size w w'
end Go.Proofs.Ytddhaidimadliaa
/- Walk: diagnosability.Excuse. -/
namespace Go.Proofs.Ytddhaidimadliaa
open Go.RowKit Go Go.Maps

theorem vis_info : (Try.prog.info? 133).map (fun i => (i.zero, i.size, i.bytes)) = some (some (.agg #[.int .i64 0, .int .i64 0, .int .i64 0, .int .i64 0]), 4, 32) := by kernel_rfl
theorem wpList_look_run {P : Program} {ops : Array Oper} {rest : List Oper} {o : Oper} {a : Act} {w : World} {Q : Exit → Act → World → Prop} (hw : Region.wanted o (yielded ops a.tmps) = true) (m x : Operand) (t : TypeId) (hop : o.op = Op.lookup t m x false) (mv xv v : Value) (hm : a.eval m = mv) (hx : a.eval x = xv)
  (hr : (Instr.lookup t mv xv false).run P w = .ok v w) (hK : wpList P ops Q rest (a.put o.dst v) w) : wpList P ops Q (o :: rest) a w := by
 unfold wpList
 rw [if_pos hw]
 refine .inl ?_
 unfold Oper.wp
 rw [show (execOp a.eval o).run P w = .ok (.value v) w by simp [execOp, hop, hm, hx, hr, Result.andThen]]
 exact hK
theorem zeroBl (w : World) : (zeroValue 4).run Try.prog w = .ok (.bool false) w := by kernel_rfl
theorem ExN.start {B o : Nat} {w0 w : World} {LA SA : Option Addr} {lc sc ns : Nat} {os : List Int} (hb : Below B w0 w) (hsz : B ≤ w.heap.size) (h1 : w.ownsRow B 133 4 (.slice LA 1 lc) 1 [.int .i64 0, .int .i64 0, .int .i64 (-1), .int .i64 0]) (h2 : w.ownsRow B 3 1 (.slice SA ns sc) ns (iv os))
  (hap : ∀ g, (Value.slice LA 1 lc).ownBlock = some g → (Value.slice SA ns sc).ownBlock ≠ some g) (hsn : os.length = ns) (hBo : B ≤ o) (ht : TabB Try.prog 131 w o 1 (fun p => exH [⟨0, 0, -1, 0⟩] p.1 p.2)) : ExN B o w0 w (.slice LA 1 lc) (.slice SA ns sc) 1 ns [⟨0, 0, -1, 0⟩] os :=
 ⟨⟨hb, hsz, h1, h2, hap⟩, rfl, hsn, hBo, ht⟩
section
variable {B : Nat} {w0 wd W3 : World} {SA : Option Addr} {sc ns : Nat} {os : List Int}
theorem startA (hb : Below B w0 wd) (hsz : B ≤ wd.heap.size) (h2 : wd.ownsRow B 3 1 (.slice SA ns sc) ns (iv os)) (hsn : os.length = ns) (ht : TabB Try.prog 131 W3 (wd.heap.size + 1) 1 (fun p => exH [⟨0, 0, -1, 0⟩] p.1 p.2))
  (hg : ((wd.alloc (.cells #[.int .i64 0, .int .i64 0, .int .i64 (-1), .int .i64 0] 133)).alloc (.map #[] 0)).grownBy W3 (some (wd.heap.size + 1))) : ExN B (wd.heap.size + 1) w0 W3 (.slice (some ⟨wd.heap.size, 0, none⟩) 1 1) (.slice SA ns sc) 1 ns [⟨0, 0, -1, 0⟩] os := by
 have hlt : ∀ g, (Value.slice SA ns sc).ownBlock = some g → g < wd.heap.size := fun g hg => (h2.lt g hg).2
 have hz := hg.size
 simp at hz
 refine ExN.start (((hb.alloc hsz _).alloc (by simp; omega) _).grown hg (by simp; omega) (fun j hj => by injection hj with hj; omega)) (by omega) (((own_lit4 wd B hsz _ _ _ _ 133).alloc (.map #[] 0)).kept hg (.inr (by intro e; simp [Value.ownBlock] at e))) (((h2.alloc _).alloc _).kept hg (.inr (by intro e; have := hlt _ e; omega))) (fun g h3 h4 => ?_) hsn (by omega) ht
 have := hlt g h4
 simp [Value.ownBlock] at h3
 omega
theorem startB (hb : Below B w0 wd) (hsz : B ≤ wd.heap.size) (h2 : wd.ownsRow B 3 1 (.slice SA ns sc) ns (iv os)) (hsn : os.length = ns) (ht : TabB Try.prog 131 W3 wd.heap.size 1 (fun p => exH [⟨0, 0, -1, 0⟩] p.1 p.2))
  (hg : ((wd.alloc (.map #[] 0)).alloc (.cells #[.int .i64 0, .int .i64 0, .int .i64 (-1), .int .i64 0] 133)).grownBy W3 (some wd.heap.size)) : ExN B wd.heap.size w0 W3 (.slice (some ⟨wd.heap.size + 1, 0, none⟩) 1 1) (.slice SA ns sc) 1 ns [⟨0, 0, -1, 0⟩] os := by
 have hlt : ∀ g, (Value.slice SA ns sc).ownBlock = some g → g < wd.heap.size := fun g hg => (h2.lt g hg).2
 have hz := hg.size
 simp at hz
 have h1 := own_lit4 (wd.alloc (.map #[] 0)) B (by simp; omega) (.int .i64 0) (.int .i64 0) (.int .i64 (-1)) (.int .i64 0) 133
 rw [World.size_alloc] at h1
 refine ExN.start (((hb.alloc hsz _).alloc (by simp; omega) _).grown hg (by simp; omega) (fun j hj => by injection hj with hj; omega)) (by omega) (h1.kept hg (.inr (by intro e; simp [Value.ownBlock] at e))) (((h2.alloc _).alloc _).kept hg (.inr (by intro e; have := hlt _ e; omega))) (fun g h3 h4 => ?_) hsn (by omega) ht
 have := hlt g h4
 simp [Value.ownBlock] at h3
 omega
theorem startC {W2 : World} (hb : Below B w0 wd) (hsz : B ≤ wd.heap.size) (h2 : wd.ownsRow B 3 1 (.slice SA ns sc) ns (iv os)) (hsn : os.length = ns) (ht : TabB Try.prog 131 W2 wd.heap.size 1 (fun p => exH [⟨0, 0, -1, 0⟩] p.1 p.2))
  (hg : (wd.alloc (.map #[] 0)).grownBy W2 (some wd.heap.size)) : ExN B wd.heap.size w0 (W2.alloc (.cells #[.int .i64 0, .int .i64 0, .int .i64 (-1), .int .i64 0] 133)) (.slice (some ⟨W2.heap.size, 0, none⟩) 1 1) (.slice SA ns sc) 1 ns [⟨0, 0, -1, 0⟩] os := by
 have hlt : ∀ g, (Value.slice SA ns sc).ownBlock = some g → g < wd.heap.size := fun g hg => (h2.lt g hg).2
 have hz := hg.size
 simp at hz
 have hbx := box_below W2 (.cells #[.int .i64 0, .int .i64 0, .int .i64 (-1), .int .i64 0] 133)
 refine ExN.start (((hb.alloc hsz _).grown hg (by simp; omega) (fun j hj => by injection hj with hj; omega)).trans (hbx.mono (by omega))) (by simp; omega) (own_lit4 W2 B (by omega) _ _ _ _ 133) (own_below ((h2.alloc _).kept hg (.inr (by intro e; have := hlt _ e; omega))) hbx) (fun g h3 h4 => ?_) hsn (by omega) (ht.below hbx)
 have := hlt g h4
 simp [Value.ownBlock] at h3
 omega
end
theorem exN_imp {m : Dm} {c : Int} {os : List Int} {s x : Int} {k : Nat} (h : ¬ 0 ≤ nxt m.a s x) : exN m c os s k x = none := by unfold exN; rw [if_pos (.inl (by omega))]
theorem exN_flt {m : Dm} {c : Int} {os : List Int} {s x : Int} {k : Nat} (h : m.ft x = c) : exN m c os s k x = none := by unfold exN; rw [if_pos (.inr h)]
theorem exN_hid {m : Dm} {c : Int} {os : List Int} {s x : Int} {k : Nat} (h : 0 ≤ nxt m.a s x) (hf : m.ft x ≠ c) (ho : m.ob x = false) : exN m c os s k x = some (nxt m.a s x, k) := by unfold exN; rw [if_neg (by rintro (h1 | h1); omega; exact hf h1), if_neg (by rw [ho]; simp)]
theorem exN_see {m : Dm} {c : Int} {os : List Int} {s x y : Int} {k : Nat} (hy : os[k]? = some y) (h : 0 ≤ nxt m.a s x) (hf : m.ft x ≠ c) (ho : m.ob x = true) (he : y = x) : exN m c os s k x = some (nxt m.a s x, k + 1) := by unfold exN; rw [if_neg (by rintro (h1 | h1); omega; exact hf h1), if_pos ho, if_pos (by rw [hy, he])]
theorem exN_not {m : Dm} {c : Int} {os : List Int} {s x y : Int} {k : Nat} (hy : os[k]? = some y) (ho : m.ob x = true) (he : y ≠ x) : exN m c os s k x = none := by
 unfold exN
 by_cases h : nxt m.a s x < 0 ∨ m.ft x = c
 ·rw [if_pos h]
 ·rw [if_neg h, if_pos ho, if_neg (by rw [hy]; intro e; exact he (Option.some.inj e))]
set_option maxRecDepth 100000 in
set_option maxHeartbeats 25600000 in
theorem dm_Excuse (z : DV) (c : Int) (y : IV) (w : World) (h : z.ok w w.heap.size) (hc : clsE z c = 0) (hs : z.x.a.st ≤ 40) (hy : y.ok w w.heap.size) :
  Calls Try.prog 28 #[.agg (dvc z).toArray, .int .i64 c, y.v] w (RetEx (excR z.m c y.l) w) := by
 have hw : WF z.x.a := dmE_wf (clsE_dm hc)
 have hev := dmE_al (clsE_dm hc)
 have hna : z.x.na ≤ 32 := by have h1 := hw.al_le; rw [h.x.la] at h1; exact h1
 have HRN := Lib.hid (fun (W : World) (hz : z.ok W W.heap.size) (hyy : y.ok W W.heap.size) => dm_run z 0 c y.A y.n y.c y.l W hz hw hev (by omega) (Int.le_refl 0) hyy.la hyy.ac hyy.cA hyy.ra)
 have HST := Lib.hid (fun (W : World) (hz : z.ok W W.heap.size) (s v : Int) (g0 : 0 ≤ s) => dm_step_any z s v W hz hw g0)
 have HC0 := Lib.hid (fun (W : World) (hz : z.ok W W.heap.size) => dm_classed z c 0 W hz hc)
 obtain ⟨m, hm⟩ : ∃ m, z.m = m := ⟨_, rfl⟩
 have hma : m.a = z.x.a := by rw [← hm]; rfl
 have HFT := Lib.hid (fun (j : Nat) (e : Ev) (hj : z.l[j]? = some e) => (show m.ft (j : Int) = e.fault ∧ m.ob (j : Int) = e.o by rw [← hm]; exact ⟨by simp [Dm.ft, DV.m, gI, hj], by simp [Dm.ob, DV.m, fl, hj]⟩))
 have HMW := Lib.hid (show WF m.a by rw [hma]; exact hw)
 have HEV := Lib.hid (show ∀ x ∈ m.a.al, 0 ≤ x ∧ x < (z.nv : Int) by rw [hma]; exact hev)
 have HMS := Lib.hid (show m.a.st ≤ 40 by rw [hma]; exact hs)
 have HLL := Lib.hid h.ll
 have HLA := Lib.hid (show m.a.al.length = z.x.na by rw [hma]; exact h.x.la)
 rw [hm] at HRN ⊢
 have HSTP := Lib.hid (fun (s v : Int) => (show z.x.a = m.a from hma.symm))
 clear hm hw hev hs hc
 have hnaz := hna
 obtain ⟨⟨A, na, ca, M, nm, cm, E, ne, ce, a⟩, V, nv, cv, l9⟩ := z
 obtain ⟨YA, nw, cw, ws⟩ := y
 have HYL := Lib.hid hy.la
 have hyc := hy.ac
 have hyc2 := hy.cA
 dsimp only at hma hyc hyc2 hna
 subst hma
 obtain ⟨w1, hw1⟩ : ∃ w1, w1 = w.alloc (.cells #[.slice A na ca, .int .i64 m.a.st, .slice M nm cm, .slice E ne ce, .slice V nv cv] 37) := ⟨_, rfl⟩
 have hb1 := box_below w (.cells #[.slice A na ca, .int .i64 m.a.st, .slice M nm cm, .slice E ne ce, .slice V nv cv] 37)
 have kx : Blk w1 w.heap.size 37 [.slice A na ca, .int .i64 m.a.st, .slice M nm cm, .slice E ne ce, .slice V nv cv] := by rw [hw1]; exact Blk.new _ _ [_, _, _, _, _]
 rw [← hw1] at hb1
 have HK := Lib.hid (fun (W : World) (hb : Below w1.heap.size w1 W) => Blk.c5 (kx.below hb kx.lt))
 have HOK := Lib.hid (fun (W : World) (hb : Below w1.heap.size w1 W) => (h.below (hb1.trans (hb.mono hb1.size))).more (hb1.trans (hb.mono hb1.size)).size)
 have HOY := Lib.hid (fun (W : World) (hb : Below w1.heap.size w1 W) => (hy.below (hb1.trans (hb.mono hb1.size))).more (hb1.trans (hb.mono hb1.size)).size)
 have HRE := Lib.hid (fun (W : World) (hb : Below w1.heap.size w1 W) => (h.rl.below (hb1.trans (hb.mono hb1.size))).more hb1.size)
 have HBL := Lib.hid (fun (W : World) (hb : Below w1.heap.size w1 W) => hb1.trans (hb.mono hb1.size))
 have hs1 : w.heap.size ≤ w1.heap.size := hb1.size
 clear h hy kx hb1 HSTP
 unfold dvc at HC0 HRN HST ⊢
 dsimp only [IV.v] at HC0 HRN HST HRE ⊢
 obtain ⟨sv, hsv⟩ : ∃ s, m.a.st = s := ⟨_, rfl⟩
 rw [hsv] at hw1 HK HC0 HRN HST HMS ⊢
 obtain ⟨R, hR⟩ : ∃ r, excR m c ws = r := ⟨_, rfl⟩
 rw [hR]
 have HW1 := Lib.hid hw1; clear hw1
 have HRR := Lib.hid hR; clear hR
 have HSV := Lib.hid hsv; clear hsv
 obtain ⟨a0, a1, a2, a3, a4⟩ := HK.out w1 (Below.refl _ _)
 have HC := Lib.hid (HC0.out w1 (HOK.out w1 (Below.refl _ _)))
 clear HC0
 have hmk := @run_makeMap Try.prog
 go_enter Try.func28, Try.ntmps28
 go_wp2_with fail
 rw [← HW1.out]
 refine HC.out.mono ?_
 rintro e w2 ⟨rfl, hb2⟩
 have HB2 := Lib.hid hb2
 clear a0 a1 a2 a3 a4 HC hb2
 by_cases hlong : (4096 : Int) < (nw : Int)
 case pos =>
  have HR2 := Lib.hid (show R = (none, 15) by rw [← HRR.out]; unfold excR; rw [if_pos (by have := HYL.out; omega)])
  go_wp2
  refine bodyPost_ret (v := .tuple #[.slice none 0 0, .bool false, .int .i64 15]) (by simp [results, Try.results28, go_sem]) rfl ?_
  rw [HR2.out]
  exact ⟨_, rfl, World.ownsRow_nil _ _ _ _, HBL.out _ HB2.out⟩
 obtain ⟨a0, a1, a2, a3, a4⟩ := HK.out w2 HB2.out
 have HC := Lib.hid (HRN.out w2 (HOK.out w2 HB2.out) (HOY.out w2 HB2.out))
 obtain ⟨ru, hru⟩ : ∃ r, runC m c 0 ws false = r := ⟨_, rfl⟩
 rw [hru] at HC
 have HRU := Lib.hid hru; clear hru
 go_wp2_with fail
 refine HC.out.mono ?_
 rintro e w3 ⟨t, gf, q, rfl, hq, hb3⟩
 have HB3 := Lib.hid (HB2.out.trans (hb3.mono HB2.out.size))
 have HQ := Lib.hid (HRU.out.trans hq)
 clear a0 a1 a2 a3 a4 HC hb3 hq HRU HRN
 cases q
 case false =>
  have HR2 := Lib.hid (show R = (none, 10) by rw [← HRR.out]; unfold excR; rw [if_neg (by have := HYL.out; omega), HQ.out]; rfl)
  go_wp2
  refine bodyPost_ret (v := .tuple #[.slice none 0 0, .bool false, .int .i64 10]) (by simp [results, Try.results28, go_sem]) rfl ?_
  rw [HR2.out]
  exact ⟨_, rfl, World.ownsRow_nil _ _ _ _, HBL.out _ HB3.out⟩
 have hrun : runC m c 0 ws false = some (t, gf) := HQ.out
 have HIN := Lib.hid (fun (x : Int) (hx : x ∈ ws) => HEV.out x (runC_al hrun x hx))
 have hst : 0 < m.a.st := ((runC_go HMW.out _ _ _ _ _).1 hrun).1
 have hst' : ¬ m.a.st = 0 := by omega
 have hRv : R = (exG m c (obsW m ws) (m.a.st.toNat * ((obsW m ws).length + 1) + 1) 0 [⟨0, 0, -1, 0⟩], 0) := by
  rw [← HRR.out]
  unfold excR excE
  rw [if_neg (by have := HYL.out; omega), hrun]
  dsimp only
  rw [if_neg hst']
 have HRV := Lib.hid hRv; clear hRv
 have HST0 := Lib.hid hst; clear hst
 clear hrun hst' HRR HQ
 have hs3 : w1.heap.size ≤ w3.heap.size := HB3.out.size
 go_upto_region 10 with fail
 go_wp2_with fail
 go_loopw [13, 15, 46] (fun s13 s15 s46 wr => ∃ (k n : Nat) (v13 v15 : Value), v13 = s13 ∧ s15 = v15 ∧ s46 = .int .i64 k ∧ k ≤ nw ∧ n ≤ k ∧ Hid (n = (obsW m (ws.take k)).length) ∧ Hid (wr.ownsRow w3.heap.size 3 1 v13 n (iv (obsW m (ws.take k)))) ∧ Hid (Below w3.heap.size w3 wr)) (fun _ _ s46 _ => nw - (intOf s46).toNat)
 case atStart => exact ⟨0, 0, _, _, rfl, rfl, rfl, Nat.zero_le _, Nat.zero_le _, Lib.hid rfl, Lib.hid (World.ownsRow_nil _ _ _ _), Lib.hid (Below.refl _ _)⟩
 case round =>
  obtain ⟨k, n, v13, v15, rfl, rfl, rfl, hk, hnk, HNL, HO, HB⟩ := hrel
  have hB1 := HB3.out.trans (HB.out.mono hs3)
  obtain ⟨a0, a1, a2, a3, a4⟩ := HK.out wr hB1
  by_cases hlt : k < nw
  ·obtain ⟨x, hx⟩ : ∃ x, ws[k]? = some x := ⟨_, List.getElem?_eq_getElem (by have := HYL.out; omega)⟩
   obtain ⟨ad, rfl, hab, hcx⟩ := (HOY.out wr hB1).ra k (.int .i64 x) (by simp [iv, hx])
   have b1 : (k : Int) < (nw : Int) := by omega
   have hxr := HIN.out x (List.mem_of_getElem? hx)
   obtain ⟨j, rfl⟩ : ∃ j : Nat, x = (j : Int) := ⟨x.toNat, by omega⟩
   obtain ⟨ev, e, rfl, hvb, hje, hes, q0, q1, q2, q3, q4⟩ := (HRE.out wr hB1).at_ (k := j) (by have h9 := HLL.out; omega)
   have p2' := ev_cells (j := 1) q2
   have b2 : (j : Int) < (nv : Int) := by omega
   obtain ⟨f1, f2⟩ := HFT.out j e hje
   have HOS := Lib.hid (obsW_snoc (m := m) hx)
   rw [f2] at HOS
   have hsz := HB.out.size
   obtain ⟨ob, hob⟩ : ∃ b, e.o = b := ⟨_, rfl⟩
   rw [hob] at HOS p2'
   clear hob hje hes hvb q0 q1 q2 q3 q4 hx f1 f2 hab hB1
   cases ob with
   | true =>
    go_wp2_with (first | (at_builtin; refine wpList_push wr (.int .i64 (j : Int)) rfl (.tmp 56) (.tmp 58) 31 rfl w3.heap.size 3 (.int .i64 0) 8 Try.underlying31 int_info rfl _ n _ rfl HO.out rfl rfl (by omega) (by omega) hsz ?_; intro v' w' ho' hg' hb1) | fail)
    go_roundw
    case rel => exact ⟨k + 1, n + 1, _, _, rfl, rfl, by go_num, by omega, by omega, Lib.hid (by rw [HOS.out, List.length_append, HNL.out]; rfl), Lib.hid (by rw [HOS.out, iv_append]; exact ho'), Lib.hid (HB.out.trans hb1)⟩
    case measure => simp [intOf]; omega
   | false =>
    go_wp2
    go_roundw
    case rel => exact ⟨k + 1, n, _, _, rfl, rfl, by go_num, by omega, by omega, Lib.hid (by rw [HOS.out, HNL.out]; simp), Lib.hid (by rw [HOS.out]; simpa using HO.out), HB⟩
    case measure => simp [intOf]; omega
  ·obtain rfl : k = nw := by omega
   have b1 : ¬ (k : Int) < (k : Int) := by omega
   have hta : ws.take k = ws := List.take_of_length_le (by have := HYL.out; rw [this]; exact Nat.le_refl _)
   rw [hta] at HO HNL
   have hO := HO.out
   rw [HNL.out] at hO
   obtain ⟨SA, sc, rfl, pa1, pb1, rds⟩ := own_slI hO
   obtain ⟨os, hos⟩ : ∃ s, obsW m ws = s := ⟨_, rfl⟩
   rw [hos] at hO rds HRV HNL pa1 ⊢
   obtain ⟨ns, hns⟩ : ∃ s, os.length = s := ⟨_, rfl⟩
   rw [hns] at hO HRV HNL pa1 ⊢
   have hns9 : ns ≤ 4096 := by have := HNL.out; omega
   have HSO := Lib.hid hO
   have HNS := Lib.hid hns; clear hns
   clear HO hO hta rds hos a0 a1 a2 a3 a4
   obtain ⟨G, hG⟩ : ∃ g, m.a.st.toNat * (ns + 1) = g := ⟨_, rfl⟩
   have hG9 : G ≤ 163880 := by
    rw [← hG]
    have h1 : m.a.st.toNat ≤ 40 := by have := HMS.out; have := HSV.out; omega
    calc m.a.st.toNat * (ns + 1) ≤ 40 * 4097 := Nat.mul_le_mul h1 (by omega)
     _ = 163880 := rfl
   rw [hG] at HRV
   have HG := Lib.hid hG; clear hG
   go_upto_region 16 with fail
   go_cut [16, 17] from 61 (fun s16 s17 wx => ∃ (LA : Option Addr) (lc o : Nat), s16 = .slice LA 1 lc ∧ s17 = .map (some o) ∧ Hid (ExN w3.heap.size o w3 wx (.slice LA 1 lc) (.slice SA ns sc) 1 ns [⟨0, 0, -1, 0⟩] os))
   case first =>
    refine wp_region_U (fun _ => True) (fun _ => True) 4 (by kernel_rfl) ?_
    change anyU _ _ _ _ _ _ _ 8 _ _ _
    have hA0 : True := trivial
    have hB0 : True := trivial
    have hbd := HB.out.drew
    have hod : wr.drew.ownsRow w3.heap.size 3 1 (.slice SA ns sc) ns (iv os) := own_below HSO.out (below_dr wr)
    generalize wr.drew = wd at hbd hod ⊢
    have HBD := Lib.hid hbd
    have HOD := Lib.hid hod
    have hsd := hbd.size
    have hky := plKey w (0, 0) (by decide) (by decide)
    have hg1 : exH [⟨0, 0, -1, 0⟩] (0, 0).1 (0, 0).2 = true := rfl
    have hg2 : ∀ d : Int × Nat, d ≠ (0, 0) → exH [⟨0, 0, -1, 0⟩] d.1 d.2 = false := fun d hd => by
     unfold exH
     rw [List.any_cons, List.any_nil, Bool.or_false]
     cases hx : ((⟨0, 0, -1, 0⟩ : Vst).s == d.1 && (⟨0, 0, -1, 0⟩ : Vst).k == d.2) with
     | false => rfl
     | true =>
      rw [Bool.and_eq_true, beq_iff_eq, beq_iff_eq] at hx
      exact absurd (Prod.ext hx.1.symm hx.2.symm) hd
    clear hbd hod
    (refine uA 0 ?_ rfl hA0 hB0 (fun W hA => ?_) ?_; rotate_left; (· (go_simp; try with_reducible rfl)); refine uA 3 ?_ rfl hA0 hB0 (fun W hA => ?_) ?_; rotate_left; (· (go_simp; try with_reducible rfl)); (try simp only [Act.put, List.setIfInBounds_toArray, List.set_cons_zero, List.set_cons_succ]))
    refine uTwo (i := 1) (j := 2) rfl rfl (by kernel_rfl) (fun K hK => ?_) (fun K hK => ?_)
    ·have hT := TabB.made (wd.alloc (.cells #[.int .i64 0, .int .i64 0, .int .i64 (-1), .int .i64 0] 133)) Try.prog 131
     rw [World.size_alloc] at hT
     obtain ⟨W3, hput, hT3, hg3⟩ := hT.put (t := 135) plLaw Try.underlying135 (by omega) (0, 0) hky (fun p => exH [⟨0, 0, -1, 0⟩] p.1 p.2) hg1 hg2
     have hput' : (Instr.mapUpdate 135 (.map (some (wd.heap.size + 1))) (.agg #[.int .i64 0, .int .i64 0]) (.bool true)).run Try.prog ((wd.alloc (.cells #[.int .i64 0, .int .i64 0, .int .i64 (-1), .int .i64 0] 133)).alloc (.map #[] 0)) = .ok () W3 := hput
     have HE := Lib.hid (startA HBD.out hsd HOD.out HNS.out hT3 hg3)
     clear hput hT hT3 hg3
     go_simp
     (refine hK _ _ ⟨hA0, fun _ => hB0⟩ ?_; clear hK K; (try simp only [Act.put, List.setIfInBounds_toArray, List.set_cons_zero, List.set_cons_succ]))
     (refine uA 6 ?_ rfl hA0 hB0 (fun W hA => ?_) ?_; rotate_left; (· (go_simp; try with_reducible rfl)); (try simp only [Act.put, List.setIfInBounds_toArray, List.set_cons_zero, List.set_cons_succ]))
     refine uOne (i := 2) rfl (by kernel_rfl) (fun K hK => ?_)
     go_simp
     (refine hK _ _ ⟨hA0, fun _ => hB0⟩ ?_; clear hK K; (try simp only [Act.put, List.setIfInBounds_toArray, List.set_cons_zero, List.set_cons_succ]))
     refine uOne (i := 4) rfl (by kernel_rfl) (fun K hK => ?_)
     go_simp
     (refine hK _ _ ⟨hA0, fun _ => hB0⟩ ?_; clear hK K; (try simp only [Act.put, List.setIfInBounds_toArray, List.set_cons_zero, List.set_cons_succ]))
     (refine uA 5 ?_ rfl hA0 hB0 (fun W hA => ?_) ?_; rotate_left; (· (go_simp; try with_reducible rfl)); refine uA 7 ?_ rfl hA0 hB0 (fun W hA => ?_) ?_; rotate_left; (· (go_simp; try with_reducible rfl)); (try simp only [Act.put, List.setIfInBounds_toArray, List.set_cons_zero, List.set_cons_succ]))
     refine anyU_done (by kernel_rfl) ?_ _
     go_wp2_with fail
     go_meet
     case rel => exact ⟨_, _, _, rfl, rfl, HE⟩
    ·have hT := TabB.made wd Try.prog 131
     go_simp
     (refine hK _ _ ⟨hA0, fun _ => hB0⟩ ?_; clear hK K; (try simp only [Act.put, List.setIfInBounds_toArray, List.set_cons_zero, List.set_cons_succ]))
     refine uTwo (i := 1) (j := 4) rfl rfl (by kernel_rfl) (fun K hK => ?_) (fun K hK => ?_)
     ·obtain ⟨W3, hput, hT3, hg3⟩ := (hT.below (box_below _ (.cells #[.int .i64 0, .int .i64 0, .int .i64 (-1), .int .i64 0] 133))).put (t := 135) plLaw Try.underlying135 (by omega) (0, 0) hky (fun p => exH [⟨0, 0, -1, 0⟩] p.1 p.2) hg1 hg2
      have hput' : (Instr.mapUpdate 135 (.map (some wd.heap.size)) (.agg #[.int .i64 0, .int .i64 0]) (.bool true)).run Try.prog ((wd.alloc (.map #[] 0)).alloc (.cells #[.int .i64 0, .int .i64 0, .int .i64 (-1), .int .i64 0] 133)) = .ok () W3 := hput
      have HE := Lib.hid (startB HBD.out hsd HOD.out HNS.out hT3 hg3)
      clear hput hT hT3 hg3
      go_simp
      (refine hK _ _ ⟨hA0, fun _ => hB0⟩ ?_; clear hK K; (try simp only [Act.put, List.setIfInBounds_toArray, List.set_cons_zero, List.set_cons_succ]))
      (refine uA 6 ?_ rfl hA0 hB0 (fun W hA => ?_) ?_; rotate_left; (· (go_simp; try with_reducible rfl)); (try simp only [Act.put, List.setIfInBounds_toArray, List.set_cons_zero, List.set_cons_succ]))
      refine uOne (i := 4) rfl (by kernel_rfl) (fun K hK => ?_)
      go_simp
      (refine hK _ _ ⟨hA0, fun _ => hB0⟩ ?_; clear hK K; (try simp only [Act.put, List.setIfInBounds_toArray, List.set_cons_zero, List.set_cons_succ]))
      (refine uA 5 ?_ rfl hA0 hB0 (fun W hA => ?_) ?_; rotate_left; (· (go_simp; try with_reducible rfl)); refine uA 7 ?_ rfl hA0 hB0 (fun W hA => ?_) ?_; rotate_left; (· (go_simp; try with_reducible rfl)); (try simp only [Act.put, List.setIfInBounds_toArray, List.set_cons_zero, List.set_cons_succ]))
      refine anyU_done (by kernel_rfl) ?_ _
      go_wp2_with fail
      go_meet
      case rel => exact ⟨_, _, _, rfl, rfl, HE⟩
     ·obtain ⟨W3, hput, hT3, hg3⟩ := hT.put (t := 135) plLaw Try.underlying135 (by omega) (0, 0) hky (fun p => exH [⟨0, 0, -1, 0⟩] p.1 p.2) hg1 hg2
      have hput' : (Instr.mapUpdate 135 (.map (some wd.heap.size)) (.agg #[.int .i64 0, .int .i64 0]) (.bool true)).run Try.prog (wd.alloc (.map #[] 0)) = .ok () W3 := hput
      have HE := Lib.hid (startC HBD.out hsd HOD.out HNS.out hT3 hg3)
      clear hput hT hT3 hg3
      go_simp
      (refine hK _ _ ⟨hA0, fun _ => hB0⟩ ?_; clear hK K; (try simp only [Act.put, List.setIfInBounds_toArray, List.set_cons_zero, List.set_cons_succ]))
      (refine uA 5 ?_ rfl hA0 hB0 (fun W hA => ?_) ?_; rotate_left; (· (go_simp; try with_reducible rfl)); (try simp only [Act.put, List.setIfInBounds_toArray, List.set_cons_zero, List.set_cons_succ]))
      refine uOne (i := 1) rfl (by kernel_rfl) (fun K hK => ?_)
      go_simp
      (refine hK _ _ ⟨hA0, fun _ => hB0⟩ ?_; clear hK K; (try simp only [Act.put, List.setIfInBounds_toArray, List.set_cons_zero, List.set_cons_succ]))
      (refine uA 6 ?_ rfl hA0 hB0 (fun W hA => ?_) ?_; rotate_left; (· (go_simp; try with_reducible rfl)); refine uA 7 ?_ rfl hA0 hB0 (fun W hA => ?_) ?_; rotate_left; (· (go_simp; try with_reducible rfl)); (try simp only [Act.put, List.setIfInBounds_toArray, List.set_cons_zero, List.set_cons_succ]))
      refine anyU_done (by kernel_rfl) ?_ _
      go_wp2_with fail
      go_meet
      case rel => exact ⟨_, _, _, rfl, rfl, HE⟩
   case rest =>
    obtain ⟨LA, lc, o, rfl, rfl, HEX⟩ := hcut
    clear HSO HB HNL
    have HRR := Lib.hid (show R.1 = exG m c os (G + 1 - 0) 0 [⟨0, 0, -1, 0⟩] ∧ R.2 = 0 by rw [HRV.out]; exact ⟨rfl, rfl⟩)
    have HXI := Lib.hid (show ExI m c os [⟨0, 0, -1, 0⟩] from ⟨rfl, fun k t hk ht => by
     have := (List.getElem?_eq_some_iff.1 ht).1
     simp at this
     omega, fun t ht => by rw [List.mem_singleton.1 ht]; exact Nat.zero_le _⟩)
    have HXD := Lib.hid (show ExD m os [⟨0, 0, -1, 0⟩] from ⟨by simp, fun t ht => by rw [List.mem_singleton.1 ht]; exact ⟨⟨Int.le_refl 0, HST0.out⟩, Nat.zero_le _⟩⟩)
    clear HRV
    go_upto_region 18 with fail
    go_loopw [6, 7, 8, 16, 18, 19, 21, 22, 23, 24] (fun s6 s7 s8 s16 s18 s19 s21 s22 s23 s24 wr => ∃ (i nl : Nat) (LA : Option Addr) (lc : Nat) (v7 v8 v19 v21 v22 v23 v24 : Value) (l : List Vst), s6 = .slice none 0 0 ∧ s7 = v7 ∧ s8 = v8 ∧ s16 = .slice LA nl lc ∧ s18 = .int .i64 i ∧ s19 = v19 ∧ s21 = v21 ∧ s22 = v22 ∧ s23 = v23 ∧ s24 = v24 ∧ i ≤ nl ∧ nl ≤ G ∧ Hid (ExN w3.heap.size o w3 wr (.slice LA nl lc) (.slice SA ns sc) nl ns l os) ∧ Hid (ExI m c os l) ∧ Hid (ExD m os l) ∧ Hid (R.1 = exG m c os (G + 1 - i) i l ∧ R.2 = 0)) (fun _ _ _ _ s18 _ _ _ _ _ _ => G + 1 - (intOf s18).toNat)
    case atStart => exact ⟨0, 1, _, _, _, _, _, _, _, _, _, _, rfl, rfl, rfl, rfl, rfl, rfl, rfl, rfl, rfl, rfl, by omega, by have h9 := HXD.out.len; rw [HNS.out, HG.out] at h9; exact h9, HEX, HXI, HXD, HRR⟩
    case round =>
     clear HEX HXI HXD HRR
     obtain ⟨i, nl, LA, lc, v7, v8, v19, v21, v22, v23, v24, l, rfl, rfl, rfl, rfl, rfl, rfl, rfl, rfl, rfl, rfl, hi, hnl, HEX, HXI, HXD, HRR⟩ := hrel
     by_cases hlt : i < nl
     case neg =>
      obtain rfl : i = nl := by omega
      have b1 : ¬ (i : Int) < (i : Int) := by omega
      have HR2 := Lib.hid (show R = (none, 0) from Prod.ext (by rw [HRR.out.1]; exact exG_end (by rw [List.getElem?_eq_none]; rw [HEX.out.ln]; exact Nat.le_refl _)) HRR.out.2)
      have HF := Lib.hid (HBL.out _ (HB3.out.trans (HEX.out.bel.mono hs3)))
      go_wp2
      refine bodyPost_ret (v := .tuple #[.slice none 0 0, .bool false, .int .i64 0]) (by simp [results, Try.results28, go_sem]) rfl ?_
      rw [HR2.out]
      exact ⟨_, rfl, World.ownsRow_nil _ _ _ _, HF.out⟩
     have b1 : (i : Int) < (nl : Int) := by omega
     obtain ⟨ad, tt, rfl, hab, htt, hcl⟩ := (RdR.of_own (f := vsc) (by omega) (fun _ _ => rfl) HEX.out.two.o1).get (k := i) (by rw [HEX.out.ln]; exact hlt)
     have htr := HXD.out.rng tt (List.mem_of_getElem? htt)
     have htn : tt.k ≤ ns := by rw [← HNS.out]; exact htr.2
     have htt0 : 0 ≤ tt.s := htr.1.1
     have HTT := Lib.hid htt
     have c0 : wr.cell? (ad.add (i * 4)) = some (.int .i64 tt.s) := hcl 0 _ rfl
     have c1 : wr.cell? ⟨(ad.add (i * 4)).block, (ad.add (i * 4)).off + 1, none⟩ = some (.int .i64 (tt.k : Int)) := ev_cells (j := 0) (hcl 1 _ rfl)
     obtain ⟨tk, htk⟩ : ∃ k, tt.k = k := ⟨_, rfl⟩
     obtain ⟨ts, hts⟩ : ∃ k, tt.s = k := ⟨_, rfl⟩
     rw [htk] at c1 htn
     rw [hts] at c0 htt0
     have HTK := Lib.hid htk
     have HTS := Lib.hid hts
     clear hcl htt htr
     by_cases hkn : tk = ns
     case pos =>
      have HRX := Lib.hid (show R = (some (exB l l.length i).reverse, 0) from Prod.ext (by rw [HRR.out.1, show G + 1 - i = (G - i) + 1 by omega]; exact exG_hit HTT.out (by rw [HTK.out, hkn, HNS.out])) HRR.out.2)
      have b2 : ((tk : Int) == (ns : Int)) = true := by rw [hkn]; exact beq_self_eq_true _
      obtain ⟨X, hX⟩ : ∃ x, exB l l.length i = x := ⟨_, rfl⟩
      rw [hX] at HRX
      have HX0 := Lib.hid (show ([] : List Int) ++ exB l nl (i : Nat) = X by rw [← HEX.out.ln]; exact hX)
      obtain ⟨wo, rfl⟩ : ∃ wo : World, wo = wr := ⟨_, rfl⟩
      clear hX
      go_upto_region 22 with fail
      clear c0 c1
      go_loopw [6, 19] (fun s6 s19 wr => ∃ (k n g : Nat) (v6 : Value) (acc : List Int), v6 = s6 ∧ s19 = .int .i64 k ∧ k < nl ∧ n + k ≤ i ∧ k < g ∧ Hid (acc.length = n) ∧ Hid (wr.ownsRow wo.heap.size 3 1 v6 n (iv acc)) ∧ Hid (Below wo.heap.size wo wr) ∧ Hid (acc ++ exB l g k = X)) (fun _ s19 _ => (intOf s19).toNat)
      case atStart => exact ⟨i, 0, nl, _, [], rfl, rfl, hlt, by omega, hlt, Lib.hid rfl, Lib.hid (World.ownsRow_nil _ _ _ _), Lib.hid (Below.refl _ _), HX0⟩
      case round =>
       clear HX0
       obtain ⟨k, n, g, v6, acc, rfl, rfl, hk, hnk, hkg, HAL, HAO, HAB, HAX⟩ := hrel
       have b3 : (k : Int) < (nl : Int) := by omega
       obtain ⟨ad', u, hae, hab', hu, hcl⟩ := ((RdR.of_own (f := vsc) (by omega) (fun _ _ => rfl) HEX.out.two.o1).keep (fun p hp => HAB.out.cell hp)).get (k := k) (by rw [HEX.out.ln]; exact hk)
       obtain rfl : ad = ad' := by injection hae
       have d2 : wr.cell? ⟨(ad.add (k * 4)).block, (ad.add (k * 4)).off + 2, none⟩ = some (.int .i64 u.f) := ev_cells (j := 1) (hcl 2 _ rfl)
       have d3 : wr.cell? ⟨(ad.add (k * 4)).block, (ad.add (k * 4)).off + 3, none⟩ = some (.int .i64 u.e) := ev_cells (j := 2) (hcl 3 _ rfl)
       obtain ⟨uf, huf⟩ : ∃ z, u.f = z := ⟨_, rfl⟩
       obtain ⟨ue, hue⟩ : ∃ z, u.e = z := ⟨_, rfl⟩
       rw [huf] at d2
       rw [hue] at d3
       obtain ⟨g', rfl⟩ : ∃ g', g = g' + 1 := ⟨g - 1, by omega⟩
       have hsz := HAB.out.size
       by_cases hf : 0 ≤ uf
       ·obtain ⟨k', hk'⟩ : ∃ k' : Nat, uf = (k' : Int) := ⟨uf.toNat, by omega⟩
        subst hk'
        have h0k : 0 < k := by
         rcases Nat.eq_zero_or_pos k with h0 | h0
         ·subst h0
          have := HXI.out.head
          rw [hu] at this
          injection this with this
          rw [this] at huf
          simp at huf
         ·exact h0
        obtain ⟨uu, g1, g2, g3, _⟩ := HXI.out.par k u h0k hu
        rw [huf] at g2
        simp only [Int.toNat_natCast] at g2
        have HAX2 := Lib.hid (show (acc ++ [ue]) ++ exB l g' k' = X by
         rw [← HAX.out, exB_go (t := u) (by simpa using hu) (by rw [huf]; omega), hue, huf]
         simp)
        clear hu huf hue g1 g3 hcl hae
        go_wp2_with (first | (at_builtin; refine wpList_push wr (.int .i64 ue) rfl (.tmp 93) (.tmp 99) 31 rfl wo.heap.size 3 (.int .i64 0) 8 Try.underlying31 int_info rfl _ n _ rfl HAO.out rfl rfl (by omega) (by omega) hsz ?_; intro v' w' ho' hg' hb1; have d2' := (hb1.cell (p := ⟨(ad.add (k * 4)).block, (ad.add (k * 4)).off + 2, none⟩) (by rw [block_of_add]; exact hab')).trans d2) | fail)
        go_roundw
        case rel => exact ⟨k', n + 1, g', _, acc ++ [ue], rfl, rfl, by omega, by omega, by omega, Lib.hid (by rw [List.length_append, HAL.out]; rfl), Lib.hid (by rw [iv_append]; exact ho'), Lib.hid (HAB.out.trans hb1), HAX2⟩
        case measure => simp [intOf]; omega
       ·have HAX2 := Lib.hid (show acc = X by
         rw [← HAX.out, exB_end (t := u) (by simpa using hu) (by rw [huf]; omega)]
         simp)
        have b4 : ¬ (0 : Int) ≤ uf := hf
        have HRV := Lib.hid (reverse_own wo.heap.size n v6 acc wr HAO.out HAL.out (by omega))
        clear hu huf hue hcl hae
        go_wp2_with fail
        refine HRV.out.mono ?_
        rintro e w8 ⟨rfl, hor, hgr⟩
        have hB0 := HEX.out.bel
        have hwo : w3.heap.size ≤ wo.heap.size := HEX.out.two.siz
        have HB8 := Lib.hid (HAB.out.grown hgr hsz (fun j hj => (HAO.out.lt j hj).1))
        have HF := Lib.hid (HBL.out _ (HB3.out.trans ((hB0.trans (HB8.out.mono hwo)).mono hs3)))
        have HOR := Lib.hid (show w8.ownsRow w.heap.size 3 1 v6 X.reverse.length (iv X.reverse) by
         rw [← HAX2.out, List.length_reverse, HAL.out]
         exact own_base hor (by omega))
        clear hB0 hor hgr
        go_wp2
        refine bodyPost_ret (v := .tuple #[v6, .bool true, .int .i64 0]) (by simp [results, Try.results28, go_sem]) rfl ?_
        rw [HRX.out]
        exact ⟨_, rfl, HOR.out, HF.out⟩
     have hkl : tk < ns := by omega
     have b2 : ((tk : Int) == (ns : Int)) = false := beq_eq_false_iff_ne.2 (by omega)
     have HRX := Lib.hid (show R.1 = exG m c os (G - i) (i + 1) (exX m c os i tt (m.a.al.drop 0) l) ∧ R.2 = 0 from ⟨by rw [HRR.out.1, show G + 1 - i = (G - i) + 1 by omega]; exact exG_round HTT.out (by rw [HTK.out, HNS.out]; exact hkn), HRR.out.2⟩)
     obtain ⟨yk, hyk⟩ : ∃ x, os[tk]? = some x := ⟨_, List.getElem?_eq_getElem (by rw [HNS.out]; exact hkl)⟩
     have HYK := Lib.hid hyk
     have hbw := HB3.out.trans (HEX.out.bel.mono hs3)
     obtain ⟨a0, a1, a2, a3, a4⟩ := HK.out wr hbw
     clear hyk hbw HRR
     go_upto_region 28 with fail
     clear c0 c1 a0 a1 a2 a3 a4
     go_loopw [16, 21, 22, 23, 24, 108] (fun s16 s21 s22 s23 s24 s108 wr => ∃ (j nl : Nat) (LA : Option Addr) (lc : Nat) (v21 v22 v23 v24 : Value) (l : List Vst), s16 = .slice LA nl lc ∧ s21 = v21 ∧ s22 = v22 ∧ s23 = v23 ∧ s24 = v24 ∧ s108 = .int .i64 j ∧ j ≤ na ∧ i + 1 ≤ nl ∧ nl ≤ G ∧ Hid (ExN w3.heap.size o w3 wr (.slice LA nl lc) (.slice SA ns sc) nl ns l os) ∧ Hid (ExI m c os l) ∧ Hid (ExD m os l) ∧ Hid (l[i]? = some tt) ∧ Hid (R.1 = exG m c os (G - i) (i + 1) (exX m c os i tt (m.a.al.drop j) l) ∧ R.2 = 0)) (fun _ _ _ _ _ s108 _ => na - (intOf s108).toNat)
     case atStart => exact ⟨0, nl, _, _, _, _, _, _, l, rfl, rfl, rfl, rfl, rfl, rfl, by omega, by omega, hnl, HEX, HXI, HXD, HTT, HRX⟩
     case round =>
      clear HEX HXI HXD HTT HRX hab hnl hlt hi b1
      obtain ⟨j, nl, LA, lc, v21, v22, v23, v24, l, rfl, rfl, rfl, rfl, rfl, rfl, hj, hil, hnl, HEX, HXI, HXD, HTT, HRX⟩ := hrel
      by_cases hja : j < na
      case neg =>
       obtain rfl : j = na := by omega
       have b3 : ¬ (j : Int) < (j : Int) := by omega
       have HR9 := Lib.hid (show R.1 = exG m c os (G + 1 - (i + 1)) (i + 1) l ∧ R.2 = 0 from ⟨by
        rw [HRX.out.1, List.drop_of_length_le (by have := HLA.out; omega), show G + 1 - (i + 1) = G - i by omega]; rfl, HRX.out.2⟩)
       go_wp2
       go_roundw
       case rel => exact ⟨i + 1, nl, _, _, _, _, _, _, _, _, _, l, rfl, rfl, rfl, rfl, by go_num, rfl, rfl, rfl, rfl, rfl, by omega, hnl, HEX, HXI, HXD, HR9⟩
       case measure => simp [intOf]; omega
      have b3 : (j : Int) < (na : Int) := by omega
      have b1 : (i : Int) < (nl : Int) := by omega
      obtain ⟨x, hx⟩ : ∃ x, m.a.al[j]? = some x := ⟨_, List.getElem?_eq_getElem (by have := HLA.out; omega)⟩
      have hbw := HB3.out.trans (HEX.out.bel.mono hs3)
      obtain ⟨aa, rfl, haa, hca⟩ := (HOK.out wr hbw).x.ra j (.int .i64 x) (by simp [iv, hx])
      have hxr := HEV.out x (List.mem_of_getElem? hx)
      have HXM := Lib.hid (List.mem_of_getElem? hx)
      have HRY := Lib.hid (show R.1 = exG m c os (G - i) (i + 1) (exX m c os i tt (x :: m.a.al.drop (j + 1)) l) ∧ R.2 = 0 from ⟨by rw [← drop_cons' hx]; exact HRX.out.1, HRX.out.2⟩)
      obtain ⟨ad, tt', rfl, hab, htt', hcl⟩ := (RdR.of_own (f := vsc) (by omega) (fun _ _ => rfl) HEX.out.two.o1).get (k := i) (by rw [HEX.out.ln]; omega)
      obtain rfl : tt' = tt := by have := HTT.out; rw [htt'] at this; exact Option.some.inj this
      obtain ⟨jx, rfl⟩ : ∃ j : Nat, x = (j : Int) := ⟨x.toNat, by omega⟩
      have b4 : (jx : Int) < (nv : Int) := hxr.2
      clear hx HRX htt'
      go_upto_region 30 with fail
      have HCV := Lib.hid (fun (W : World) (hW : Below wr.heap.size wr W) => (show W.cell? (ad.add (i * 4)) = some (.int .i64 ts) ∧ W.cell? ⟨(ad.add (i * 4)).block, (ad.add (i * 4)).off + 1, none⟩ = some (.int .i64 (tk : Int)) from
       ⟨(hW.cell (by rw [block_of_add]; exact hab)).trans (by rw [← HTS.out]; exact hcl 0 _ rfl), ev_cells (j := 0) ((hW.cell (by rw [block_of_add]; exact hab)).trans (by rw [← HTK.out]; exact hcl 1 _ rfl))⟩))
      have HKW := Lib.hid (fun (W : World) (hW : Below wr.heap.size wr W) => HK.out W (HB3.out.trans ((HEX.out.bel.trans (hW.mono HEX.out.two.siz)).mono hs3)))
      have HOW := Lib.hid (fun (W : World) (hW : Below wr.heap.size wr W) => HOK.out W (HB3.out.trans ((HEX.out.bel.trans (hW.mono HEX.out.two.siz)).mono hs3)))
      have HRW := Lib.hid (fun (W : World) (hW : Below wr.heap.size wr W) => HRE.out W (HB3.out.trans ((HEX.out.bel.trans (hW.mono HEX.out.two.siz)).mono hs3)))
      clear hcl hca haa hbw
      refine wp_region_U (fun W => (W.cell? ⟨w.heap.size, 0, none⟩ = some (.slice (some aa) na ca) ∧ W.cell? ⟨w.heap.size, 1, none⟩ = some (.int .i64 sv) ∧ W.cell? ⟨w.heap.size, 2, none⟩ = some (.slice M nm cm) ∧ W.cell? ⟨w.heap.size, 3, none⟩ = some (.slice E ne ce) ∧ W.cell? ⟨w.heap.size, 4, none⟩ = some (.slice V nv cv)) ∧ W.cell? (ad.add (i * 4)) = some (.int .i64 ts)) (fun _ => True) 8 (by kernel_rfl) ?_
      change anyU _ _ _ _ _ _ _ 14 _ _ _
      have hB0 : True := trivial
      have HAW := Lib.hid (fun (W : World) (hW : Below wr.heap.size wr W) => (show (W.cell? ⟨w.heap.size, 0, none⟩ = some (.slice (some aa) na ca) ∧ W.cell? ⟨w.heap.size, 1, none⟩ = some (.int .i64 sv) ∧ W.cell? ⟨w.heap.size, 2, none⟩ = some (.slice M nm cm) ∧ W.cell? ⟨w.heap.size, 3, none⟩ = some (.slice E ne ce) ∧ W.cell? ⟨w.heap.size, 4, none⟩ = some (.slice V nv cv)) ∧ W.cell? (ad.add (i * 4)) = some (.int .i64 ts) from ⟨HKW.out W hW, (HCV.out W hW).1⟩))
      have HBD := Lib.hid (below_dr wr)
      generalize wr.drew = wd at HBD ⊢
      have hA0 := HAW.out wd HBD.out
      (refine uA 0 ?_ rfl hA0 hB0 (fun W hA => ?_) ?_; rotate_left; (· (obtain ⟨⟨a0, a1, a2, a3, a4⟩, _⟩ := hA; go_simp; try with_reducible rfl)); (try simp only [Act.put, List.setIfInBounds_toArray, List.set_cons_zero, List.set_cons_succ]))
      (refine uA 1 ?_ rfl hA0 hB0 (fun W hA => ?_) ?_; rotate_left; (· (go_simp; try with_reducible rfl)); refine uA 2 ?_ rfl hA0 hB0 (fun W hA => ?_) ?_; rotate_left; (· (go_simp; try with_reducible rfl)); refine uA 3 ?_ rfl hA0 hB0 (fun W hA => ?_) ?_; rotate_left; (· (go_simp; try with_reducible rfl)); refine uA 4 ?_ rfl hA0 hB0 (fun W hA => ?_) ?_; rotate_left; (· (go_simp; try with_reducible rfl)); refine uA 5 ?_ rfl hA0 hB0 (fun W hA => ?_) ?_; rotate_left; (· (go_simp; try with_reducible rfl)); (try simp only [Act.put, List.setIfInBounds_toArray, List.set_cons_zero, List.set_cons_succ]))
      (refine uA 6 ?_ rfl hA0 hB0 (fun W hA => ?_) ?_; rotate_left; (· (obtain ⟨_, c0⟩ := hA; go_simp; try with_reducible rfl)); (try simp only [Act.put, List.setIfInBounds_toArray, List.set_cons_zero, List.set_cons_succ]))
      (refine uA 7 ?_ rfl hA0 hB0 (fun W hA => ?_) ?_; rotate_left; (· (go_simp; try with_reducible rfl)); (try simp only [Act.put, List.setIfInBounds_toArray, List.set_cons_zero, List.set_cons_succ]))
      obtain ⟨t9, ht9⟩ : ∃ z, stpV m.a ts (jx : Int) = z := ⟨_, rfl⟩
      obtain ⟨pq, hpq⟩ : ∃ z, decide (0 ≤ nxt m.a ts (jx : Int)) = z := ⟨_, rfl⟩
      have HC := Lib.hid (HST.out wd (HOW.out wd HBD.out) ts (jx : Int) htt0)
      rw [ht9, hpq] at HC
      clear hA0
      refine uOne (i := 8) rfl (by kernel_rfl) (fun K hK => ?_)
      go_simp
      go_at_call 73
      refine HC.out.mono ?_
      rintro _ w7 ⟨rfl, hb7⟩
      have HB7 := Lib.hid (HBD.out.trans (hb7.mono HBD.out.size))
      have hA0 := HAW.out w7 HB7.out
      go_simp
      (refine hK _ _ ⟨hA0, fun _ => hB0⟩ ?_; clear hK K; (try simp only [Act.put, List.setIfInBounds_toArray, List.set_cons_zero, List.set_cons_succ]))
      (refine uA 9 ?_ rfl hA0 hB0 (fun W hA => ?_) ?_; rotate_left; (· (go_simp; try with_reducible rfl)); refine uA 10 ?_ rfl hA0 hB0 (fun W hA => ?_) ?_; rotate_left; (· (go_simp; try with_reducible rfl)); refine uA 11 ?_ rfl hA0 hB0 (fun W hA => ?_) ?_; rotate_left; (· (go_simp; try with_reducible rfl)); refine uA 12 ?_ rfl hA0 hB0 (fun W hA => ?_) ?_; rotate_left; (· (go_simp; try with_reducible rfl)); refine uA 13 ?_ rfl hA0 hB0 (fun W hA => ?_) ?_; rotate_left; (· (go_simp; try with_reducible rfl)); (try simp only [Act.put, List.setIfInBounds_toArray, List.set_cons_zero, List.set_cons_succ]))
      refine anyU_done (by kernel_rfl) ?_ _
      have HEX7 := Lib.hid (HEX.out.quiet HB7.out)
      obtain ⟨_, c1⟩ := HCV.out w7 HB7.out
      obtain ⟨a0, a1, a2, a3, a4⟩ := HKW.out w7 HB7.out
      obtain ⟨ev, e, rfl, hvb, hje, hes, q0, q1, q2, q3, q4⟩ := (HRW.out w7 HB7.out).at_ (k := jx) (by have h9 := HLL.out; omega)
      have p2' := ev_cells (j := 1) q2
      have p4' := ev_cells (j := 3) q4
      obtain ⟨f1, f2⟩ := HFT.out jx e hje
      obtain ⟨fv, hfv⟩ : ∃ v, e.fault = v := ⟨_, rfl⟩
      obtain ⟨ob, hob⟩ : ∃ v, e.o = v := ⟨_, rfl⟩
      rw [hfv] at p4' f1
      rw [hob] at p2' f2
      obtain ⟨sd, hse, hsl, hsc⟩ : ∃ ad, SA = some ad ∧ True ∧ w7.cell? (ad.add tk) = some (.int .i64 yk) := by
       obtain ⟨ad, e1, e2⟩ := RdI.own_at HEX7.out.two.o2 HYK.out
       exact ⟨ad, e1, trivial, e2⟩
      subst hse
      have b5 : (tk : Int) < (ns : Int) := by omega
      have HF1 := Lib.hid f1
      have HF2 := Lib.hid f2
      have HT9 := Lib.hid ht9
      have HPQ := Lib.hid hpq
      clear hA0 hb7 HC HEX HKW HOW HRW HCV HAW HBD hje hes hvb q0 q1 q2 q3 q4 hfv hob f1 f2 ht9 hpq hab
      go_upto_if 135 with fail
      clear a0 a1 a2 a3 c1
      cases ob
      case false =>
       cases pq
       case false =>
        have HR9 := Lib.hid (show R.1 = exG m c os (G - i) (i + 1) (exX m c os i tt' (m.a.al.drop (j + 1)) l) ∧ R.2 = 0 from ⟨by rw [HRY.out.1, exX_none (by rw [HTS.out, HTK.out]; exact exN_imp (of_decide_eq_false HPQ.out))], HRY.out.2⟩)
        go_wp2
        go_roundw
        case rel => exact ⟨j + 1, nl, _, _, _, _, _, _, l, rfl, rfl, rfl, rfl, rfl, by go_num, by omega, hil, hnl, HEX7, HXI, HXD, HTT, HR9⟩
        case measure => simp [intOf]; omega
       by_cases hfc : fv = c
       ·have b6 : (fv != c) = false := by simp [hfc]
        have HR9 := Lib.hid (show R.1 = exG m c os (G - i) (i + 1) (exX m c os i tt' (m.a.al.drop (j + 1)) l) ∧ R.2 = 0 from ⟨by rw [HRY.out.1, exX_none (by rw [HTS.out, HTK.out]; exact exN_flt (by rw [HF1.out]; exact hfc))], HRY.out.2⟩)
        go_wp2
        go_roundw
        case rel => exact ⟨j + 1, nl, _, _, _, _, _, _, l, rfl, rfl, rfl, rfl, rfl, by go_num, by omega, hil, hnl, HEX7, HXI, HXD, HTT, HR9⟩
        case measure => simp [intOf]; omega
       ·have b6 : (fv != c) = true := by simpa using hfc
        have hnn := of_decide_eq_true HPQ.out
        have e9 : nxt m.a ts (jx : Int) = t9 := by have := HT9.out; unfold stpV at this; rw [if_pos hnn] at this; exact this
        have hf9 : m.ft (jx : Int) ≠ c := by rw [HF1.out]; exact hfc
        have hEN : exN m c os tt'.s tt'.k (jx : Int) = some (t9, tk) := by rw [HTS.out, HTK.out, ← e9]; exact exN_hid hnn hf9 HF2.out
        have ht9r := nxt_in HMW.out (show ¬ nxt m.a ts (jx : Int) < 0 by omega)
        rw [e9] at ht9r
        have ht9b : 0 ≤ t9 ∧ t9 ≤ 40 := by have := HMS.out; have := HSV.out; omega
        have hkey := plKey w7 (t9, tk) (show (Lit.int .i64 t9).wf = true from WalkArith.wf_i64 (by omega)) (show (Lit.int .i64 ((tk : Nat) : Int)).wf = true from WalkArith.wf_i64 (by omega))
        have HKEY := Lib.hid hkey
        obtain ⟨kb, hkb⟩ : ∃ b, exH l t9 (tk) = b := ⟨_, rfl⟩
        have HLK := Lib.hid (show (Instr.lookup 135 (.map (some o)) (.agg #[.int .i64 t9, .int .i64 (tk : Int)]) false).run Try.prog w7 = .ok (.bool kb) w7 from HEX7.out.tab.run plLaw Try.underlying135 (zeroBl _) (t9, tk) hkey kb hkb)
        have HEN := Lib.hid hEN
        have HKB := Lib.hid hkb
        clear e9 hf9 hEN ht9r hkey hkb hnn
        cases kb
        case true =>
         have HR9 := Lib.hid (show R.1 = exG m c os (G - i) (i + 1) (exX m c os i tt' (m.a.al.drop (j + 1)) l) ∧ R.2 = 0 from ⟨by rw [HRY.out.1, exX_old HEN.out HKB.out], HRY.out.2⟩)
         go_wp2_with (first | (at_lookup; refine wpList_look_run (by rfl) (.tmp 159) (.tmp 162) 135 rfl (.map (some o)) (.agg #[.int .i64 t9, .int .i64 (tk : Int)]) (.bool true) (by rfl) (by rfl) HLK.out ?_; (try simp only [Act.put, List.setIfInBounds_toArray, List.set_cons_zero, List.set_cons_succ])) | fail)
         go_roundw
         case rel => exact ⟨j + 1, nl, _, _, _, _, _, _, l, rfl, rfl, rfl, rfl, rfl, by go_num, by omega, hil, hnl, HEX7, HXI, HXD, HTT, HR9⟩
         case measure => simp [intOf]; omega
        case false =>
         obtain ⟨vx, hvx⟩ : ∃ v : Vst, v = ⟨t9, tk, (i : Int), (jx : Int)⟩ := ⟨_, rfl⟩
         have HXI9 := Lib.hid (show ExI m c os (l ++ [vx]) by rw [hvx]; exact HXI.out.push HTT.out HXM.out HEN.out)
         have HXD9 := Lib.hid (show ExD m os (l ++ [vx]) by rw [hvx]; exact HXD.out.push HMW.out (List.mem_of_getElem? HTT.out) HEN.out HKB.out _)
         have HR9 := Lib.hid (show R.1 = exG m c os (G - i) (i + 1) (exX m c os i tt' (m.a.al.drop (j + 1)) (l ++ [vx])) ∧ R.2 = 0 from ⟨by rw [HRY.out.1, exX_new HEN.out HKB.out, hvx], HRY.out.2⟩)
         have HTT9 := Lib.hid (show (l ++ [vx])[i]? = some tt' by rw [List.getElem?_append_left (by rw [HEX7.out.ln]; omega)]; exact HTT.out)
         have hn9 : nl + 1 ≤ G := by have h9 := HXD9.out.len; rw [HNS.out, HG.out, List.length_append, HEX7.out.ln] at h9; exact h9
         have HVX := Lib.hid hvx
         have hws := HEX7.out.two.siz
         clear hvx
         go_upto_region 36 with (first | (at_lookup; refine wpList_look_run (by rfl) (.tmp 159) (.tmp 162) 135 rfl (.map (some o)) (.agg #[.int .i64 t9, .int .i64 (tk : Int)]) (.bool false) (by rfl) (by rfl) HLK.out ?_; (try simp only [Act.put, List.setIfInBounds_toArray, List.set_cons_zero, List.set_cons_succ])) | fail)
         clear p2' p4' hsc a4
         go_wp2_with (first
          | (at_builtin; refine wpList_pushA w7 [.int .i64 t9, .int .i64 (tk : Int), .int .i64 (i : Int), .int .i64 (jx : Int)] rfl (.tmp 170) (.tmp 177) 134 rfl w3.heap.size 133 (.agg #[.int .i64 0, .int .i64 0, .int .i64 0, .int .i64 0]) 4 32 Try.underlying134 vis_info rfl (by decide) rfl (.slice (some ad) nl lc) nl _ rfl HEX7.out.two.o1 rfl (mov_one _ _ _ _) (by omega) (by omega) hws ?_; intro A8 c8 w8 ho8 hg8 hl8; have HO8 := Lib.hid ho8; have HG8 := Lib.hid hg8; have HL8 := Lib.hid hl8; have HT8 := Lib.hid (HEX7.out.tab.kept hg8 (HEX7.out.tab.ne HEX7.out.two.o1)); clear ho8 hg8 hl8)
          | (at_mapUpdate; refine wpList_tabB_put rfl (.tmp 166) (.tmp 169) (.const (.bool true)) 135 rfl plLaw Try.underlying135 rfl HT8.out (by omega) (t9, tk) rfl HKEY.out rfl (fun p => exH (l ++ [vx]) p.1 p.2) (by rw [HVX.out]; dsimp only; rw [exH_snoc]; simp) (fun d hd => by
            rw [HVX.out]
            try dsimp only
            rw [exH_snoc]
            cases hxx : ((⟨t9, tk, (i : Int), (jx : Int)⟩ : Vst).s == d.1 && (⟨t9, tk, (i : Int), (jx : Int)⟩ : Vst).k == d.2) with
            | false => rw [Bool.or_false]
            | true =>
             rw [Bool.and_eq_true, beq_iff_eq, beq_iff_eq] at hxx
             exact absurd (Prod.ext hxx.1.symm hxx.2.symm) hd) ?_; intro w9 hT9 hg9)
          | fail)
         have HE9 := Lib.hid (HEX7.out.add (x := vx) (by rw [HVX.out]; exact HO8.out) HG8.out HL8.out hT9 hg9)
         go_roundw
         case rel => exact ⟨j + 1, nl + 1, A8, c8, _, _, _, _, l ++ [vx], rfl, rfl, rfl, rfl, rfl, by go_num, by omega, by omega, hn9, HE9, HXI9, HXD9, HTT9, HR9⟩
         case measure => simp [intOf]; omega
      case true =>
       cases pq
       case false =>
        have HR9 := Lib.hid (show R.1 = exG m c os (G - i) (i + 1) (exX m c os i tt' (m.a.al.drop (j + 1)) l) ∧ R.2 = 0 from ⟨by rw [HRY.out.1, exX_none (by rw [HTS.out, HTK.out]; exact exN_imp (of_decide_eq_false HPQ.out))], HRY.out.2⟩)
        go_wp2
        go_roundw
        case rel => exact ⟨j + 1, nl, _, _, _, _, _, _, l, rfl, rfl, rfl, rfl, rfl, by go_num, by omega, hil, hnl, HEX7, HXI, HXD, HTT, HR9⟩
        case measure => simp [intOf]; omega
       by_cases hyx : yk = (jx : Int)
       case neg =>
        have b7 : (yk == (jx : Int)) = false := by simpa using hyx
        have HR9 := Lib.hid (show R.1 = exG m c os (G - i) (i + 1) (exX m c os i tt' (m.a.al.drop (j + 1)) l) ∧ R.2 = 0 from ⟨by rw [HRY.out.1, exX_none (by rw [HTS.out, HTK.out]; exact exN_not HYK.out HF2.out hyx)], HRY.out.2⟩)
        go_wp2
        go_roundw
        case rel => exact ⟨j + 1, nl, _, _, _, _, _, _, l, rfl, rfl, rfl, rfl, rfl, by go_num, by omega, hil, hnl, HEX7, HXI, HXD, HTT, HR9⟩
        case measure => simp [intOf]; omega
       have b7 : (yk == (jx : Int)) = true := by simpa using hyx
       by_cases hfc : fv = c
       ·have b6 : (fv != c) = false := by simp [hfc]
        have HR9 := Lib.hid (show R.1 = exG m c os (G - i) (i + 1) (exX m c os i tt' (m.a.al.drop (j + 1)) l) ∧ R.2 = 0 from ⟨by rw [HRY.out.1, exX_none (by rw [HTS.out, HTK.out]; exact exN_flt (by rw [HF1.out]; exact hfc))], HRY.out.2⟩)
        go_wp2
        go_roundw
        case rel => exact ⟨j + 1, nl, _, _, _, _, _, _, l, rfl, rfl, rfl, rfl, rfl, by go_num, by omega, hil, hnl, HEX7, HXI, HXD, HTT, HR9⟩
        case measure => simp [intOf]; omega
       ·have b6 : (fv != c) = true := by simpa using hfc
        have hnn := of_decide_eq_true HPQ.out
        have e9 : nxt m.a ts (jx : Int) = t9 := by have := HT9.out; unfold stpV at this; rw [if_pos hnn] at this; exact this
        have hf9 : m.ft (jx : Int) ≠ c := by rw [HF1.out]; exact hfc
        have hEN : exN m c os tt'.s tt'.k (jx : Int) = some (t9, tk + 1) := by rw [HTS.out, HTK.out, ← e9]; exact exN_see HYK.out hnn hf9 HF2.out hyx
        have ht9r := nxt_in HMW.out (show ¬ nxt m.a ts (jx : Int) < 0 by omega)
        rw [e9] at ht9r
        have ht9b : 0 ≤ t9 ∧ t9 ≤ 40 := by have := HMS.out; have := HSV.out; omega
        have hkey := plKey w7 (t9, tk + 1) (show (Lit.int .i64 t9).wf = true from WalkArith.wf_i64 (by omega)) (show (Lit.int .i64 ((tk + 1 : Nat) : Int)).wf = true from WalkArith.wf_i64 (by omega))
        have HKEY := Lib.hid hkey
        obtain ⟨kb, hkb⟩ : ∃ b, exH l t9 (tk + 1) = b := ⟨_, rfl⟩
        have HLK := Lib.hid (show (Instr.lookup 135 (.map (some o)) (.agg #[.int .i64 t9, .int .i64 ((tk : Int) + 1)]) false).run Try.prog w7 = .ok (.bool kb) w7 from HEX7.out.tab.run plLaw Try.underlying135 (zeroBl _) (t9, tk + 1) hkey kb hkb)
        have HEN := Lib.hid hEN
        have HKB := Lib.hid hkb
        clear e9 hf9 hEN ht9r hkey hkb hnn
        cases kb
        case true =>
         have HR9 := Lib.hid (show R.1 = exG m c os (G - i) (i + 1) (exX m c os i tt' (m.a.al.drop (j + 1)) l) ∧ R.2 = 0 from ⟨by rw [HRY.out.1, exX_old HEN.out HKB.out], HRY.out.2⟩)
         go_wp2_with (first | (at_lookup; refine wpList_look_run (by rfl) (.tmp 159) (.tmp 162) 135 rfl (.map (some o)) (.agg #[.int .i64 t9, .int .i64 ((tk : Int) + 1)]) (.bool true) (by rfl) (by rfl) HLK.out ?_; (try simp only [Act.put, List.setIfInBounds_toArray, List.set_cons_zero, List.set_cons_succ])) | fail)
         go_roundw
         case rel => exact ⟨j + 1, nl, _, _, _, _, _, _, l, rfl, rfl, rfl, rfl, rfl, by go_num, by omega, hil, hnl, HEX7, HXI, HXD, HTT, HR9⟩
         case measure => simp [intOf]; omega
        case false =>
         obtain ⟨vx, hvx⟩ : ∃ v : Vst, v = ⟨t9, tk + 1, (i : Int), (jx : Int)⟩ := ⟨_, rfl⟩
         have HXI9 := Lib.hid (show ExI m c os (l ++ [vx]) by rw [hvx]; exact HXI.out.push HTT.out HXM.out HEN.out)
         have HXD9 := Lib.hid (show ExD m os (l ++ [vx]) by rw [hvx]; exact HXD.out.push HMW.out (List.mem_of_getElem? HTT.out) HEN.out HKB.out _)
         have HR9 := Lib.hid (show R.1 = exG m c os (G - i) (i + 1) (exX m c os i tt' (m.a.al.drop (j + 1)) (l ++ [vx])) ∧ R.2 = 0 from ⟨by rw [HRY.out.1, exX_new HEN.out HKB.out, hvx], HRY.out.2⟩)
         have HTT9 := Lib.hid (show (l ++ [vx])[i]? = some tt' by rw [List.getElem?_append_left (by rw [HEX7.out.ln]; omega)]; exact HTT.out)
         have hn9 : nl + 1 ≤ G := by have h9 := HXD9.out.len; rw [HNS.out, HG.out, List.length_append, HEX7.out.ln] at h9; exact h9
         have HVX := Lib.hid hvx
         have hws := HEX7.out.two.siz
         clear hvx
         go_upto_region 36 with (first | (at_lookup; refine wpList_look_run (by rfl) (.tmp 159) (.tmp 162) 135 rfl (.map (some o)) (.agg #[.int .i64 t9, .int .i64 ((tk : Int) + 1)]) (.bool false) (by rfl) (by rfl) HLK.out ?_; (try simp only [Act.put, List.setIfInBounds_toArray, List.set_cons_zero, List.set_cons_succ])) | fail)
         clear p2' p4' hsc a4
         go_wp2_with (first
          | (at_builtin; refine wpList_pushA w7 [.int .i64 t9, .int .i64 ((tk : Int) + 1), .int .i64 (i : Int), .int .i64 (jx : Int)] rfl (.tmp 170) (.tmp 177) 134 rfl w3.heap.size 133 (.agg #[.int .i64 0, .int .i64 0, .int .i64 0, .int .i64 0]) 4 32 Try.underlying134 vis_info rfl (by decide) rfl (.slice (some ad) nl lc) nl _ rfl HEX7.out.two.o1 rfl (mov_one _ _ _ _) (by omega) (by omega) hws ?_; intro A8 c8 w8 ho8 hg8 hl8; have HO8 := Lib.hid ho8; have HG8 := Lib.hid hg8; have HL8 := Lib.hid hl8; have HT8 := Lib.hid (HEX7.out.tab.kept hg8 (HEX7.out.tab.ne HEX7.out.two.o1)); clear ho8 hg8 hl8)
          | (at_mapUpdate; refine wpList_tabB_put rfl (.tmp 166) (.tmp 169) (.const (.bool true)) 135 rfl plLaw Try.underlying135 rfl HT8.out (by omega) (t9, tk + 1) rfl HKEY.out rfl (fun p => exH (l ++ [vx]) p.1 p.2) (by rw [HVX.out]; dsimp only; rw [exH_snoc]; simp) (fun d hd => by
            rw [HVX.out]
            try dsimp only
            rw [exH_snoc]
            cases hxx : ((⟨t9, tk + 1, (i : Int), (jx : Int)⟩ : Vst).s == d.1 && (⟨t9, tk + 1, (i : Int), (jx : Int)⟩ : Vst).k == d.2) with
            | false => rw [Bool.or_false]
            | true =>
             rw [Bool.and_eq_true, beq_iff_eq, beq_iff_eq] at hxx
             exact absurd (Prod.ext hxx.1.symm hxx.2.symm) hd) ?_; intro w9 hT9 hg9)
          | fail)
         have HE9 := Lib.hid (HEX7.out.add (x := vx) (by rw [HVX.out]; exact HO8.out) HG8.out HL8.out hT9 hg9)
         go_roundw
         case rel => exact ⟨j + 1, nl + 1, A8, c8, _, _, _, _, l ++ [vx], rfl, rfl, rfl, rfl, rfl, by go_num, by omega, by omega, hn9, HE9, HXI9, HXD9, HTT9, HR9⟩
         case measure => simp [intOf]; omega
end Go.Proofs.Ytddhaidimadliaa
