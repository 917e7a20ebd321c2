/- Automata as values: variables that hold them; the contracts of Make, Supremal, Infimal, Check, product.Compose and automaton.Closed in these words. -/
import Derived.Test.YtcchnibgehonoaaDoorDp
import Derived.Test.YtcchnibgehonoaaDoorDm
import Derived.Test.YtcchnibgehonoaaDoorLw
namespace Go.Proofs.YtcchnibgehonoaaDoor
open Go.RowKit Go Go.Maps

/-- a variable that holds an automaton -/
structure VarA (w : World) (b : Nat) (x : AV) : Prop where
 blk : Blk w b 25 (avc x)
 ok : x.ok w w.heap.size
section
variable {w w' : World} {b : Nat} {x : AV}
theorem VarA.new (h : x.ok w w.heap.size) : VarA (w.alloc (.cells #[.slice x.A x.na x.ca, .int .i64 x.a.st, .slice x.M x.nm x.cm, .slice x.E x.ne x.ce] 25)) w.heap.size x :=
 ⟨Blk.new _ _ (avc x), AutR.more (AutR.below h (box_below _ _)) (box_below _ _).size⟩
theorem VarA.below (h : VarA w b x) (hb : Below w.heap.size w w') : VarA w' b x :=
 ⟨h.blk.below hb h.blk.lt, AutR.more (AutR.below h.ok hb) hb.size⟩
theorem VarA.c0 (h : VarA w b x) : w.cell? ⟨b, 0, none⟩ = some (.slice x.A x.na x.ca) := h.blk.cell (j := 0) rfl
theorem VarA.c1 (h : VarA w b x) : w.cell? ⟨b, 1, none⟩ = some (.int .i64 x.a.st) := h.blk.cell (j := 1) rfl
theorem VarA.c2 (h : VarA w b x) : w.cell? ⟨b, 2, none⟩ = some (.slice x.M x.nm x.cm) := h.blk.cell (j := 2) rfl
theorem VarA.c3 (h : VarA w b x) : w.cell? ⟨b, 3, none⟩ = some (.slice x.E x.ne x.ce) := h.blk.cell (j := 3) rfl
theorem VarA.lt (h : VarA w b x) : b < w.heap.size := h.blk.lt
end
/-- the four cells of a variable -/
def CV (W : World) (b : Nat) (x : AV) : Prop := W.cell? ⟨b, 0, none⟩ = some (.slice x.A x.na x.ca) ∧ W.cell? ⟨b, 1, none⟩ = some (.int .i64 x.a.st) ∧ W.cell? ⟨b, 2, none⟩ = some (.slice x.M x.nm x.cm) ∧ W.cell? ⟨b, 3, none⟩ = some (.slice x.E x.ne x.ce)
theorem VarA.cv {w : World} {b : Nat} {x : AV} (h : VarA w b x) : CV w b x := ⟨h.c0, h.c1, h.c2, h.c3⟩
/-- an automaton with no error -/
def RetV (r : Aut) (w : World) (e : Ending) (w' : World) : Prop :=
 ∃ z : AV, e = .returned (.tuple #[.agg #[.slice z.A z.na z.ca, .int .i64 z.a.st, .slice z.M z.nm z.cm, .slice z.E z.ne z.ce], .int .i64 0]) ∧ z.a = r ∧ z.ok w' w'.heap.size ∧ Below w.heap.size w w'
/-- an automaton -/
def RetW (r : Aut) (w : World) (e : Ending) (w' : World) : Prop :=
 ∃ z : AV, e = .returned (.agg #[.slice z.A z.na z.ca, .int .i64 z.a.st, .slice z.M z.nm z.cm, .slice z.E z.ne z.ce]) ∧ z.a = r ∧ z.ok w' w'.heap.size ∧ Below w.heap.size w w'
theorem RetAE.v {r : Aut} {w w' : World} {e : Ending} (h : RetAE r w e w') : RetV r w e w' := by
 obtain ⟨A, na, ca, M, nm, cm, E, ne, ce, rfl, h1, h2⟩ := h
 exact ⟨⟨A, na, ca, M, nm, cm, E, ne, ce, r⟩, rfl, rfl, h1.rd, h2⟩
theorem RetR.v {r : Aut} {w w' : World} {e : Ending} (h : RetR r w e w') : RetW r w e w' := by
 obtain ⟨A, na, ca, M, nm, cm, E, ne, ce, rfl, h1, h2⟩ := h
 exact ⟨⟨A, na, ca, M, nm, cm, E, ne, ce, r⟩, rfl, rfl, h1, h2⟩
theorem RetA.v {r : Aut} {w w' : World} {e : Ending} (h : RetA r w e w') : RetW r w e w' := by
 obtain ⟨A, na, ca, M, nm, cm, E, ne, ce, rfl, h1, h2⟩ := h
 exact ⟨⟨A, na, ca, M, nm, cm, E, ne, ce, r⟩, rfl, rfl, h1.rd, h2⟩
/-- a list of ints to be read -/
structure RdU (w : World) (U : Option Addr) (nu cu : Nat) (u : List Int) : Prop where
 len : u.length = nu
 rd : RdI w w.heap.size U u
 c1 : nu ≤ cu
 c2 : cu ≤ 9223372036854775807
theorem RdU.below {w w' : World} {U : Option Addr} {nu cu : Nat} {u : List Int} (h : RdU w U nu cu u) (hb : Below w.heap.size w w') : RdU w' U nu cu u := ⟨h.len, (h.rd.below hb).more hb.size, h.c1, h.c2⟩
/-- what Make returns -/
def RetMV (p : Prm) (w : World) (e : Ending) (w' : World) : Prop :=
 ∃ (x y : AV) (U : Option Addr) (nu cu : Nat), e = .returned (.tuple #[.agg #[.slice x.A x.na x.ca, .int .i64 x.a.st, .slice x.M x.nm x.cm, .slice x.E x.ne x.ce], .agg #[.slice y.A y.na y.ca, .int .i64 y.a.st, .slice y.M y.nm y.cm, .slice y.E y.ne y.ce], .slice U nu cu]) ∧
  x.a = plA p ∧ y.a = rqA p ∧ x.ok w' w'.heap.size ∧ y.ok w' w'.heap.size ∧ RdU w' U nu cu (unE p) ∧ Below w.heap.size w w'
theorem law_MakeV (p : Prm) (w : World) (hok : p.ok) : Calls Tryd.prog 26 #[.agg (mcells p).toArray] w (RetMV p w) := by
 refine (law_Make26 p w hok).mono ?_
 rintro e w' ⟨A, na, ca, M, nm, cm, E, ne, ce, A', na', ca', M', nm', cm', E', ne', ce', U, nu, cu, rfl, h1, h2, h3, h4, h5⟩
 exact ⟨⟨A, na, ca, M, nm, cm, E, ne, ce, plA p⟩, ⟨A', na', ca', M', nm', cm', E', ne', ce', rqA p⟩, U, nu, cu, rfl, rfl, rfl, h1.rd, h2.rd, ⟨h4, RdI.of_own h3, (own_cap' h3).1, (own_cap' h3).2⟩, h5⟩
/-- the problem that Make makes is right -/
theorem prm_err {p : Prm} (h : p.ok) : prbE (plA p) (rqA p) (unE p) = 0 := by
 have h1 : chkA (plA p) = 0 := (ptA_sm h.1).wf.chk
 have h2 : chkA (rqA p) = 0 := (rqA_sm h).wf.chk
 have h3 : setErr (unE p) 32 = 0 := setErr_ok (set5 p.un).1 (set32 p.un)
 unfold prbE
 rw [if_neg (by rw [h1]; simp), if_neg (by rw [h2]; simp), if_neg (by rw [h3]; simp), if_pos]
 rw [List.length_eq_zero_iff, List.eq_nil_iff_forall_not_mem]
 intro v hv
 obtain ⟨h4, h5⟩ := minS_mem.1 hv
 refine h5 ?_
 unfold rqA at h4
 rw [mkG_al] at h4
 unfold plA ptA
 rw [mkG_al]
 exact hasB_mem.1 (List.mem_filter.1 h4).2
theorem prm_prob {p : Prm} (h : p.ok) : ∃ q T, Prob (plA p) (rqA p) (unE p) q T :=
 prob_of (prm_err h) (by have := (ptA_sm h.1).st; show (ptA p.pl).st ≤ 60; omega) (by have := (rqA_sm h).st; omega)
section
variable {x y : AV} {U : Option Addr} {nu cu : Nat} {u : List Int} {w : World} {q : Aut} {T : List (List Int)}
theorem supV (hx : x.ok w w.heap.size) (hy : y.ok w w.heap.size) (hu : RdU w U nu cu u) (hp : Prob x.a y.a u q T) :
  Calls Tryd.prog 16 #[.agg #[.slice x.A x.na x.ca, .int .i64 x.a.st, .slice x.M x.nm x.cm, .slice x.E x.ne x.ce], .agg #[.slice y.A y.na y.ca, .int .i64 y.a.st, .slice y.M y.nm y.cm, .slice y.E y.ne y.ce], .slice U nu cu] w (RetV (supA x.a y.a (intS u x.a.al) q T T.length) w) :=
 (supremal_ok _ _ _ _ _ _ _ _ _ _ _ _ _ _ _ _ _ _ x.a y.a U cu nu u w hx hy hu.len hu.rd hu.c1 hu.c2 q T hp _ rfl).mono fun _ _ => RetAE.v
theorem infV (hx : x.ok w w.heap.size) (hy : y.ok w w.heap.size) (hu : RdU w U nu cu u) (hp : Prob x.a y.a u q T) :
  Calls Tryd.prog 17 #[.agg #[.slice x.A x.na x.ca, .int .i64 x.a.st, .slice x.M x.nm x.cm, .slice x.E x.ne x.ce], .agg #[.slice y.A y.na y.ca, .int .i64 y.a.st, .slice y.M y.nm y.cm, .slice y.E y.ne y.ce], .slice U nu cu] w (RetV (infA x.a y.a (intS u x.a.al) q) w) :=
 (infimal_ok _ _ _ _ _ _ _ _ _ _ _ _ _ _ _ _ _ _ x.a y.a U cu nu u w hx hy hu.len hu.rd hu.c1 hu.c2 q T hp _ rfl hp.pz).mono fun _ _ => RetAE.v
end
theorem prob_size : (Tryd.prog.info? 54).map (·.size) = some 57 := by kernel_rfl
theorem mcells_len {p : Prm} (h : p.ok) : (mcells p).length = 57 := by unfold mcells; rw [List.length_append, List.length_append, pcells_len h.1, pcells_len h.2.1]; rfl
theorem wpList_load_prob {ops : Array Oper} {rest : List Oper} {o : Oper} {a : Act} {w : World} {Q : Exit → Act → World → Prop} (hg : o.guard = none) (x : Operand) (ho : o.op = .load 54 x) (b : Nat) (p : Prm) (hp : p.ok) (hx : a.eval x = .pointer (some ⟨b, 0, none⟩)) (hk : Blk w b 54 (mcells p))
  (h : wpList Tryd.prog ops Q rest (a.put o.dst (.agg (mcells p).toArray)) w) : wpList Tryd.prog ops Q (o :: rest) a w :=
 wpList_load_mid hg _ x ho b 0 hx (mcells p) _ (fun j v hv => by rw [Nat.zero_add]; exact hk.cell hv) Tryd.underlying54 rfl (by rw [mcells_len hp]; exact prob_size) h
end Go.Proofs.YtcchnibgehonoaaDoor
