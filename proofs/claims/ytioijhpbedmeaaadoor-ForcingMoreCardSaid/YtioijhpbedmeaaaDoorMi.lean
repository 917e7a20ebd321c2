/- Walks: slices.Equal at edges, automaton.Equal; the law's same, sameAll, none. -/
import Derived.Test.YtioijhpbedmeaaaDoorSa
import Derived.Test.YtioijhpbedmeaaaDoorAa
import Derived.Test.YtioijhpbedmeaaaDoorMh
import Derived.Test.YtioijhpbedmeaaaDoorMa
import Derived.Test.YtioijhpbedmeaaaDoorQa
namespace Go.Proofs.YtioijhpbedmeaaaDoor
open Go.RowKit Go

def eqE (a b : List Ed) : Bool := decide (a = b)
theorem eqE_ne {a b : List Ed} {k : Nat} {x y : Ed} (ha : a[k]? = some x) (hb : b[k]? = some y) (h : x ≠ y) : eqE a b = false := by
  unfold eqE; rw [decide_eq_false_iff_not]; rintro rfl; rw [ha] at hb; injection hb with hb; exact h hb
theorem eqE_len {a b : List Ed} (h : a.length ≠ b.length) : eqE a b = false := by
  unfold eqE; rw [decide_eq_false_iff_not]; rintro rfl; exact h rfl
theorem eqE_of {a b : List Ed} (h : a = b) : eqE a b = true := by unfold eqE; rw [decide_eq_true_iff]; exact h
theorem take_eq_snocE {a b : List Ed} {k : Nat} {x : Ed} (ha : a[k]? = some x) (hb : b[k]? = some x) (h : a.take k = b.take k) : a.take (k + 1) = b.take (k + 1) := by rw [take_snoc' ha, take_snoc' hb, h]
theorem eq_of_dropE {a b : List Ed} (hl : a.length = b.length) {k : Nat} (h : a.take k = b.take k) (hk : ¬ k < a.length) : a = b := by
  rwa [List.take_of_length_le (by omega), List.take_of_length_le (by omega)] at h
theorem neqE_run (a b c d e f : Int) (W : World) : (binOp .neq 68 (.agg #[.int .i64 a, .int .i64 b, .int .i64 c]) (.agg #[.int .i64 d, .int .i64 e, .int .i64 f])).run Tryd.prog W = .ok (.bool (!(a == d && b == e && c == f))) W := by
  have u3 := Tryd.underlying3
  have a3 := Tryd.isAgg3
  have z3 := Tryd.sizeOf3
  have hS : Tryd.prog.underlying 68 = some (.struct (Tryd.prog.fieldsOf 68)) := by kernel_rfl
  have hp : Tryd.prog.stoodInHeld 68 = false := by kernel_rfl
  rw [run_neq_struct, show (10000 : Nat) = 9999 + 1 from rfl, run_equalIn_agg W 9999 68 _ _ hS hp]
  simp only [Program.fieldsOf, Tryd.underlying68]
  go_simp
  by_cases h1 : a = d <;> by_cases h2 : b = e <;> by_cases h3 : c = f <;> simp [h1, h2, h3]
def eqA (a b : Aut) : Bool := decide (a = b)
theorem eqA_of {a b : Aut} (h : a = b) : eqA a b = true := by unfold eqA; rw [decide_eq_true_iff]; exact h
theorem eqA_def (a b : Aut) : eqA a b = (decide (a.st = b.st) && eqB a.al b.al && eqB a.ma b.ma && eqE a.ed b.ed) := by
  obtain ⟨a1, a2, a3, a4⟩ := a
  obtain ⟨b1, b2, b3, b4⟩ := b
  unfold eqA eqB eqE
  rw [Bool.eq_iff_iff]
  simp only [decide_eq_true_iff, Bool.and_eq_true, Aut.mk.injEq]
  constructor
  · rintro ⟨h1, h2, h3, h4⟩; simp [*]
  · rintro ⟨⟨⟨h1, h2⟩, h3⟩, h4⟩; simp [*]
theorem quiet_add {P : Program} {f : FuncId} {args : Array Value} {w : World} {a n : Nat} {v : Value} (h : Calls P f args (w.drewN (a + n)) fun e w' => e = .returned v ∧ ∃ m, w' = (w.drewN (a + n)).drewN m) :
    Calls P f args (w.drewN (a + n)) fun e w' => e = .returned v ∧ ∃ m, w' = w.drewN (a + m) :=
  h.mono fun _ _ ⟨he, m, hm⟩ => ⟨he, n + m, by rw [hm, World.drewN_drewN, Nat.add_assoc]⟩

def sameB (a b : List (List Int)) : Bool := decide (a = b)
theorem sameB_ne {a b : List (List Int)} {k : Nat} {x y : List Int} (ha : a[k]? = some x) (hb : b[k]? = some y) (h : x ≠ y) : sameB a b = false := by
  unfold sameB; rw [decide_eq_false_iff_not]; rintro rfl; rw [ha] at hb; exact h (by injection hb)
theorem sameB_len {a b : List (List Int)} (h : a.length ≠ b.length) : sameB a b = false := by
  unfold sameB; rw [decide_eq_false_iff_not]; rintro rfl; exact h rfl
theorem sameB_of {a b : List (List Int)} (h : a = b) : sameB a b = true := by unfold sameB; rw [decide_eq_true_iff]; exact h

end Go.Proofs.YtioijhpbedmeaaaDoor




/- Walks: the law's two, none; what is read of blocks written out. -/
namespace Go.Proofs.YtioijhpbedmeaaaDoor
open Go.RowKit Go Go.Maps

section
variable {w : World} {b : Nat} {t : TypeId} {vs : List Value}
theorem Blk.al (h : Blk w b t vs) (o : Obj) : Blk (w.alloc o) b t vs := h.below (box_below _ _) h.lt
theorem Blk.at_ (w : World) (t : TypeId) (vs : List Value) (h : w.heap.size = b) : Blk (w.alloc (.cells vs.toArray t)) b t vs := by subst h; exact Blk.new _ _ _
theorem Blk.rdv (h : Blk w b t vs) : RdV w w.heap.size (some ⟨b, 0, none⟩) vs := fun k u hu => ⟨_, rfl, h.lt, by rw [add_lit0]; exact h.cell hu⟩
theorem Blk.rdi {l : List Int} (h : Blk w b t (iv l)) : RdI w w.heap.size (some ⟨b, 0, none⟩) l := h.rdv
theorem Blk.rdr {α : Type} {f : α → List Value} {sz : Nat} {l : List α} (hs : ∀ x ∈ l, (f x).length = sz) (h : Blk w b t (l.flatMap f)) : RdR sz f w w.heap.size (some ⟨b, 0, none⟩) l := fun k x hx =>
  ⟨_, rfl, h.lt, fun j u hj => by rw [add_lit0]; exact h.cell (flat_get f sz l hs k x j u hx hj)⟩
theorem Blk.rdx {l : List Ed} (h : Blk w b t (l.flatMap edc)) : RdX w w.heap.size (some ⟨b, 0, none⟩) l := Blk.rdr (fun _ _ => rfl) h
theorem Blk.rdl {l : List AV} (h : Blk w b t (l.flatMap avc)) : RdR 4 avc w w.heap.size (some ⟨b, 0, none⟩) l := Blk.rdr (fun _ _ => rfl) h
end

end Go.Proofs.YtioijhpbedmeaaaDoor

/- Walks: product.Compose with a fresh result, at few automata. -/
namespace Go.Proofs.YtioijhpbedmeaaaDoor
open Go.RowKit Go Go.Maps

theorem syn_few {l : List Aut} (h : ∀ a ∈ l, Sm a) (hl : l.length ≤ 3) : (∃ a T, synR l = some (a, T)) ∧ (noSt l = false → ¬ Many 4096 (stp l) (evs l) (ini l)) := by
  have hw : ∀ a ∈ l, WF a := fun a ha => (h a ha).wf
  have hp : prodN l ≤ 4096 := Nat.le_trans (prodN_few h hl) (by omega)
  refine ⟨?_, fun hn hm => not_many (box l) (by rw [box_len]; exact hp) (fun x hx => box_mem.2 (rch_tup hw hn hx)) hm⟩
  unfold synR
  by_cases hn : noSt l = true
  · rw [if_pos hn]; exact ⟨_, _, rfl⟩
  · rw [if_neg hn]
    obtain ⟨s, hs, _⟩ := synS_some hw (by simpa using hn) hp
    rw [hs]; exact ⟨_, _, rfl⟩
/-- what the walks want of a few small automata -/
structure FewL (l : List Aut) : Prop where
  chk : chkL l = 0
  st : ∀ a ∈ l, a.st ≤ 100
  wf : ∀ a ∈ l, WF a
  len : l.length ≤ 3
  syn : ∃ a T, synR l = some (a, T)
  nm : noSt l = false → ¬ Many 4096 (stp l) (evs l) (ini l)
theorem few_of {l : List Aut} (h : ∀ a ∈ l, Sm a) (hl : l.length ≤ 3) : FewL l :=
  ⟨sm_chk h hl, fun a ha => by have := (h a ha).st; omega, fun a ha => (h a ha).wf, hl, (syn_few h hl).1, (syn_few h hl).2⟩
theorem lst_few {ps : List Pt} (h : ∀ p ∈ ps, p.ok) : FewL (lstA ps) := few_of (lstA_sm h) (by rw [lstA_len]; omega)

/-- what the walks want of a few automata -/
theorem FewL.of_prod {l : List Aut} (hw : ∀ a ∈ l, WF a) (hs : ∀ a ∈ l, a.st ≤ 100) (hl : l.length ≤ 3) (hp : prodN l ≤ 4096) : FewL l := by
  refine ⟨chkL_mk (by omega) hw, hs, hw, hl, ?_, fun hn hm => not_many (box l) (by rw [box_len]; exact hp) (fun x hx => box_mem.2 (rch_tup hw hn hx)) hm⟩
  unfold synR
  by_cases hn : noSt l = true
  · rw [if_pos hn]; exact ⟨_, _, rfl⟩
  · rw [if_neg hn]
    obtain ⟨s, hs, _⟩ := synS_some hw (by simpa using hn) hp
    rw [hs]; exact ⟨_, _, rfl⟩
theorem AutR.ok {w : World} {B : Nat} {A : Option Addr} {na ca : Nat} {M : Option Addr} {nm cm : Nat} {E : Option Addr} {ne ce : Nat} {a : Aut} (h : AutR w B A na ca M nm cm E ne ce a) : (AV.mk A na ca M nm cm E ne ce a).ok w B := h
theorem two_rdl {w : World} {b : Nat} {x y : AV} (h : Blk w b 38 (avc x ++ avc y)) (hx : x.ok w w.heap.size) (hy : y.ok w w.heap.size) : RdL w w.heap.size (some ⟨b, 0, none⟩) [x, y] :=
  ⟨Blk.rdl (by simpa using h), fun z hz => by
    rcases List.mem_cons.1 hz with rfl | hz
    · exact hx
    · obtain rfl := List.mem_singleton.1 hz; exact hy⟩
end Go.Proofs.YtioijhpbedmeaaaDoor
