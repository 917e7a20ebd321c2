/- Walks: the law's examples, known. Printed by wip/mkju.py. -/
import Derived.Test.YtddhaidimadliaaJt
namespace Go.Proofs.Ytddhaidimadliaa
open Go.RowKit Go

/-- the models of the examples -/
def exA (b : Bool) : Aut := if b = true then ⟨[0, 1, 2], 2, [0], [⟨0, 0, 0⟩, ⟨0, 1, 1⟩, ⟨1, 0, 1⟩]⟩ else ⟨[0, 1, 2], 3, [0], [⟨0, 0, 0⟩, ⟨0, 1, 1⟩, ⟨1, 0, 2⟩, ⟨2, 2, 1⟩]⟩
def exL : List Ev := [⟨⟨#[97]⟩, false, true, false, 0⟩, ⟨⟨#[102]⟩, false, false, false, 1⟩, ⟨⟨#[98]⟩, false, true, false, 0⟩]
theorem exL_small : ∀ e ∈ exL, e.nm.size ≤ 9223372036854775807 := by
 intro e he
 simp only [exL, List.mem_cons, List.not_mem_nil, or_false] at he
 rcases he with rfl | rfl | rfl <;> decide
theorem add_lit (b j : Nat) : (⟨b, 0, none⟩ : Addr).add j = ⟨b, j, none⟩ := by
 rw [Addr.add_mid, Nat.zero_add]
theorem rdI_blk {w : World} {b : Nat} {t : TypeId} {l : List Int} (h : Blk w b t (iv l)) : RdI w w.heap.size (some ⟨b, 0, none⟩) l := fun k u hu => ⟨_, rfl, h.lt, by rw [add_lit]; exact h.cell hu⟩
theorem rdR_blk {α : Type} {sz : Nat} {f : α → List Value} {w : World} {b : Nat} {t : TypeId} {l : List α} (hs : ∀ x ∈ l, (f x).length = sz) (h : Blk w b t (l.flatMap f)) : RdR sz f w w.heap.size (some ⟨b, 0, none⟩) l :=
 fun k x hx => ⟨_, rfl, h.lt, fun j u hj => by rw [add_lit]; exact h.cell (flat_get f sz l hs k x j u hx hj)⟩
theorem rdX_blk {w : World} {b : Nat} {t : TypeId} {l : List Ed} (h : Blk w b t (l.flatMap edc)) : RdX w w.heap.size (some ⟨b, 0, none⟩) l := rdR_blk (fun _ _ => rfl) h
theorem rdE_blk {w : World} {b : Nat} {t : TypeId} {l : List Ev} (hs : ∀ e ∈ l, e.nm.size ≤ 9223372036854775807) (h : Blk w b t (l.flatMap Ev.cells)) : RdE w w.heap.size (some ⟨b, 0, none⟩) l := fun k e he =>
 ⟨_, rfl, h.lt, hs e (List.mem_of_getElem? he), fun j u hj => by rw [add_lit]; exact h.cell (flat_get Ev.cells 5 l (fun _ _ => rfl) k e j u he hj)⟩
def exWF (w : World) : World := ((((((w.alloc (.cells #[.slice (some ⟨w.heap.size + 1, 0, none⟩) 3 3, .int .i64 3, .slice (some ⟨w.heap.size + 1 + 1, 0, none⟩) 1 1, .slice (some ⟨w.heap.size + 1 + 1 + 1, 0, none⟩) 4 4, .slice (some ⟨w.heap.size + 1 + 1 + 1 + 1 + 1, 0, none⟩) 3 3] 37)).alloc (.cells #[.int .i64 0, .int .i64 1, .int .i64 2] 3)).alloc (.cells #[.int .i64 0] 3)).alloc (.cells #[.int .i64 0, .int .i64 0, .int .i64 0, .int .i64 0, .int .i64 1, .int .i64 1, .int .i64 1, .int .i64 0, .int .i64 2, .int .i64 2, .int .i64 2, .int .i64 1] 106)).alloc (.cells #[.slice (some ⟨w.heap.size + 1, 0, none⟩) 3 3, .int .i64 3, .slice (some ⟨w.heap.size + 1 + 1, 0, none⟩) 1 1, .slice (some ⟨w.heap.size + 1 + 1 + 1, 0, none⟩) 4 4] 34)).alloc (.cells #[.string ⟨#[97]⟩, .bool false, .bool true, .bool false, .int .i64 0, .string ⟨#[102]⟩, .bool false, .bool false, .bool false, .int .i64 1, .string ⟨#[98]⟩, .bool false, .bool true, .bool false, .int .i64 0] 67))
theorem exWF_ok (w : World) : Blk (exWF w) w.heap.size 37 [.slice (some ⟨w.heap.size + 1, 0, none⟩) 3 3, .int .i64 3, .slice (some ⟨w.heap.size + 1 + 1, 0, none⟩) 1 1, .slice (some ⟨w.heap.size + 1 + 1 + 1, 0, none⟩) 4 4, .slice (some ⟨w.heap.size + 1 + 1 + 1 + 1 + 1, 0, none⟩) 3 3] ∧ DV.ok (exWF w) (exWF w).heap.size ⟨⟨some ⟨w.heap.size + 1, 0, none⟩, 3, 3, some ⟨w.heap.size + 1 + 1, 0, none⟩, 1, 1, some ⟨w.heap.size + 1 + 1 + 1, 0, none⟩, 4, 4, exA false⟩, some ⟨w.heap.size + 1 + 1 + 1 + 1 + 1, 0, none⟩, 3, 3, exL⟩ ∧ Below w.heap.size w (exWF w) := by
 have k0 : Blk (exWF w) w.heap.size 37 [.slice (some ⟨w.heap.size + 1, 0, none⟩) 3 3, .int .i64 3, .slice (some ⟨w.heap.size + 1 + 1, 0, none⟩) 1 1, .slice (some ⟨w.heap.size + 1 + 1 + 1, 0, none⟩) 4 4, .slice (some ⟨w.heap.size + 1 + 1 + 1 + 1 + 1, 0, none⟩) 3 3] := by unfold exWF; (repeat (first | (refine Blk.at_ _ _ _ ?_; simp; done) | (refine Blk.at_ _ _ _ rfl) | refine Blk.al ?_ _))
 have k1 : Blk (exWF w) (w.heap.size + 1) 3 [.int .i64 0, .int .i64 1, .int .i64 2] := by unfold exWF; (repeat (first | (refine Blk.at_ _ _ _ ?_; simp; done) | (refine Blk.at_ _ _ _ rfl) | refine Blk.al ?_ _))
 have k2 : Blk (exWF w) (w.heap.size + 1 + 1) 3 [.int .i64 0] := by unfold exWF; (repeat (first | (refine Blk.at_ _ _ _ ?_; simp; done) | (refine Blk.at_ _ _ _ rfl) | refine Blk.al ?_ _))
 have k3 : Blk (exWF w) (w.heap.size + 1 + 1 + 1) 106 [.int .i64 0, .int .i64 0, .int .i64 0, .int .i64 0, .int .i64 1, .int .i64 1, .int .i64 1, .int .i64 0, .int .i64 2, .int .i64 2, .int .i64 2, .int .i64 1] := by unfold exWF; (repeat (first | (refine Blk.at_ _ _ _ ?_; simp; done) | (refine Blk.at_ _ _ _ rfl) | refine Blk.al ?_ _))
 have k4 : Blk (exWF w) (w.heap.size + 1 + 1 + 1 + 1 + 1) 67 [.string ⟨#[97]⟩, .bool false, .bool true, .bool false, .int .i64 0, .string ⟨#[102]⟩, .bool false, .bool false, .bool false, .int .i64 1, .string ⟨#[98]⟩, .bool false, .bool true, .bool false, .int .i64 0] := by unfold exWF; (repeat (first | (refine Blk.at_ _ _ _ ?_; simp; done) | (refine Blk.at_ _ _ _ rfl) | refine Blk.al ?_ _))
 have hb : Below w.heap.size w (exWF w) := by unfold exWF; (repeat (first | assumption | exact Below.refl _ _ | refine below_drewN ?_ _ | (refine Below.alloc ?_ ?_ _; rotate_left; · first | (simp; done) | (simp; omega))))
 have r1 : RdI (exWF w) (exWF w).heap.size (some ⟨w.heap.size + 1, 0, none⟩) (exA false).al := rdI_blk (l := [0, 1, 2]) k1
 have r2 : RdI (exWF w) (exWF w).heap.size (some ⟨w.heap.size + 1 + 1, 0, none⟩) (exA false).ma := rdI_blk (l := [0]) k2
 have r3 : RdX (exWF w) (exWF w).heap.size (some ⟨w.heap.size + 1 + 1 + 1, 0, none⟩) (exA false).ed := rdX_blk (l := (exA false).ed) k3
 have r4 : RdE (exWF w) (exWF w).heap.size (some ⟨w.heap.size + 1 + 1 + 1 + 1 + 1, 0, none⟩) exL := rdE_blk exL_small k4
 exact ⟨k0, ⟨⟨rfl, by dsimp only; omega, by dsimp only; omega, r1, rfl, by dsimp only; omega, by dsimp only; omega, r2, rfl, by dsimp only; omega, by dsimp only; omega, r3⟩, rfl, r4, by dsimp only; omega, by dsimp only; omega⟩, hb⟩
def exWT (w : World) : World := (((((((((w.alloc (.cells #[.slice (some ⟨w.heap.size + 1 + 1 + 1 + 1 + 1, 0, none⟩) 3 3, .int .i64 2, .slice (some ⟨w.heap.size + 1 + 1 + 1 + 1 + 1 + 1, 0, none⟩) 1 1, .slice (some ⟨w.heap.size + 1 + 1 + 1 + 1 + 1 + 1 + 1, 0, none⟩) 3 3, .slice (some ⟨w.heap.size + 1 + 1 + 1 + 1 + 1 + 1 + 1 + 1, 0, none⟩) 3 3] 37)).alloc (.cells #[.int .i64 0, .int .i64 1, .int .i64 2] 3)).alloc (.cells #[.int .i64 0] 3)).alloc (.cells #[.int .i64 0, .int .i64 0, .int .i64 0, .int .i64 0, .int .i64 1, .int .i64 1, .int .i64 1, .int .i64 0, .int .i64 2, .int .i64 2, .int .i64 2, .int .i64 1] 106)).alloc (.cells #[.slice (some ⟨w.heap.size + 1 + 1 + 1 + 1 + 1, 0, none⟩) 3 3, .int .i64 2, .slice (some ⟨w.heap.size + 1 + 1 + 1 + 1 + 1 + 1, 0, none⟩) 1 1, .slice (some ⟨w.heap.size + 1 + 1 + 1 + 1 + 1 + 1 + 1, 0, none⟩) 3 3] 34)).alloc (.cells #[.int .i64 0, .int .i64 1, .int .i64 2] 3)).alloc (.cells #[.int .i64 0] 3)).alloc (.cells #[.int .i64 0, .int .i64 0, .int .i64 0, .int .i64 0, .int .i64 1, .int .i64 1, .int .i64 1, .int .i64 0, .int .i64 1] 106)).alloc (.cells #[.string ⟨#[97]⟩, .bool false, .bool true, .bool false, .int .i64 0, .string ⟨#[102]⟩, .bool false, .bool false, .bool false, .int .i64 1, .string ⟨#[98]⟩, .bool false, .bool true, .bool false, .int .i64 0] 67))
theorem exWT_ok (w : World) : Blk (exWT w) w.heap.size 37 [.slice (some ⟨w.heap.size + 1 + 1 + 1 + 1 + 1, 0, none⟩) 3 3, .int .i64 2, .slice (some ⟨w.heap.size + 1 + 1 + 1 + 1 + 1 + 1, 0, none⟩) 1 1, .slice (some ⟨w.heap.size + 1 + 1 + 1 + 1 + 1 + 1 + 1, 0, none⟩) 3 3, .slice (some ⟨w.heap.size + 1 + 1 + 1 + 1 + 1 + 1 + 1 + 1, 0, none⟩) 3 3] ∧ DV.ok (exWT w) (exWT w).heap.size ⟨⟨some ⟨w.heap.size + 1 + 1 + 1 + 1 + 1, 0, none⟩, 3, 3, some ⟨w.heap.size + 1 + 1 + 1 + 1 + 1 + 1, 0, none⟩, 1, 1, some ⟨w.heap.size + 1 + 1 + 1 + 1 + 1 + 1 + 1, 0, none⟩, 3, 3, exA true⟩, some ⟨w.heap.size + 1 + 1 + 1 + 1 + 1 + 1 + 1 + 1, 0, none⟩, 3, 3, exL⟩ ∧ Below w.heap.size w (exWT w) := by
 have k0 : Blk (exWT w) w.heap.size 37 [.slice (some ⟨w.heap.size + 1 + 1 + 1 + 1 + 1, 0, none⟩) 3 3, .int .i64 2, .slice (some ⟨w.heap.size + 1 + 1 + 1 + 1 + 1 + 1, 0, none⟩) 1 1, .slice (some ⟨w.heap.size + 1 + 1 + 1 + 1 + 1 + 1 + 1, 0, none⟩) 3 3, .slice (some ⟨w.heap.size + 1 + 1 + 1 + 1 + 1 + 1 + 1 + 1, 0, none⟩) 3 3] := by unfold exWT; (repeat (first | (refine Blk.at_ _ _ _ ?_; simp; done) | (refine Blk.at_ _ _ _ rfl) | refine Blk.al ?_ _))
 have k1 : Blk (exWT w) (w.heap.size + 1 + 1 + 1 + 1 + 1) 3 [.int .i64 0, .int .i64 1, .int .i64 2] := by unfold exWT; (repeat (first | (refine Blk.at_ _ _ _ ?_; simp; done) | (refine Blk.at_ _ _ _ rfl) | refine Blk.al ?_ _))
 have k2 : Blk (exWT w) (w.heap.size + 1 + 1 + 1 + 1 + 1 + 1) 3 [.int .i64 0] := by unfold exWT; (repeat (first | (refine Blk.at_ _ _ _ ?_; simp; done) | (refine Blk.at_ _ _ _ rfl) | refine Blk.al ?_ _))
 have k3 : Blk (exWT w) (w.heap.size + 1 + 1 + 1 + 1 + 1 + 1 + 1) 106 [.int .i64 0, .int .i64 0, .int .i64 0, .int .i64 0, .int .i64 1, .int .i64 1, .int .i64 1, .int .i64 0, .int .i64 1] := by unfold exWT; (repeat (first | (refine Blk.at_ _ _ _ ?_; simp; done) | (refine Blk.at_ _ _ _ rfl) | refine Blk.al ?_ _))
 have k4 : Blk (exWT w) (w.heap.size + 1 + 1 + 1 + 1 + 1 + 1 + 1 + 1) 67 [.string ⟨#[97]⟩, .bool false, .bool true, .bool false, .int .i64 0, .string ⟨#[102]⟩, .bool false, .bool false, .bool false, .int .i64 1, .string ⟨#[98]⟩, .bool false, .bool true, .bool false, .int .i64 0] := by unfold exWT; (repeat (first | (refine Blk.at_ _ _ _ ?_; simp; done) | (refine Blk.at_ _ _ _ rfl) | refine Blk.al ?_ _))
 have hb : Below w.heap.size w (exWT w) := by unfold exWT; (repeat (first | assumption | exact Below.refl _ _ | refine below_drewN ?_ _ | (refine Below.alloc ?_ ?_ _; rotate_left; · first | (simp; done) | (simp; omega))))
 have r1 : RdI (exWT w) (exWT w).heap.size (some ⟨w.heap.size + 1 + 1 + 1 + 1 + 1, 0, none⟩) (exA true).al := rdI_blk (l := [0, 1, 2]) k1
 have r2 : RdI (exWT w) (exWT w).heap.size (some ⟨w.heap.size + 1 + 1 + 1 + 1 + 1 + 1, 0, none⟩) (exA true).ma := rdI_blk (l := [0]) k2
 have r3 : RdX (exWT w) (exWT w).heap.size (some ⟨w.heap.size + 1 + 1 + 1 + 1 + 1 + 1 + 1, 0, none⟩) (exA true).ed := rdX_blk (l := (exA true).ed) k3
 have r4 : RdE (exWT w) (exWT w).heap.size (some ⟨w.heap.size + 1 + 1 + 1 + 1 + 1 + 1 + 1 + 1, 0, none⟩) exL := rdE_blk exL_small k4
 exact ⟨k0, ⟨⟨rfl, by dsimp only; omega, by dsimp only; omega, r1, rfl, by dsimp only; omega, by dsimp only; omega, r2, rfl, by dsimp only; omega, by dsimp only; omega, r3⟩, rfl, r4, by dsimp only; omega, by dsimp only; omega⟩, hb⟩
set_option maxRecDepth 100000 in
set_option maxHeartbeats 3200000 in
theorem law_example41 (b : Bool) (w : World) : Calls Try.prog 42 #[.bool b] w fun e w' => ∃ z : DV, e = .returned (.agg (dvc z).toArray) ∧ z.ok w' w'.heap.size ∧ z.x.a = exA b ∧ z.l = exL ∧ z.nv = 3 ∧ Below w.heap.size w w' := by
 cases b with
 | false =>
  have hk := exWF_ok w
  have z0 := hk.1.cell (j := 0) rfl
  have z1 := hk.1.cell (j := 1) rfl
  have z2 := hk.1.cell (j := 2) rfl
  have z3 := hk.1.cell (j := 3) rfl
  have z4 := hk.1.cell (j := 4) rfl
  have HK := Lib.hid hk
  have Z0 := Lib.hid z0; clear z0
  have Z1 := Lib.hid z1; clear z1
  have Z2 := Lib.hid z2; clear z2
  have Z3 := Lib.hid z3; clear z3
  have Z4 := Lib.hid z4; clear z4
  clear hk
  go_enter Try.func42, Try.ntmps42
  go_wp2
  rw [show ((((((w.alloc (.cells #[.slice (some ⟨w.heap.size + 1, 0, none⟩) 3 3, .int .i64 3, .slice (some ⟨w.heap.size + 1 + 1, 0, none⟩) 1 1, .slice (some ⟨w.heap.size + 1 + 1 + 1, 0, none⟩) 4 4, .slice (some ⟨w.heap.size + 1 + 1 + 1 + 1 + 1, 0, none⟩) 3 3] 37)).alloc (.cells #[.int .i64 0, .int .i64 1, .int .i64 2] 3)).alloc (.cells #[.int .i64 0] 3)).alloc (.cells #[.int .i64 0, .int .i64 0, .int .i64 0, .int .i64 0, .int .i64 1, .int .i64 1, .int .i64 1, .int .i64 0, .int .i64 2, .int .i64 2, .int .i64 2, .int .i64 1] 106)).alloc (.cells #[.slice (some ⟨w.heap.size + 1, 0, none⟩) 3 3, .int .i64 3, .slice (some ⟨w.heap.size + 1 + 1, 0, none⟩) 1 1, .slice (some ⟨w.heap.size + 1 + 1 + 1, 0, none⟩) 4 4] 34)).alloc (.cells #[.string ⟨#[97]⟩, .bool false, .bool true, .bool false, .int .i64 0, .string ⟨#[102]⟩, .bool false, .bool false, .bool false, .int .i64 1, .string ⟨#[98]⟩, .bool false, .bool true, .bool false, .int .i64 0] 67)) = exWF w from rfl]
  refine bodyPost_ret (v := .agg #[.slice (some ⟨w.heap.size + 1, 0, none⟩) 3 3, .int .i64 3, .slice (some ⟨w.heap.size + 1 + 1, 0, none⟩) 1 1, .slice (some ⟨w.heap.size + 1 + 1 + 1, 0, none⟩) 4 4, .slice (some ⟨w.heap.size + 1 + 1 + 1 + 1 + 1, 0, none⟩) 3 3]) (by simp [results, Try.results42, go_sem, Z0.out, Z1.out, Z2.out, Z3.out, Z4.out]) rfl ?_
  exact ⟨_, rfl, HK.out.2.1, rfl, rfl, rfl, HK.out.2.2⟩
 | true =>
  have hk := exWT_ok w
  have z0 := hk.1.cell (j := 0) rfl
  have z1 := hk.1.cell (j := 1) rfl
  have z2 := hk.1.cell (j := 2) rfl
  have z3 := hk.1.cell (j := 3) rfl
  have z4 := hk.1.cell (j := 4) rfl
  have HK := Lib.hid hk
  have Z0 := Lib.hid z0; clear z0
  have Z1 := Lib.hid z1; clear z1
  have Z2 := Lib.hid z2; clear z2
  have Z3 := Lib.hid z3; clear z3
  have Z4 := Lib.hid z4; clear z4
  clear hk
  go_enter Try.func42, Try.ntmps42
  go_wp2
  rw [show (((((((((w.alloc (.cells #[.slice (some ⟨w.heap.size + 1 + 1 + 1 + 1 + 1, 0, none⟩) 3 3, .int .i64 2, .slice (some ⟨w.heap.size + 1 + 1 + 1 + 1 + 1 + 1, 0, none⟩) 1 1, .slice (some ⟨w.heap.size + 1 + 1 + 1 + 1 + 1 + 1 + 1, 0, none⟩) 3 3, .slice (some ⟨w.heap.size + 1 + 1 + 1 + 1 + 1 + 1 + 1 + 1, 0, none⟩) 3 3] 37)).alloc (.cells #[.int .i64 0, .int .i64 1, .int .i64 2] 3)).alloc (.cells #[.int .i64 0] 3)).alloc (.cells #[.int .i64 0, .int .i64 0, .int .i64 0, .int .i64 0, .int .i64 1, .int .i64 1, .int .i64 1, .int .i64 0, .int .i64 2, .int .i64 2, .int .i64 2, .int .i64 1] 106)).alloc (.cells #[.slice (some ⟨w.heap.size + 1 + 1 + 1 + 1 + 1, 0, none⟩) 3 3, .int .i64 2, .slice (some ⟨w.heap.size + 1 + 1 + 1 + 1 + 1 + 1, 0, none⟩) 1 1, .slice (some ⟨w.heap.size + 1 + 1 + 1 + 1 + 1 + 1 + 1, 0, none⟩) 3 3] 34)).alloc (.cells #[.int .i64 0, .int .i64 1, .int .i64 2] 3)).alloc (.cells #[.int .i64 0] 3)).alloc (.cells #[.int .i64 0, .int .i64 0, .int .i64 0, .int .i64 0, .int .i64 1, .int .i64 1, .int .i64 1, .int .i64 0, .int .i64 1] 106)).alloc (.cells #[.string ⟨#[97]⟩, .bool false, .bool true, .bool false, .int .i64 0, .string ⟨#[102]⟩, .bool false, .bool false, .bool false, .int .i64 1, .string ⟨#[98]⟩, .bool false, .bool true, .bool false, .int .i64 0] 67)) = exWT w from rfl]
  refine bodyPost_ret (v := .agg #[.slice (some ⟨w.heap.size + 1 + 1 + 1 + 1 + 1, 0, none⟩) 3 3, .int .i64 2, .slice (some ⟨w.heap.size + 1 + 1 + 1 + 1 + 1 + 1, 0, none⟩) 1 1, .slice (some ⟨w.heap.size + 1 + 1 + 1 + 1 + 1 + 1 + 1, 0, none⟩) 3 3, .slice (some ⟨w.heap.size + 1 + 1 + 1 + 1 + 1 + 1 + 1 + 1, 0, none⟩) 3 3]) (by simp [results, Try.results42, go_sem, Z0.out, Z1.out, Z2.out, Z3.out, Z4.out]) rfl ?_
  exact ⟨_, rfl, HK.out.2.1, rfl, rfl, rfl, HK.out.2.2⟩
end Go.Proofs.Ytddhaidimadliaa

/- Walks: known. -/
namespace Go.Proofs.Ytddhaidimadliaa
open Go.RowKit Go

def exM (b : Bool) : Dm := ⟨exA b, [true, false, true], [0, 1, 0]⟩
theorem ex_m {z : DV} {b : Bool} (ha : z.x.a = exA b) (hl : z.l = exL) : z.m = exM b := by
 unfold DV.m exM
 rw [ha, hl]; rfl
theorem ex_stl {z : DV} {b : Bool} (ha : z.x.a = exA b) (hl : z.l = exL) (hn : z.nv = 3) (c : Int) (hc : c = 1 ∨ c = 2) : stlE z c = 0 := by
 obtain ⟨⟨A, na, ca, M, nm, cm, E, ne, ce, a⟩, V, nv, cv, l⟩ := z
 dsimp only at ha hl hn
 subst ha hl hn
 rcases hc with rfl | rfl <;> cases b <;> kernel_rfl
theorem exM_wf (b : Bool) : WF (exM b).a := by
 refine chkA_wf ?_
 cases b <;> kernel_rfl
theorem exM_st (b : Bool) : (exM b).a.st ≠ 0 ∧ (exM b).a.st ≤ 40 := by cases b <;> decide
theorem ex1 : (twin (exM false) 1).map diaS = some (some ([-1, 1, 0], 2)) := by kernel_rfl
theorem ex2 : (twin (exM true) 1).map diaS = some none := by kernel_rfl
theorem ex3 : (twin (exM true) 2).map (fun s => (diaS s).map Prod.snd) = some (some 0) := by kernel_rfl
theorem ex4 : (twin (exM true) 1).map (fun s => (lasS s).map fun q => hasB (fst1 (q.1.map Ed.e)) 1 && decide (0 < (fst1 (q.2.map Ed.e)).length)) = some (some true) := by kernel_rfl
theorem ex_R (b : Bool) (c : Int) : ∃ R, twin (exM b) c = some R ∧ EdR R.ts.length R.es := by
 obtain ⟨R, h1, h2⟩ := twin_some (c := c) (exM_wf b) (exM_st b).1 (exM_st b).2
 exact ⟨R, h1, tw_edr h2⟩
theorem exA_st (b : Bool) : (exA b).st ≤ 40 := (exM_st b).2
theorem ex_dia {z : DV} {b : Bool} (W : World) (h : z.ok W W.heap.size) (ha : z.x.a = exA b) (hl : z.l = exL) (hn : z.nv = 3) (c : Int) (hc : c = 1 ∨ c = 2) (n : Int) (q : Bool) (hr : ∀ R, twin (exM b) c = some R → bndS R = n ∧ (diaS R).isSome = q) :
  Calls Try.prog 24 #[.agg (dvc z).toArray, .int .i64 c] W fun e w' => e = .returned (.tuple #[.int .i64 n, .bool q, .int .i64 0]) ∧ Below W.heap.size W w' := by
 obtain ⟨R, h1, h2⟩ := ex_R b c
 obtain ⟨e1, e2⟩ := hr R h1
 rw [← e1, ← e2]
 exact dm_Diagnosable_ok z c W h (ex_stl ha hl hn c hc) (by rw [ha]; exact exA_st b) R (by rw [ex_m ha hl]; exact h1) h2
theorem ex_d1 : ∀ R, twin (exM false) 1 = some R → bndS R = 2 ∧ (diaS R).isSome = true := fun R h => by
 have := ex1
 rw [h] at this
 simp only [Option.map_some, Option.some.injEq] at this
 unfold bndS
 rw [this]
 exact ⟨rfl, rfl⟩
theorem ex_d2 : ∀ R, twin (exM true) 1 = some R → bndS R = 0 ∧ (diaS R).isSome = false := fun R h => by
 have := ex2
 rw [h] at this
 simp only [Option.map_some, Option.some.injEq] at this
 unfold bndS
 rw [this]
 exact ⟨rfl, rfl⟩
theorem ex_d3 : ∀ R, twin (exM true) 2 = some R → bndS R = 0 ∧ (diaS R).isSome = true := fun R h => by
 have := ex3
 rw [h] at this
 simp only [Option.map_some, Option.some.injEq] at this
 cases hd : diaS R with
 | none => rw [hd] at this; cases this
 | some p =>
  rw [hd] at this
  simp only [Option.map_some, Option.some.injEq] at this
  unfold bndS
  rw [hd]
  exact ⟨this, rfl⟩
theorem ex_rk {z : DV} (W : World) (h : z.ok W W.heap.size) (ha : z.x.a = exA false) (hl : z.l = exL) (hn : z.nv = 3) :
  Calls Try.prog 40 #[.agg (dvc z).toArray, .int .i64 1] W fun e w' => ∃ (A : Option Addr) (c : Nat), e = .returned (.tuple #[.slice A 3 c, .int .i64 0]) ∧ w'.ownsRow W.heap.size 3 1 (.slice A 3 c) 3 (iv [-1, 1, 0]) ∧ Below W.heap.size W w' := by
 obtain ⟨R, h1, h2⟩ := ex_R false 1
 have hd := ex1
 rw [h1] at hd
 simp only [Option.map_some, Option.some.injEq] at hd
 refine (dm_Ranks_ok z 1 W h (ex_stl ha hl hn 1 (.inl rfl)) (by rw [ha]; exact exA_st false) R (by rw [ex_m ha hl]; exact h1) h2).mono ?_
 intro e w' hr
 rw [hd] at hr
 obtain ⟨hb, v, rfl, ho⟩ := hr
 obtain ⟨A, c, rfl⟩ := own_shape ho
 exact ⟨A, c, rfl, ho, hb⟩
theorem ex_las {z : DV} (W : World) (h : z.ok W W.heap.size) (ha : z.x.a = exA true) (hl : z.l = exL) (hn : z.nv = 3) :
  Calls Try.prog 41 #[.agg (dvc z).toArray, .int .i64 1] W fun e w' => ∃ (A1 A2 A3 A4 : Option Addr) (n1 n2 n3 n4 c1 c2 c3 c4 : Nat) (l1 : List Int), e = .returned (.tuple #[.agg #[.slice A1 n1 c1, .slice A2 n2 c2, .slice A3 n3 c3, .slice A4 n4 c4], .bool true, .int .i64 0]) ∧ w'.ownsRow W.heap.size 3 1 (.slice A1 n1 c1) n1 (iv l1) ∧ l1.length = n1 ∧ hasB l1 1 = true ∧ 0 < n2 ∧ Below W.heap.size W w' := by
 obtain ⟨R, h1, h2⟩ := ex_R true 1
 have hd := ex4
 rw [h1] at hd
 simp only [Option.map_some, Option.some.injEq] at hd
 refine (dm_Lasso_ok z 1 W h (ex_stl ha hl hn 1 (.inl rfl)) (by rw [ha]; exact exA_st true) R (by rw [ex_m ha hl]; exact h1) h2).mono ?_
 intro e w' hr
 cases hq : lasS R with
 | none => rw [hq] at hd; cases hd
 | some q =>
  obtain ⟨p, cy⟩ := q
  rw [hq] at hr hd
  simp only [Option.map_some, Option.some.injEq, Bool.and_eq_true, decide_eq_true_eq] at hd
  obtain ⟨hb, v1, v2, v3, v4, rfl, o1, o2, o3, o4⟩ := hr
  obtain ⟨A1, c1, rfl⟩ := own_shape o1
  obtain ⟨A2, c2, rfl⟩ := own_shape o2
  obtain ⟨A3, c3, rfl⟩ := own_shape o3
  obtain ⟨A4, c4, rfl⟩ := own_shape o4
  exact ⟨A1, A2, A3, A4, _, _, _, _, c1, c2, c3, c4, _, rfl, o1, rfl, hd.1, hd.2, hb⟩
theorem quiet_below {w w' : World} (h : ∃ n, w' = w.drewN n) : Below w.heap.size w w' := by
 obtain ⟨n, rfl⟩ := h
 exact below_drewN (Below.refl _ _) n
set_option maxRecDepth 100000 in
set_option maxHeartbeats 6400000 in
theorem known41 (w : World) : Calls Try.prog 9 #[] w fun e w' => e = .returned (.bool true) ∧ Below w.heap.size w w' := by
 go_enter Try.func9, Try.ntmps9
 go_wp2_with fail
 refine (law_example41 false w).mono ?_
 rintro _ w1 ⟨z1, rfl, hz, ha, hl, hn, hb1⟩
 have HC := Lib.hid (ex_dia w1 hz ha hl hn 1 (.inl rfl) 2 true ex_d1)
 have HB1 := Lib.hid hb1
 clear hz ha hl hn hb1
 go_wp2_with fail
 refine HC.out.mono ?_
 rintro _ w2 ⟨rfl, hb⟩
 have HB2 := Lib.hid (HB1.out.trans (hb.mono HB1.out.size))
 clear hb HC HB1
 go_wp2_with fail
 refine (law_example41 false w2).mono ?_
 rintro _ w3 ⟨z2, rfl, hz, ha, hl, hn, hb⟩
 have HC := Lib.hid (ex_rk w3 hz ha hl hn)
 have HB3 := Lib.hid (HB2.out.trans (hb.mono HB2.out.size))
 clear hz ha hl hn hb HB2
 go_wp2_with fail
 refine HC.out.mono ?_
 rintro _ w4 ⟨RA, rc, rfl, ho, hb⟩
 have HB4 := Lib.hid (HB3.out.trans (hb.mono HB3.out.size))
 have HO := Lib.hid ho
 clear hb HC HB3 ho
 go_wp2_with fail
 refine (law_example41 true w4).mono ?_
 rintro _ w5 ⟨z3, rfl, hz, ha, hl, hn, hb⟩
 have HC := Lib.hid (ex_dia w5 hz ha hl hn 1 (.inl rfl) 0 false ex_d2)
 have HB5 := Lib.hid (HB4.out.trans (hb.mono HB4.out.size))
 have HO5 := Lib.hid (own_below HO.out hb)
 clear hz ha hl hn hb HB4 HO
 go_wp2_with fail
 refine HC.out.mono ?_
 rintro _ w6 ⟨rfl, hb⟩
 have HB6 := Lib.hid (HB5.out.trans (hb.mono HB5.out.size))
 have HO6 := Lib.hid (own_below HO5.out hb)
 clear hb HC HB5 HO5
 go_wp2_with fail
 refine (law_example41 true w6).mono ?_
 rintro _ w7 ⟨z4, rfl, hz, ha, hl, hn, hb⟩
 have HC := Lib.hid (ex_las w7 hz ha hl hn)
 have HB7 := Lib.hid (HB6.out.trans (hb.mono HB6.out.size))
 have HO7 := Lib.hid (own_below HO6.out hb)
 clear hz ha hl hn hb HB6 HO6
 go_wp2_with fail
 refine HC.out.mono ?_
 rintro _ w8 ⟨L1, L2, L3, L4, n1, n2, n3, n4, d1, d2, d3, d4, l1, rfl, hol, hln, hh, h0, hb⟩
 have HB8 := Lib.hid (HB7.out.trans (hb.mono HB7.out.size))
 have HO8 := Lib.hid (own_below HO7.out hb)
 have HOL := Lib.hid hol
 have HLN := Lib.hid hln
 have HH := Lib.hid hh
 have hbx := box_below w8 (.cells #[.slice L1 n1 d1, .slice L2 n2 d2, .slice L3 n3 d3, .slice L4 n4 d4] 71)
 have kb : Blk (w8.alloc (.cells #[.slice L1 n1 d1, .slice L2 n2 d2, .slice L3 n3 d3, .slice L4 n4 d4] 71)) w8.heap.size 71 [.slice L1 n1 d1, .slice L2 n2 d2, .slice L3 n3 d3, .slice L4 n4 d4] := Blk.new _ _ [_, _, _, _]
 have HB9 := Lib.hid (HB8.out.trans (hbx.mono HB8.out.size))
 have HO9 := Lib.hid (own_below HO8.out hbx)
 have HOL9 := Lib.hid (own_below HOL.out hbx)
 clear hol hln hh hb HC HB7 HO7 hbx HB8 HO8 HOL
 go_upto_region 5 with fail
 obtain ⟨bx, hbe⟩ : ∃ b, w8.heap.size = b := ⟨_, rfl⟩
 rw [hbe] at kb ⊢
 generalize w8.alloc (.cells #[.slice L1 n1 d1, .slice L2 n2 d2, .slice L3 n3 d3, .slice L4 n4 d4] 71) = w9 at kb HB9 HO9 HOL9 ⊢
 clear hbe
 have HKB := Lib.hid kb
 clear kb
 go_wp2_with fail
 refine (law_example41 true w9).mono ?_
 rintro _ w10 ⟨z5, rfl, hz, ha, hl, hn, hb⟩
 have HC := Lib.hid (ex_dia w10 hz ha hl hn 2 (.inr rfl) 0 true ex_d3)
 have HB10 := Lib.hid (HB9.out.trans (hb.mono HB9.out.size))
 have HO10 := Lib.hid (own_below HO9.out hb)
 have HOL10 := Lib.hid (own_below HOL9.out hb)
 have HKB10 := Lib.hid (HKB.out.below hb HKB.out.lt)
 clear hz ha hl hn hb HB9 HO9 HOL9 HKB
 go_wp2_with fail
 refine HC.out.mono ?_
 rintro _ w11 ⟨rfl, hb⟩
 have HB11 := Lib.hid (HB10.out.trans (hb.mono HB10.out.size))
 have hbl := box_below w11 (.cells #[.int .i64 (-1), .int .i64 1, .int .i64 0] 3)
 have kl : Blk (w11.alloc (.cells #[.int .i64 (-1), .int .i64 1, .int .i64 0] 3)) w11.heap.size 3 (iv [-1, 1, 0]) := Blk.new _ _ [_, _, _]
 have HB12 := Lib.hid (HB11.out.trans (hbl.mono HB11.out.size))
 have ho12 := own_below (own_below HO10.out hb) hbl
 have hol12 := own_below (own_below HOL10.out hb) hbl
 have HKB12 := Lib.hid ((HKB10.out.below hb HKB10.out.lt).below hbl (HKB10.out.below hb HKB10.out.lt).lt)
 have HEQ := Lib.hid (slices_Equal_n RA (some ⟨w11.heap.size, 0, none⟩) rc 3 3 3 [-1, 1, 0] [-1, 1, 0] true _ rfl rfl (by decide) (RdI.of_own ho12) (own_cap' ho12).1 (own_cap' ho12).2 (rdI_blk kl))
 have HOL12 := Lib.hid hol12
 clear hb HC HB10 HO10 HOL10 HKB10 hbl kl ho12 hol12 HB11
 go_wp2_with fail
 refine HEQ.out.mono ?_
 rintro _ w13 ⟨rfl, hd⟩
 have hb13 : Below _ _ w13 := quiet_below hd
 have HB13 := Lib.hid (HB12.out.trans (hb13.mono HB12.out.size))
 have hol13 := own_below HOL12.out hb13
 have k13 := HKB12.out.below hb13 HKB12.out.lt
 have e0 := k13.cell (j := 0) rfl
 have e1 := k13.cell (j := 1) rfl
 have HCO := Lib.hid (slices_Contains L1 d1 n1 l1 1 true w13 HLN.out HH.out (RdI.of_own hol13) (own_cap' hol13).1 (own_cap' hol13).2)
 have h0' : (0 : Int) < (n2 : Int) := by omega
 clear HEQ hd hb13 hol13 HB12 HOL12 HKB12 k13
 go_wp2_with fail
 refine HCO.out.mono ?_
 rintro _ w14 ⟨rfl, rfl⟩
 go_wp2
 go_ret
 exact ⟨rfl, HB13.out⟩
end Go.Proofs.Ytddhaidimadliaa
