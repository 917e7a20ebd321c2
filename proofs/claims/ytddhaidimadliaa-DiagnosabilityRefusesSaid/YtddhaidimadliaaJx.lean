/- Walks: the events of a sketch; Make. -/
import Derived.Test.YtddhaidimadliaaJv
import Derived.Test.YtddhaidimadliaaGe
import Derived.Test.YtddhaidimadliaaPc
namespace Go.Proofs.Ytddhaidimadliaa
open Go.RowKit Go

/-- an event of the flags -/
def nmF (i : Nat) : ByteArray := strOfNums [97 + (i : Int)]
def evO (i : Nat) (v : Int) : Ev := if 48 ≤ v ∧ v < 52 then ⟨nmF i, false, false, false, v - 47⟩ else ⟨nmF i, bits BinOp.and IntKind.u8 v 1 == 1, bits BinOp.and IntKind.u8 v 2 == 2, bits BinOp.and IntKind.u8 v 4 == 4, 0⟩
def evF (l : List Int) : List Ev := l.mapIdx evO
end Go.Proofs.Ytddhaidimadliaa

/- Walks: Make of law 41: the model of a sketch. -/
namespace Go.Proofs.Ytddhaidimadliaa
open Go.RowKit Go

/-- a sketch -/
structure S4 where
 fl : List Int
 st : Int
 g : Gr
structure S4.ok (x : S4) : Prop where
 fl : x.fl.length = 5
 fr : ∀ v ∈ x.fl, 0 ≤ v ∧ v ≤ 255
 st : 0 ≤ x.st ∧ x.st ≤ 255
 g : x.g.ok
def s4c (x : S4) : List Value := bv x.fl ++ (.int .u8 x.st :: gcells x.g)
def S4.a (x : S4) : Aut := mkG (setB x.st 5) x.g
def S4.m (x : S4) : Dm := ⟨x.a, (evF x.fl).map Ev.o, (evF x.fl).map Ev.fault⟩
theorem evO_nm (i : Nat) (v : Int) : (evO i v).nm = nmF i := by unfold evO; split <;> rfl
theorem evErr_ok {pre : List ByteArray} {i : Nat} {v : Int} (h1 : nameB (nmF i) = true) (h2 : inB pre (nmF i) = false) : evErr pre (evO i v) = 0 := by
 unfold evErr
 rw [evO_nm, h1, h2, if_neg (by simp), if_neg (by simp)]
 unfold evO
 by_cases h : 48 ≤ v ∧ v < 52
 ·rw [if_pos h]
  dsimp only
  rw [if_neg (by omega), if_neg (by simp)]
 ·rw [if_neg h]
  dsimp only
  rw [if_neg (by omega), if_neg (by simp)]
theorem evF_chk {fl : List Int} (h : fl.length = 5) : chkE (evF fl) = 0 := by
 match fl, h with
 | [f0, f1, f2, f3, f4], _ =>
  show chkE [evO 0 f0, evO 1 f1, evO 2 f2, evO 3 f3, evO 4 f4] = 0
  unfold chkE
  rw [if_neg (by simp)]
  simp only [chkG, evO_nm, List.nil_append, List.cons_append]
  rw [evErr_ok (by kernel_rfl) (by kernel_rfl), evErr_ok (by kernel_rfl) (by kernel_rfl), evErr_ok (by kernel_rfl) (by kernel_rfl), evErr_ok (by kernel_rfl) (by kernel_rfl), evErr_ok (by kernel_rfl) (by kernel_rfl)]
  simp
theorem setB_in {x : Int} : ∀ v ∈ setB x 5, 0 ≤ v ∧ v < 5 := by
 intro v hv
 obtain ⟨i, hi, rfl, _⟩ := setB_mem.1 hv
 omega
theorem S4.wf {x : S4} (h : x.ok) : WF x.a := mkG_wf h.g (setB_inc _ _) (fun v hv => by have := setB_in v hv; omega)
/-- what Make returns -/
structure S4.is (x : S4) (z : DV) : Prop where
 a : z.x.a = x.a
 l : z.l = evF x.fl
 n : z.nv = 5
theorem S4.is.m {x : S4} {z : DV} (h : x.is z) : z.m = x.m := by unfold DV.m S4.m; rw [h.a, h.l]
theorem S4.is.dm {x : S4} {z : DV} (h : x.is z) (hx : x.ok) : dmE z = 0 := by
 unfold dmE
 rw [h.l, evF_chk hx.fl, if_neg (by simp), h.a, (S4.wf hx).chk, if_neg (by simp), if_neg]
 rw [h.n, Bool.not_eq_true, List.any_eq_false]
 intro v hv
 have h1 : v ∈ setB x.st 5 := by unfold S4.a at hv; rwa [mkG_al] at hv
 have := setB_in v h1
 simp
 omega
/-- a sketch's cells in its box -/
structure S4A (W : World) (b : Nat) (x : S4) : Prop where
 fl : W.rangeAt b 0 (bv x.fl)
 st : W.cell? ⟨b, 5, none⟩ = some (.int .u8 x.st)
 g : W.rangeAt b 6 (gcells x.g)
theorem S4A.of {W : World} {b : Nat} {t : TypeId} {x : S4} (h : Blk W b t (s4c x)) (hx : x.ok) : S4A W b x := by
 have hl : (bv x.fl).length = 5 := by unfold bv; rw [List.length_map]; exact hx.fl
 refine ⟨fun j v hv => ?_, ?_, fun j v hv => ?_⟩
 ·rw [Nat.zero_add]
  refine h.cell ?_
  unfold s4c
  rw [List.getElem?_append_left (List.getElem?_eq_some_iff.1 hv).1]; exact hv
 ·refine h.cell ?_
  unfold s4c
  rw [List.getElem?_append_right (by rw [hl]; exact Nat.le_refl _), hl]; rfl
 ·refine h.cell ?_
  unfold s4c
  rw [List.getElem?_append_right (by rw [hl]; omega), hl, show 6 + j - 5 = j + 1 by omega, List.getElem?_cons_succ]; exact hv
theorem S4A.far {W W' : World} {b b' : Nat} {x : S4} (h : S4A W b x) (hg : W.grownBy W' (some b')) (hne : b ≠ b') (hlt : b < W.heap.size) : S4A W' b x := by
 have hc : ∀ j, W'.cell? ⟨b, j, none⟩ = W.cell? ⟨b, j, none⟩ := fun j => World.cell?_of_block (a := ⟨b, j, none⟩) (hg.block b hlt (by intro e; injection e with e; exact hne e))
 exact ⟨fun j v hv => (hc _).trans (h.fl j v hv), (hc _).trans h.st, fun j v hv => (hc _).trans (h.g j v hv)⟩
end Go.Proofs.Ytddhaidimadliaa
