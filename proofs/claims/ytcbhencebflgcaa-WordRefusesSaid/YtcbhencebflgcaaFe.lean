/- The statement WordRefuses: for any two words and two lists of at most 10 ints, Match returns the first error of Check. -/
import Derived.Test.YtcbhencebflgcaaRows
import Derived.Test.YtcbhencebflgcaaAr
import Derived.Test.YtcbhencebflgcaaLe
import Derived.WalkKit
import Derived.ProofKit
import Derived.OpenShut
import Derived.ShutString
import Derived.ChangeOld
import Derived.Below
namespace Go.Proofs.Ytcbhencebflgcaa
open Go.ChangeShapes Go.WideShapes Go.ChangeAt Go.RowKit Go
set_option linter.unusedVariables false
set_option maxRecDepth 100000 in
theorem wordRefuses_lifted (os : Os) (started : os.Started) (H : Type) (enc : TypeId × Value → H) :
    ReturnsInHanded {} Try.checked os 6 .any (Rows.wordRefusesSpec.pre6 enc Try.prog Try.f6 Rows.wordRefusesRow.domain false) (Rows.wordRefusesSpec.post enc Try.prog Try.f6 false true false false) := by
  refine returnsInHanded_of_change (C := Try.checked) own started (by kernel_rfl) Try.func6
    (ChangeSpec.witness6 (enc := enc) (C := Try.checked) false ⟨#[], #[.agg #[.slice none 0 0, .slice none 0 0], .agg #[.slice none 0 0, .slice none 0 0]], []⟩ 8 (by kernel_rfl) (by kernel_rfl) (by kernel_rfl) (by kernel_rfl)) ?_
  intro W base args ds gs before hval0 hW hcnd _
  have hval : ∀ (j : Nat) t v, Try.f6.params[j]? = some t → args[j]? = some v → Value.okWide Try.prog W .any base t v := hval0
  have hW' := hW
  obtain ⟨p, q, hA0, hV, rfl, hfz, hnd⟩ := hW
  have hA : DataW.TrodAll enc Try.prog W 0 (fun _ => true) true Try.f6.params.toList args.toList ds p := hA0
  rw [Try.params6] at hA hval
  obtain ⟨v0, vs0, d0, ds0, p0, q0, hargs, rfl, rfl, h0, r0⟩ := trodAll_cons hA
  obtain ⟨v1, vs1, d1, ds1, p1, q1, rfl, rfl, rfl, h1, r1⟩ := trodAll_cons r0
  obtain ⟨rfl, rfl, rfl⟩ := trodAll_nil r1
  obtain rfl : args = #[v0, v1] := by cases args; simp_all
  obtain ⟨rfl, rfl⟩ := trodVars_none hV
  have k0 := h0
  have lt0 : ∀ x ∈ p0, x.block < W.heap.size := by obtain ⟨m, hm⟩ := k0; exact DataW.trod_lt m _ _ _ hm
  obtain ⟨a0x0, n0x0, c0x0, l0x0, a0x1, n0x1, c0x1, l0x1, rfl, w0x0, w0x1⟩ := slArr2_of Try.underlying38 Try.underlying22 Try.underlying3 (by kernel_rfl) (by kernel_rfl) (by kernel_rfl) (hval 0 38 v0 rfl rfl) h0 (fun _ => rfl)
  obtain rfl := w0x0.1
  obtain rfl := w0x1.1
  have k1 := h1
  have lt1 : ∀ x ∈ p1, x.block < W.heap.size := by obtain ⟨m, hm⟩ := k1; exact DataW.trod_lt m _ _ _ hm
  obtain ⟨a1x0, n1x0, c1x0, l1x0, a1x1, n1x1, c1x1, l1x1, rfl, w1x0, w1x1⟩ := slArr2_of Try.underlying38 Try.underlying22 Try.underlying3 (by kernel_rfl) (by kernel_rfl) (by kernel_rfl) (hval 1 38 v1 rfl rfl) h1 (fun _ => rfl)
  obtain rfl := w1x0.1
  obtain rfl := w1x1.1
  clear hA0 hval0
  refine (refuses_walk a0x0 a0x1 a1x0 a1x1 c0x0 c0x1 c1x0 c1x1 l0x0 l0x1 l1x0 l1x1 W w0x0.rd w0x0.2.1 w0x0.2.2.1 w0x1.rd w0x1.2.1 w0x1.2.2.1 w1x0.rd w1x0.2.1 w1x0.2.2.1 w1x1.rd w1x1.2.1 w1x1.2.2.1).mono fun e W' ⟨he, bel⟩ => ?_
  subst he
  exact ⟨_, rfl, _, _, _, [], _, [], hW', trodAll_mk1 (shut_bool Try.underlying4 _), (trodAll_cons_mk (Below.trod laidOut (by kernel_rfl) (of_decide_eq_true (by kernel_rfl)) k0 bel lt0) (trodAll_cons_mk (Below.trod laidOut (by kernel_rfl) (of_decide_eq_true (by kernel_rfl)) k1 bel lt1) trodAll_mk0)), rfl, bel.frame _, fun h => by cases h⟩
theorem wordRefuses_over : Rows.wordRefusesRow.holds Try.pinned (OpenSpec.ofChange Rows.wordRefusesSpec) :=
  OpenClaim.holds_of_wide 6 Try.f6 rfl rfl rfl rfl rfl rfl rfl ⟨rfl, rfl, rfl, rfl, rfl⟩ rfl rfl rfl rfl rfl (by kernel_rfl) Try.func6 (by kernel_rfl)
    (of_decide_eq_true (by kernel_rfl)) (by unfold Func.isWrapper; first | (rw [if_pos (by decide +kernel)]; kernel_rfl) | (rw [if_neg (by decide +kernel)]; exact ⟨rfl, rfl⟩))
    (fun os started H enc _ => wordRefuses_lifted os started H enc)
theorem wordRefuses_holds : Rows.WordRefusesSaid := wordRefuses_over
#print axioms wordRefuses_holds
end Go.Proofs.Ytcbhencebflgcaa
