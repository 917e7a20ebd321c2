/- The statement WordConcats: for any three words of at most 20 ints and any set of small events, Concat joins them, Project leaves out all other events, and the projection of what is joined is that of all, joined. -/
import Derived.Test.YtcbhencebflgcaaRows
import Derived.Test.YtcbhencebflgcaaAr
import Derived.Test.YtcbhencebflgcaaLd
import Derived.WalkKit
import Derived.ProofKit
import Derived.OpenShut
import Derived.ShutString
import Derived.ChangeOld
import Derived.Below
namespace Go.Proofs.Ytcbhencebflgcaa
open Go.ChangeShapes Go.WideShapes Go.ChangeAt Go.RowKit Go
set_option linter.unusedVariables false
set_option maxRecDepth 100000 in
theorem wordConcats_lifted (os : Os) (started : os.Started) (H : Type) (enc : TypeId × Value → H) :
    ReturnsInHanded {} Try.checked os 8 .any (Rows.wordConcatsSpec.pre6 enc Try.prog Try.f8 Rows.wordConcatsRow.domain false) (Rows.wordConcatsSpec.post enc Try.prog Try.f8 false true false false) := by
  refine returnsInHanded_of_change (C := Try.checked) own started (by kernel_rfl) Try.func8
    (ChangeSpec.witness6 (enc := enc) (C := Try.checked) false ⟨#[], #[.agg #[.slice none 0 0, .slice none 0 0, .slice none 0 0], .int .u8 0], []⟩ 8 (by kernel_rfl) (by kernel_rfl) (by kernel_rfl) (by kernel_rfl)) ?_
  intro W base args ds gs before hval0 hW hcnd _
  have hval : ∀ (j : Nat) t v, Try.f8.params[j]? = some t → args[j]? = some v → Value.okWide Try.prog W .any base t v := hval0
  have hW' := hW
  obtain ⟨p, q, hA0, hV, rfl, hfz, hnd⟩ := hW
  have hA : DataW.TrodAll enc Try.prog W 0 (fun _ => true) true Try.f8.params.toList args.toList ds p := hA0
  rw [Try.params8] at hA hval
  obtain ⟨v0, vs0, d0, ds0, p0, q0, hargs, rfl, rfl, h0, r0⟩ := trodAll_cons hA
  obtain ⟨v1, vs1, d1, ds1, p1, q1, rfl, rfl, rfl, h1, r1⟩ := trodAll_cons r0
  obtain ⟨rfl, rfl, rfl⟩ := trodAll_nil r1
  obtain rfl : args = #[v0, v1] := by cases args; simp_all
  obtain ⟨rfl, rfl⟩ := trodVars_none hV
  have k0 := h0
  have lt0 : ∀ x ∈ p0, x.block < W.heap.size := by obtain ⟨m, hm⟩ := k0; exact DataW.trod_lt m _ _ _ hm
  obtain ⟨a0x0, n0x0, c0x0, l0x0, a0x1, n0x1, c0x1, l0x1, a0x2, n0x2, c0x2, l0x2, rfl, w0x0, w0x1, w0x2⟩ := slArr3_of Try.underlying42 Try.underlying22 Try.underlying3 (by kernel_rfl) (by kernel_rfl) (by kernel_rfl) (hval 0 42 v0 rfl rfl) h0 (fun _ => rfl)
  obtain rfl := w0x0.1
  obtain rfl := w0x1.1
  obtain rfl := w0x2.1
  obtain ⟨n1, rfl, rfl, rfl, w1⟩ := open_int Try.underlying5 (hval 1 5 v1 rfl rfl) h1
  clear hA0 hval0
  refine (concats_walk a0x0 a0x1 a0x2 c0x0 c0x1 c0x2 l0x0 l0x1 l0x2 n1 W w0x0.rd w0x0.2.1 w0x0.2.2.1 w0x1.rd w0x1.2.1 w0x1.2.2.1 w0x2.rd w0x2.2.1 w0x2.2.2.1 (bounds_u8 w1).1 (bounds_u8 w1).2).mono fun e W' ⟨he, bel⟩ => ?_
  subst he
  exact ⟨_, rfl, _, _, _, [], _, [], hW', trodAll_mk1 (shut_bool Try.underlying4 _), (trodAll_cons_mk (Below.trod laidOut (by kernel_rfl) (of_decide_eq_true (by kernel_rfl)) k0 bel lt0) (trodAll_cons_mk (shut_int Try.underlying5 w1) trodAll_mk0)), rfl, bel.frame _, fun h => by cases h⟩
theorem wordConcats_over : Rows.wordConcatsRow.holds Try.pinned (OpenSpec.ofChange Rows.wordConcatsSpec) :=
  OpenClaim.holds_of_wide 8 Try.f8 rfl rfl rfl rfl rfl rfl rfl ⟨rfl, rfl, rfl, rfl, rfl⟩ rfl rfl rfl rfl rfl (by kernel_rfl) Try.func8 (by kernel_rfl)
    (of_decide_eq_true (by kernel_rfl)) (by unfold Func.isWrapper; first | (rw [if_pos (by decide +kernel)]; kernel_rfl) | (rw [if_neg (by decide +kernel)]; exact ⟨rfl, rfl⟩))
    (fun os started H enc _ => wordConcats_lifted os started H enc)
theorem wordConcats_holds : Rows.WordConcatsSaid := wordConcats_over
#print axioms wordConcats_holds
end Go.Proofs.Ytcbhencebflgcaa
