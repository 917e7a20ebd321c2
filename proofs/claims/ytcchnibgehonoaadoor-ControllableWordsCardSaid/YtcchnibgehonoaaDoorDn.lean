/- The law's supremal: plain and walk. -/
import Derived.Test.YtcchnibgehonoaaDoorDm
namespace Go.Proofs.YtcchnibgehonoaaDoor
open Go.RowKit Go Go.Maps

theorem hasB_int {a b : List Int} {x : Int} : hasB (intS a b) x = (hasB a x && hasB b x) := by
 rw [Bool.eq_iff_iff, Bool.and_eq_true, hasB_mem, hasB_mem, hasB_mem]
 unfold intS
 rw [List.mem_filter, hasB_mem]
section
variable {P R p : Aut} {u : List Int} {T : List (List Int)}
theorem Prob.sub (h : Prob P R u p T) : ∀ v ∈ R.al, v ∈ P.al := fun v hv => by
 have h4 := (prbE_zero h.err).2.2.2
 by_cases hm : v ∈ P.al
 ·exact hm
 ·have h5 : v ∈ minS R.al P.al := minS_mem.2 ⟨hv, hm⟩
  rw [List.eq_nil_of_length_eq_zero h4] at h5
  cases h5
theorem Prob.alq (h : Prob P R u p T) : p.al = P.al := by
 refine inc_unique h.pwf.inc h.wp.inc fun v => ?_
 rw [syn_al h.syn]
 show v ∈ mrg (mrg [] P.al) R.al ↔ _
 rw [mrg_mem, mrg_mem]
 constructor
 ·rintro ((h1 | h1) | h1)
  ·cases h1
  ·exact h1
  ·exact h.sub v h1
 ·intro h1; exact .inl (.inr h1)
theorem Prob.ev (h : Prob P R u p T) : ∀ x ∈ p.ed, hasB u x.e = hasB (intS u P.al) x.e := fun x hx => by
 have h1 := (h.pwf.erng x hx).2
 rw [h.alq] at h1
 rw [hasB_int, h1, Bool.and_true]
end
theorem clo_can {a : Aut} (h : canA a = a) : cloA a = mrkA a := by unfold cloA mrkA; rw [h]
end Go.Proofs.YtcchnibgehonoaaDoor
