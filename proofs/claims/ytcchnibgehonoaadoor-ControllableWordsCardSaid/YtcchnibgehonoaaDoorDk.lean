/- Plain: what a closure holds; a set is invariant exactly if its closure has no more states. -/
import Derived.Test.YtcchnibgehonoaaDoorDj
namespace Go.Proofs.YtcchnibgehonoaaDoor

theorem clS_mem {ed : List Ed} {V set : List Int} {back : Bool} {n : Nat} (hs : ∀ s ∈ set, 0 ≤ s ∧ s < (n : Int)) (he : EdIn n ed) {s : Int} : s ∈ clS ed V back n set ↔ (0 ≤ s ∧ s < (n : Int)) ∧ Con ed V back set s := by
 have hf := itF_fl (inF_Fl (ed := ed) (V := V) (back := back) hs) (fun s h => (hs s h).1) he n
 have hc := itF_clo (V := V) (back := back) (N := inF n set) (inF_len n set) he
 unfold clS
 rw [onF_mem, hf.len]
 constructor
 ·rintro ⟨h1, h2⟩; exact ⟨h1, (hf.done hc h1.1).1 h2⟩
 ·rintro ⟨h1, h2⟩; exact ⟨h1, (hf.done hc h1.1).2 h2⟩
end Go.Proofs.YtcchnibgehonoaaDoor
