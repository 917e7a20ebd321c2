/- Walks: Match whole, the program's and the reference's, over words and sets that have passed the check. -/
import Derived.Test.YtcbhencebflgcaaWm
namespace Go.Proofs.Ytcbhencebflgcaa
open Go.RowKit Go

theorem chkW_zero {v set : List Int} (h : chkW v set = 0) : Inc set ∧ NonN set ∧ OverB v set := by
  by_cases h1 : setErr set 32 = 0
  · by_cases h2 : 4096 < v.length
    · rw [chkW_long h1 h2] at h; cases h
    · cases hb : badB v set with
      | true => rw [chkW_bad h1 h2 hb] at h; cases h
      | false =>
        obtain ⟨i1, i2⟩ := setErr_inc h1
        refine ⟨i1, fun x hx => (i2 x (hasB_mem.1 hx)).1, fun x hx => ?_⟩
        unfold badB at hb
        rw [List.any_eq_false] at hb
        simpa using hb x hx
  · rw [chkW_set h1] at h; exact absurd h h1

theorem ref_Match_yes (A C F S : Option Addr) (ca cc cf cs : Nat) (a b f s : List Int) (w : World) (ha : RdI w w.heap.size A a) (ha1 : a.length ≤ ca) (ha2 : ca ≤ 9223372036854775807) (hb : RdI w w.heap.size C b) (hb1 : b.length ≤ cc) (hb2 : cc ≤ 9223372036854775807)
    (hf : RdI w w.heap.size F f) (hf1 : f.length ≤ cf) (hf2 : cf ≤ 9223372036854775807) (hs : RdI w w.heap.size S s) (hs1 : s.length ≤ cs) (hs2 : cs ≤ 9223372036854775807)
    (hal : a.length ≤ 1000000) (hbl : b.length ≤ 1000000) (nf : NonN f) (ns : NonN s) (oa : OverB a f) (ob : OverB b s) (hp : projW a s = projW b f) :
    Calls Try.prog 23 #[.slice A a.length ca, .slice F f.length cf, .slice C b.length cc, .slice S s.length cs] w (RetF (matW f s a b) true w) := by
  have h := ref_Match F S cf cs f s nf ns hf1 hf2 hs1 hs2 (a.length + b.length) A C a.length b.length ca cc a b w rfl rfl (Nat.le_refl _) (by omega) ha ha1 ha2 hb hb1 hb2 hf hs oa ob
  rw [refM_eq f s _ a b (Nat.le_refl _) oa ob, if_pos hp] at h
  exact h
theorem ref_Match_no (A C F S : Option Addr) (ca cc cf cs : Nat) (a b f s : List Int) (w : World) (ha : RdI w w.heap.size A a) (ha1 : a.length ≤ ca) (ha2 : ca ≤ 9223372036854775807) (hb : RdI w w.heap.size C b) (hb1 : b.length ≤ cc) (hb2 : cc ≤ 9223372036854775807)
    (hf : RdI w w.heap.size F f) (hf1 : f.length ≤ cf) (hf2 : cf ≤ 9223372036854775807) (hs : RdI w w.heap.size S s) (hs1 : s.length ≤ cs) (hs2 : cs ≤ 9223372036854775807)
    (hal : a.length ≤ 1000000) (hbl : b.length ≤ 1000000) (nf : NonN f) (ns : NonN s) (oa : OverB a f) (ob : OverB b s) (hp : projW a s ≠ projW b f) :
    Calls Try.prog 23 #[.slice A a.length ca, .slice F f.length cf, .slice C b.length cc, .slice S s.length cs] w (RetF [] false w) := by
  have h := ref_Match F S cf cs f s nf ns hf1 hf2 hs1 hs2 (a.length + b.length) A C a.length b.length ca cc a b w rfl rfl (Nat.le_refl _) (by omega) ha ha1 ha2 hb hb1 hb2 hf hs oa ob
  rw [refM_eq f s _ a b (Nat.le_refl _) oa ob, if_neg hp] at h
  exact h
end Go.Proofs.Ytcbhencebflgcaa
