/- Plain: the sketched systems (chapter 45). -/
import Derived.Test.YtioijhpbedmeaaaGreatDoorYe
import Derived.Test.YtioijhpbedmeaaaGreatDoorUw
namespace Go.Proofs.YtioijhpbedmeaaaGreatDoor

/-- a sketch: the bytes of its events, two graphs, the bytes of the uncontrollable and of the forcible events and of the tick -/
structure Sk where
 ev : Int
 pl : Gr
 su : Gr
 un : Int
 fo : Int
 ti : Int
structure Sk.ok (x : Sk) : Prop where
 ev : 0 ≤ x.ev ∧ x.ev ≤ 255
 pl : x.pl.ok
 su : x.su.ok
 un : 0 ≤ x.un ∧ x.un ≤ 255
 fo : 0 ≤ x.fo ∧ x.fo ≤ 255
 ti : 0 ≤ x.ti ∧ x.ti ≤ 255
def Sk.l (x : Sk) : List Int := if setB x.ev 5 = [] then [0] else setB x.ev 5
def Sk.tk (x : Sk) : Int := x.l.getD (x.ti.toNat % x.l.length) 0
def Sk.p (x : Sk) : Aut := mkG x.l x.pl
def Sk.s (x : Sk) : Aut := mkG x.l x.su
/-- the events of a list other than the tick whose bits are set -/
def skf (l : List Int) (tk b : Int) : List Int := l.filter fun v => !(v == tk) && hasB (setB b 5) v
def Sk.u (x : Sk) : List Int := skf x.l x.tk x.un
def Sk.f (x : Sk) : List Int := skf x.l x.tk x.fo
theorem Sk.l_ne (x : Sk) : x.l ≠ [] := by
 unfold Sk.l
 by_cases h : setB x.ev 5 = []
 ·rw [if_pos h]; simp
 ·rw [if_neg h]; exact h
theorem Sk.l_inc (x : Sk) : Inc x.l := by
 unfold Sk.l
 by_cases h : setB x.ev 5 = []
 ·rw [if_pos h]; exact List.pairwise_singleton ..
 ·rw [if_neg h]; exact (set5 x.ev).1
theorem Sk.l_rng (x : Sk) : ∀ v ∈ x.l, 0 ≤ v ∧ v < 32 := by
 unfold Sk.l
 by_cases h : setB x.ev 5 = []
 ·rw [if_pos h]; intro v hv; obtain rfl := List.mem_singleton.1 hv; omega
 ·rw [if_neg h]; exact set32 x.ev
theorem Sk.tk_mem (x : Sk) : x.tk ∈ x.l := by
 have h : x.ti.toNat % x.l.length < x.l.length := Nat.mod_lt _ (List.length_pos_iff.2 x.l_ne)
 unfold Sk.tk
 rw [List.getD_eq_getElem?_getD, List.getElem?_eq_getElem h]
 exact List.getElem_mem h
theorem Sk.p_al (x : Sk) : x.p.al = x.l := mkG_al _ _
theorem Sk.s_al (x : Sk) : x.s.al = x.l := mkG_al _ _
theorem Sk.wp {x : Sk} (h : x.ok) : WF x.p := mkG_wf h.pl x.l_inc x.l_rng
theorem Sk.ws {x : Sk} (h : x.ok) : WF x.s := mkG_wf h.su x.l_inc x.l_rng
theorem Sk.st {x : Sk} (h : x.ok) : x.p.st ≤ 5 ∧ x.s.st ≤ 5 := ⟨(mkG_st h.pl x.l_inc x.l_rng).2, (mkG_st h.su x.l_inc x.l_rng).2⟩
theorem Sk.prob {x : Sk} (h : x.ok) : ∃ q T, Prob x.p x.s q T :=
 prob_of (Sk.wp h) (Sk.ws h) (fun v hv => by rw [x.s_al] at hv; rw [x.p_al]; exact hv) (by have := (Sk.st h).1; omega) (by have := (Sk.st h).2; omega)
theorem skf_mem {l : List Int} {tk b v : Int} : v ∈ skf l tk b ↔ v ∈ l ∧ v ≠ tk ∧ v ∈ setB b 5 := by
 unfold skf
 rw [List.mem_filter, Bool.and_eq_true, hasB_mem, Bool.not_eq_true', beq_eq_false_iff_ne]
theorem skf_sub {l : List Int} {tk b : Int} (hi : Inc l) (hr : ∀ v ∈ l, 0 ≤ v ∧ v < 32) : subE (skf l tk b) l = 0 := by
 have h0 : setErr (skf l tk b) 32 = 0 := setErr_mk (by unfold skf; exact inc_flt hi _) (fun v hv => hr v (skf_mem.1 hv).1)
 unfold subE
 rw [h0]
 rw [if_neg (by simp), if_pos]
 rw [List.length_eq_zero_iff, List.eq_nil_iff_forall_not_mem]
 intro v hv
 obtain ⟨h1, h2⟩ := List.mem_filter.1 hv
 rw [hasB_mem.2 (skf_mem.1 h1).1] at h2
 cases h2
theorem skf_not (l : List Int) (tk b : Int) : hasB (skf l tk b) tk = false := by
 cases h : hasB (skf l tk b) tk with
 | false => rfl
 | true => exact absurd rfl (skf_mem.1 (hasB_mem.1 h)).2.1
/-- a system with two automata over the same events, and lists that are right, is right -/
theorem chkF_zero {P S : Aut} {u f : List Int} {tk : Int} (wp : WF P) (ws : WF S) (ha : S.al = P.al) (hu : subE u P.al = 0) (hf : subE f P.al = 0) (ht : tk ∈ P.al) (hu2 : hasB u tk = false) (hf2 : hasB f tk = false) : chkF P S u f tk = 0 := by
 unfold chkF
 rw [if_neg (by rw [wp.chk]; simp), if_neg (by rw [ws.chk]; simp), ha, if_neg (by rw [eqB_of rfl]; simp), hu, hf, if_neg (by simp), if_neg (by simp), hasB_mem.2 ht, hu2, hf2]
 rfl
theorem Sk.u_sub (x : Sk) : subE x.u x.p.al = 0 := by rw [x.p_al]; exact skf_sub x.l_inc x.l_rng
theorem Sk.f_sub (x : Sk) : subE x.f x.p.al = 0 := by rw [x.p_al]; exact skf_sub x.l_inc x.l_rng
theorem Sk.chk {x : Sk} (h : x.ok) : chkF x.p x.s x.u x.f x.tk = 0 :=
 chkF_zero (Sk.wp h) (Sk.ws h) (by rw [x.p_al, x.s_al]) x.u_sub x.f_sub (by rw [x.p_al]; exact x.tk_mem) (skf_not _ _ _) (skf_not _ _ _)
theorem Sk.u_len (x : Sk) : x.u.length ≤ 32 ∧ x.f.length ≤ 32 :=
 ⟨inc_len (n := 32) (inc_flt x.l_inc _) fun v hv => x.l_rng v (List.mem_filter.1 hv).1, inc_len (n := 32) (inc_flt x.l_inc _) fun v hv => x.l_rng v (List.mem_filter.1 hv).1⟩

end Go.Proofs.YtioijhpbedmeaaaGreatDoor

/- Plain: what the statements of chapter 45 compare. -/
namespace Go.Proofs.YtioijhpbedmeaaaGreatDoor
section
variable {P S q : Aut} {T : List (List Int)} {U F : List Int} {tick : Int}

end
end Go.Proofs.YtioijhpbedmeaaaGreatDoor

/- Plain: more of what the statements of chapter 45 compare. -/
namespace Go.Proofs.YtioijhpbedmeaaaGreatDoor
section
variable {P S q : Aut} {T : List (List Int)} {U F : List Int} {tick : Int}

end
end Go.Proofs.YtioijhpbedmeaaaGreatDoor
