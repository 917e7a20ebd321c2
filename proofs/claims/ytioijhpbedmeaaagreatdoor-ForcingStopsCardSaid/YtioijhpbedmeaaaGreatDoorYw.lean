/- Systems as values: variables that hold them; the contracts of chapter 45 in these words. -/
import Derived.Test.YtioijhpbedmeaaaGreatDoorYv
import Derived.Test.YtioijhpbedmeaaaGreatDoorYt
import Derived.Test.YtioijhpbedmeaaaGreatDoorYf
import Derived.Test.YtioijhpbedmeaaaGreatDoorYp
namespace Go.Proofs.YtioijhpbedmeaaaGreatDoor
open Go.RowKit Go Go.Maps

section
variable {w w' : World} {b : Nat} {x : AV}
theorem VarA.c0 (h : VarA w b x) : w.cell? ⟨b, 0, none⟩ = some (.slice x.A x.na x.ca) := h.blk.cell (j := 0) rfl
theorem VarA.c1 (h : VarA w b x) : w.cell? ⟨b, 1, none⟩ = some (.int .i64 x.a.st) := h.blk.cell (j := 1) rfl
theorem VarA.c2 (h : VarA w b x) : w.cell? ⟨b, 2, none⟩ = some (.slice x.M x.nm x.cm) := h.blk.cell (j := 2) rfl
theorem VarA.c3 (h : VarA w b x) : w.cell? ⟨b, 3, none⟩ = some (.slice x.E x.ne x.ce) := h.blk.cell (j := 3) rfl
end
/-- the four cells of a variable -/
def CV (W : World) (b : Nat) (x : AV) : Prop := W.cell? ⟨b, 0, none⟩ = some (.slice x.A x.na x.ca) ∧ W.cell? ⟨b, 1, none⟩ = some (.int .i64 x.a.st) ∧ W.cell? ⟨b, 2, none⟩ = some (.slice x.M x.nm x.cm) ∧ W.cell? ⟨b, 3, none⟩ = some (.slice x.E x.ne x.ce)
theorem VarA.cv {w : World} {b : Nat} {x : AV} (h : VarA w b x) : CV w b x := ⟨h.c0, h.c1, h.c2, h.c3⟩
/-- a variable that holds a system -/
structure VarS (w : World) (b : Nat) (z : SV) : Prop where
 blk : Blk w b 35 (svc z)
 ok : z.ok w w.heap.size
section
variable {w w' : World} {b : Nat} {z : SV}
theorem VarS.new (h : z.ok w w.heap.size) : VarS (w.alloc (.cells #[.slice z.p.A z.p.na z.p.ca, .int .i64 z.p.a.st, .slice z.p.M z.p.nm z.p.cm, .slice z.p.E z.p.ne z.p.ce, .slice z.s.A z.s.na z.s.ca, .int .i64 z.s.a.st, .slice z.s.M z.s.nm z.s.cm, .slice z.s.E z.s.ne z.s.ce, .slice z.U z.nu z.cu, .slice z.F z.nf z.cf, .int .i64 z.tick] 35)) w.heap.size z :=
 ⟨Blk.new _ _ (svc z), (h.below (box_below _ _)).more (box_below _ _).size⟩
theorem VarS.below (h : VarS w b z) (hb : Below w.heap.size w w') : VarS w' b z := ⟨h.blk.below hb h.blk.lt, (h.ok.below hb).more hb.size⟩
end
theorem Prob.len2 {P S q : Aut} {T : List (List Int)} (h : Prob P S q T) : ∀ t ∈ T, t.length = 2 := fun t ht => by
 obtain ⟨a, b, rfl, _⟩ := tup_two (h.tups.2 t ht)
 rfl
/-- a sketched system with its product -/
structure SysR (z : SV) (q : Aut) (T : List (List Int)) : Prop where
 prob : Prob z.p.a z.s.a q T
 chk : chkF z.p.a z.s.a z.u z.f z.tick = 0
 hU : subE z.u z.p.a.al = 0
 hF : subE z.f z.p.a.al = 0
 al : z.s.a.al = z.p.a.al
 ne : 0 < z.p.na
 nf : z.nf ≤ 4096
 nu : z.nu ≤ 4096
 tk : z.tick ∈ z.p.a.al
theorem SysR.of {x : Sk} (hx : x.ok) {z : SV} {w : World} {B : Nat} (hz : z.ok w B) (hp : z.p.a = x.p) (hs : z.s.a = x.s) (hu : z.u = x.u) (hf : z.f = x.f) (ht : z.tick = x.tk) : ∃ q T, SysR z q T ∧ Prob x.p x.s q T := by
 obtain ⟨q, T, hP⟩ := x.prob hx
 refine ⟨q, T, ⟨by rw [hp, hs]; exact hP, by rw [hp, hs, hu, hf, ht]; exact Sk.chk hx, by rw [hu, hp]; exact x.u_sub, by rw [hf, hp]; exact x.f_sub, by rw [hp, hs, x.s_al, x.p_al], ?_, ?_, ?_, by rw [ht, hp, x.p_al]; exact x.tk_mem⟩, hP⟩
 ·have h1 := hz.p.la
  rw [hp, x.p_al] at h1
  have := List.length_pos_iff.2 x.l_ne
  omega
 ·have h1 := hz.lf
  rw [hf] at h1
  have := x.u_len.2
  omega
 ·have h1 := hz.lu
  rw [hu] at h1
  have := x.u_len.1
  omega
section
variable {w : World} {z : SV} {q : Aut} {T : List (List Int)}
theorem SysR.loop (h : SysR z q T) (hz : z.ok w w.heap.size) : Calls Tryz.prog 12 #[.agg (svc z).toArray] w (RetLoop q T w) := loop_ok z q T w hz h.prob h.chk
theorem SysR.pre (h : SysR z q T) (hz : z.ok w w.heap.size) : Calls Tryz.prog 20 #[.agg (svc z).toArray] w (RetOE 3 (preE z.p.a q T z.tick) w) := preempted_ok z q T w hz h.prob h.chk
theorem SysR.lloop (h : SysR z q T) (hz : z.ok w w.heap.size) : Calls Tryz.prog 17 #[.agg (svc z).toArray] w (RetLp q T w) := law_loop z q T w hz h.prob h.al h.ne
end
theorem sk_size : (Tryz.prog.info? 28).map (·.size) = some 58 := by kernel_rfl
theorem wpList_load_sk {ops : Array Oper} {rest : List Oper} {o : Oper} {a : Act} {w : World} {Q : Exit → Act → World → Prop} (hg : o.guard = none) (x : Operand) (ho : o.op = .load 28 x) (b : Nat) (p : Sk) (hp : p.ok) (hx : a.eval x = .pointer (some ⟨b, 0, none⟩)) (hk : Blk w b 28 (skcells p))
  (h : wpList Tryz.prog ops Q rest (a.put o.dst (.agg (skcells p).toArray)) w) : wpList Tryz.prog ops Q (o :: rest) a w :=
 wpList_load_mid hg _ x ho b 0 hx (skcells p) _ (fun j v hv => by rw [Nat.zero_add]; exact hk.cell hv) Tryz.underlying28 rfl (by rw [skcells_len hp]; exact sk_size) h
theorem wpList_load_sys {ops : Array Oper} {rest : List Oper} {o : Oper} {a : Act} {w : World} {Q : Exit → Act → World → Prop} (hg : o.guard = none) (x : Operand) (ho : o.op = .load 35 x) (b : Nat) (z : SV) (hx : a.eval x = .pointer (some ⟨b, 0, none⟩)) (hk : VarS w b z)
  (h : wpList Tryz.prog ops Q rest (a.put o.dst (.agg (svc z).toArray)) w) : wpList Tryz.prog ops Q (o :: rest) a w :=
 wpList_load_mid hg _ x ho b 0 hx (svc z) _ (fun j v hv => by rw [Nat.zero_add]; exact hk.blk.cell hv) Tryz.underlying35 rfl (by exact sys_size) h
end Go.Proofs.YtioijhpbedmeaaaGreatDoor
