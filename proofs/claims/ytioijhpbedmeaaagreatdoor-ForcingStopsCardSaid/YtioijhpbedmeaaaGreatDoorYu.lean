/- Walks: the statements' example of a system (chapter 45). Printed by a program of mine. -/
import Derived.Test.YtioijhpbedmeaaaGreatDoorYs
import Derived.Test.YtioijhpbedmeaaaGreatDoorUw
import Derived.Deep.MidRow
namespace Go.Proofs.YtioijhpbedmeaaaGreatDoor
open Go.RowKit Go

theorem setCells_grown (b : Nat) : ∀ (l : List Value) (k : Nat) (w : World), w.grownBy (w.setCells b k l) (some b)
 | [], _, w => grown_refl w _
 | v :: l, k, w => (grown_setCell w b k v).trans (setCells_grown b l (k + 1) _)
theorem setCells_blk {b : Nat} {t : TypeId} : ∀ (l : List Value) (pre rest : List Value) (w : World), Blk w b t (pre ++ rest) → rest.length = l.length → Blk (w.setCells b pre.length l) b t (pre ++ l)
 | [], pre, rest, w, h, hl => by
  rw [List.eq_nil_of_length_eq_zero hl] at h
  exact h
 | v :: l, pre, [], w, h, hl => by simp at hl
 | v :: l, pre, r :: rest, w, h, hl => by
  have h1 := h.set (j := pre.length) (by simp) v
  rw [List.set_append_right _ _ (Nat.le_refl _), Nat.sub_self, List.set_cons_zero] at h1
  have h2 := setCells_blk l (pre ++ [v]) rest _ (by rw [List.append_assoc]; exact h1) (by simpa using hl)
  rw [List.length_append, List.append_assoc] at h2
  exact h2
theorem setCells_all {w : World} {b : Nat} {t : TypeId} {vs : List Value} (h : Blk w b t vs) (l : List Value) (hl : vs.length = l.length) : Blk (w.setCells b 0 l) b t l := setCells_blk l [] vs w h hl
theorem setCells_below {w0 w : World} {b B : Nat} (h : Below B w0 w) (hb : B ≤ b) (hB : B ≤ w.heap.size) (l : List Value) : Below B w0 (w.setCells b 0 l) := h.grown (setCells_grown b l 0 w) hB (fun k e => by injection e with e; omega)
theorem blk_there {w : World} {b n : Nat} {t : TypeId} {vs : List Value} (h : Blk w b t vs) (hl : vs.length = n) : w.there b 0 n := fun j hj => by
 rw [Nat.zero_add]
 exact ⟨by rw [h.cell (List.getElem?_eq_getElem (by omega : j < vs.length))]; rfl, h.free j⟩
theorem sys_size : (Tryz.prog.info? 35).map (·.size) = some 11 := by kernel_rfl
theorem sys_one (z : SV) : ((svc z).toArray.all (·.oneCell')) = true := by simp [svc, Value.oneCell']
/-- a system is stored into a variable -/
theorem wpList_store_sys {ops : Array Oper} {rest : List Oper} {o : Oper} {a : Act} {w : World} {Q : Exit → Act → World → Prop} (hg : o.guard = none) (x y : Operand) (ho : o.op = .store 35 x y) (b : Nat) (z : SV) {vs : List Value}
  (hx : a.eval x = .pointer (some ⟨b, 0, none⟩)) (hy : a.eval y = .agg (svc z).toArray) (hk : Blk w b 35 vs) (hl : vs.length = 11)
  (h : wpList Tryz.prog ops Q rest (a.put o.dst undef) (w.setCells b 0 (svc z))) : wpList Tryz.prog ops Q (o :: rest) a w :=
 wpList_store_mid hg _ x y ho b 0 (svc z).toArray hx hy (blk_there hk hl) (by exact sys_size) (sys_one z) h
/-- a function's result: a system in a variable -/
theorem sys_results {fn : Func} {tmps : Array Value} {k b : Nat} {w : World} {z : SV} (hr : fn.results = #[.cell k 35]) (ht : tmps.getD k undef = .pointer (some ⟨b, 0, none⟩)) (hk : Blk w b 35 (svc z)) :
  (results fn tmps).run Tryz.prog w = .ok (.agg (svc z).toArray) w := by
 have ht' : tmps[k]?.getD undef = .pointer (some ⟨b, 0, none⟩) := by simpa using ht
 have h := run_loadVar_mid (P := Tryz.prog) w b 0 35 (svc z) _ (fun j v hv => by rw [Nat.zero_add]; exact hk.cell hv) Tryz.underlying35 rfl (by exact sys_size)
 simp [results, hr, ht', h, asAddr]

def exP : Aut := ⟨[0, 1, 2], 1, [0], [⟨0, 0, 0⟩, ⟨0, 2, 0⟩]⟩
def exS (b : Bool) : Aut := ⟨[0, 1, 2], 2, [0], if b = true then [⟨0, 0, 1⟩, ⟨1, 0, 1⟩, ⟨1, 1, 1⟩, ⟨1, 2, 1⟩] else []⟩

set_option maxRecDepth 100000 in
set_option maxHeartbeats 3200000 in
theorem law_example (b : Bool) (F : Option Addr) (nf cf : Nat) (f : List Int) (w : World) (hlf : f.length = nf) (hF : RdI w w.heap.size F f) (h1 : nf ≤ cf) (h2 : cf ≤ 9223372036854775807) :
  Calls Tryz.prog 38 #[.bool b, .slice F nf cf] w (RetSV exP (exS b) [] f 2 w) := by
 obtain ⟨w9, hw9⟩ : ∃ w9, w9 = (((((((((w.alloc (.cells #[.slice none 0 0, .int .i64 0, .slice none 0 0, .slice none 0 0, .slice none 0 0, .int .i64 0, .slice none 0 0, .slice none 0 0, .slice none 0 0, .slice none 0 0, .int .i64 0] 35)).alloc (.cells #[.int .i64 0, .int .i64 1, .int .i64 2] 3)).alloc (.cells #[.int .i64 0] 3)).alloc (.cells #[.int .i64 0, .int .i64 0, .int .i64 0, .int .i64 0, .int .i64 2, .int .i64 0] 49)).alloc (.cells #[.slice (some ⟨w.heap.size + 1, 0, none⟩) 3 3, .int .i64 1, .slice (some ⟨w.heap.size + 1 + 1, 0, none⟩) 1 1, .slice (some ⟨w.heap.size + 1 + 1 + 1, 0, none⟩) 2 2] 33)).alloc (.cells #[.int .i64 0, .int .i64 1, .int .i64 2] 3)).alloc (.cells #[.int .i64 0] 3)).alloc (.cells #[.int .i64 0, .int .i64 0, .int .i64 1, .int .i64 1, .int .i64 0, .int .i64 1, .int .i64 1, .int .i64 1, .int .i64 1, .int .i64 1, .int .i64 2, .int .i64 1] 49)).alloc (.cells #[.slice (some ⟨w.heap.size + 1 + 1 + 1 + 1 + 1, 0, none⟩) 3 3, .int .i64 2, .slice (some ⟨w.heap.size + 1 + 1 + 1 + 1 + 1 + 1, 0, none⟩) 1 1, .slice (some ⟨w.heap.size + 1 + 1 + 1 + 1 + 1 + 1 + 1, 0, none⟩) 4 4] 33)) := ⟨_, rfl⟩
 have kr : Blk w9 (w.heap.size) 35 [.slice none 0 0, .int .i64 0, .slice none 0 0, .slice none 0 0, .slice none 0 0, .int .i64 0, .slice none 0 0, .slice none 0 0, .slice none 0 0, .slice none 0 0, .int .i64 0] := by rw [hw9]; (repeat (first | (refine Blk.at_ _ _ _ ?_; simp; done) | (refine Blk.at_ _ _ _ rfl) | refine Blk.al ?_ _))
 have k1 : Blk w9 (w.heap.size + 1) 3 [.int .i64 0, .int .i64 1, .int .i64 2] := by rw [hw9]; (repeat (first | (refine Blk.at_ _ _ _ ?_; simp; done) | (refine Blk.at_ _ _ _ rfl) | refine Blk.al ?_ _))
 have k2 : Blk w9 (w.heap.size + 1 + 1) 3 [.int .i64 0] := by rw [hw9]; (repeat (first | (refine Blk.at_ _ _ _ ?_; simp; done) | (refine Blk.at_ _ _ _ rfl) | refine Blk.al ?_ _))
 have k3 : Blk w9 (w.heap.size + 1 + 1 + 1) 49 [.int .i64 0, .int .i64 0, .int .i64 0, .int .i64 0, .int .i64 2, .int .i64 0] := by rw [hw9]; (repeat (first | (refine Blk.at_ _ _ _ ?_; simp; done) | (refine Blk.at_ _ _ _ rfl) | refine Blk.al ?_ _))
 have ka : Blk w9 (w.heap.size + 1 + 1 + 1 + 1) 33 [.slice (some ⟨w.heap.size + 1, 0, none⟩) 3 3, .int .i64 1, .slice (some ⟨w.heap.size + 1 + 1, 0, none⟩) 1 1, .slice (some ⟨w.heap.size + 1 + 1 + 1, 0, none⟩) 2 2] := by rw [hw9]; (repeat (first | (refine Blk.at_ _ _ _ ?_; simp; done) | (refine Blk.at_ _ _ _ rfl) | refine Blk.al ?_ _))
 have k5 : Blk w9 (w.heap.size + 1 + 1 + 1 + 1 + 1) 3 [.int .i64 0, .int .i64 1, .int .i64 2] := by rw [hw9]; (repeat (first | (refine Blk.at_ _ _ _ ?_; simp; done) | (refine Blk.at_ _ _ _ rfl) | refine Blk.al ?_ _))
 have k6 : Blk w9 (w.heap.size + 1 + 1 + 1 + 1 + 1 + 1) 3 [.int .i64 0] := by rw [hw9]; (repeat (first | (refine Blk.at_ _ _ _ ?_; simp; done) | (refine Blk.at_ _ _ _ rfl) | refine Blk.al ?_ _))
 have k7 : Blk w9 (w.heap.size + 1 + 1 + 1 + 1 + 1 + 1 + 1) 49 [.int .i64 0, .int .i64 0, .int .i64 1, .int .i64 1, .int .i64 0, .int .i64 1, .int .i64 1, .int .i64 1, .int .i64 1, .int .i64 1, .int .i64 2, .int .i64 1] := by rw [hw9]; (repeat (first | (refine Blk.at_ _ _ _ ?_; simp; done) | (refine Blk.at_ _ _ _ rfl) | refine Blk.al ?_ _))
 have kb : Blk w9 (w.heap.size + 1 + 1 + 1 + 1 + 1 + 1 + 1 + 1) 33 [.slice (some ⟨w.heap.size + 1 + 1 + 1 + 1 + 1, 0, none⟩) 3 3, .int .i64 2, .slice (some ⟨w.heap.size + 1 + 1 + 1 + 1 + 1 + 1, 0, none⟩) 1 1, .slice (some ⟨w.heap.size + 1 + 1 + 1 + 1 + 1 + 1 + 1, 0, none⟩) 4 4] := by rw [hw9]; (repeat (first | (refine Blk.at_ _ _ _ ?_; simp; done) | (refine Blk.at_ _ _ _ rfl) | refine Blk.al ?_ _))
 have hb : Below w.heap.size w w9 := by rw [hw9]; (repeat (first | assumption | exact Below.refl _ _ | refine below_drewN ?_ _ | (refine Below.alloc ?_ ?_ _; rotate_left; · first | (simp; done) | (simp; omega))))
 have KR := Lib.hid kr; clear kr
 have K1 := Lib.hid k1; clear k1
 have K2 := Lib.hid k2; clear k2
 have K3 := Lib.hid k3; clear k3
 have KA := Lib.hid ka; clear ka
 have K5 := Lib.hid k5; clear k5
 have K6 := Lib.hid k6; clear k6
 have K7 := Lib.hid k7; clear k7
 have KB := Lib.hid kb; clear kb
 have HB := Lib.hid hb; clear hb
 have HW := Lib.hid hw9; clear hw9
 have HF := Lib.hid hF; clear hF
 go_enter Tryz.func38, Tryz.ntmps38
 go_upto_region 3 with fail
 rw [← HW.out]
 cases b with
 | true =>
  go_upto_region 5 with fail
  have HL := Lib.hid (setCells_all KR.out (svc (⟨⟨some ⟨w.heap.size + 1, 0, none⟩, 3, 3, some ⟨w.heap.size + 1 + 1, 0, none⟩, 1, 1, some ⟨w.heap.size + 1 + 1 + 1, 0, none⟩, 2, 2, exP⟩, ⟨some ⟨w.heap.size + 1 + 1 + 1 + 1 + 1, 0, none⟩, 3, 3, some ⟨w.heap.size + 1 + 1 + 1 + 1 + 1 + 1, 0, none⟩, 1, 1, some ⟨w.heap.size + 1 + 1 + 1 + 1 + 1 + 1 + 1, 0, none⟩, 4, 4, exS true⟩, none, 0, 0, [], F, nf, cf, f, 2⟩ : SV)) rfl)
  have HGR := Lib.hid (setCells_grown w.heap.size (svc (⟨⟨some ⟨w.heap.size + 1, 0, none⟩, 3, 3, some ⟨w.heap.size + 1 + 1, 0, none⟩, 1, 1, some ⟨w.heap.size + 1 + 1 + 1, 0, none⟩, 2, 2, exP⟩, ⟨some ⟨w.heap.size + 1 + 1 + 1 + 1 + 1, 0, none⟩, 3, 3, some ⟨w.heap.size + 1 + 1 + 1 + 1 + 1 + 1, 0, none⟩, 1, 1, some ⟨w.heap.size + 1 + 1 + 1 + 1 + 1 + 1 + 1, 0, none⟩, 4, 4, exS true⟩, none, 0, 0, [], F, nf, cf, f, 2⟩ : SV)) 0 w9)
  have HBL := Lib.hid (setCells_below HB.out (Nat.le_refl _) HB.out.size (svc (⟨⟨some ⟨w.heap.size + 1, 0, none⟩, 3, 3, some ⟨w.heap.size + 1 + 1, 0, none⟩, 1, 1, some ⟨w.heap.size + 1 + 1 + 1, 0, none⟩, 2, 2, exP⟩, ⟨some ⟨w.heap.size + 1 + 1 + 1 + 1 + 1, 0, none⟩, 3, 3, some ⟨w.heap.size + 1 + 1 + 1 + 1 + 1 + 1, 0, none⟩, 1, 1, some ⟨w.heap.size + 1 + 1 + 1 + 1 + 1 + 1 + 1, 0, none⟩, 4, 4, exS true⟩, none, 0, 0, [], F, nf, cf, f, 2⟩ : SV)))
  have HQ1 := Lib.hid (K1.out.kept HGR.out (by intro e; injection e with e; omega))
  have HQ2 := Lib.hid (K2.out.kept HGR.out (by intro e; injection e with e; omega))
  have HQ3 := Lib.hid (K3.out.kept HGR.out (by intro e; injection e with e; omega))
  have HQ5 := Lib.hid (K5.out.kept HGR.out (by intro e; injection e with e; omega))
  have HQ6 := Lib.hid (K6.out.kept HGR.out (by intro e; injection e with e; omega))
  have HQ7 := Lib.hid (K7.out.kept HGR.out (by intro e; injection e with e; omega))
  have a0 := KA.out.cell (j := 0) rfl
  have a1 := KA.out.cell (j := 1) rfl
  have a2 := KA.out.cell (j := 2) rfl
  have a3 := KA.out.cell (j := 3) rfl
  have b0 := KB.out.cell (j := 0) rfl
  have b1 := KB.out.cell (j := 1) rfl
  have b2 := KB.out.cell (j := 2) rfl
  have b3 := KB.out.cell (j := 3) rfl
  go_wp2_with (first | refine wpList_store_sys rfl _ _ rfl w.heap.size (⟨⟨some ⟨w.heap.size + 1, 0, none⟩, 3, 3, some ⟨w.heap.size + 1 + 1, 0, none⟩, 1, 1, some ⟨w.heap.size + 1 + 1 + 1, 0, none⟩, 2, 2, exP⟩, ⟨some ⟨w.heap.size + 1 + 1 + 1 + 1 + 1, 0, none⟩, 3, 3, some ⟨w.heap.size + 1 + 1 + 1 + 1 + 1 + 1, 0, none⟩, 1, 1, some ⟨w.heap.size + 1 + 1 + 1 + 1 + 1 + 1 + 1, 0, none⟩, 4, 4, exS true⟩, none, 0, 0, [], F, nf, cf, f, 2⟩ : SV) (by rfl) (by rfl) KR.out rfl ?_; generalize w9.setCells w.heap.size 0 (svc (⟨⟨some ⟨w.heap.size + 1, 0, none⟩, 3, 3, some ⟨w.heap.size + 1 + 1, 0, none⟩, 1, 1, some ⟨w.heap.size + 1 + 1 + 1, 0, none⟩, 2, 2, exP⟩, ⟨some ⟨w.heap.size + 1 + 1 + 1 + 1 + 1, 0, none⟩, 3, 3, some ⟨w.heap.size + 1 + 1 + 1 + 1 + 1 + 1, 0, none⟩, 1, 1, some ⟨w.heap.size + 1 + 1 + 1 + 1 + 1 + 1 + 1, 0, none⟩, 4, 4, exS true⟩, none, 0, 0, [], F, nf, cf, f, 2⟩ : SV)) = wv at HL HBL HGR HQ1 HQ2 HQ3 HQ5 HQ6 HQ7 ⊢ | fail)
  refine bodyPost_ret (sys_results (k := 4) rfl rfl HL.out) rfl ?_
  refine ⟨(⟨⟨some ⟨w.heap.size + 1, 0, none⟩, 3, 3, some ⟨w.heap.size + 1 + 1, 0, none⟩, 1, 1, some ⟨w.heap.size + 1 + 1 + 1, 0, none⟩, 2, 2, exP⟩, ⟨some ⟨w.heap.size + 1 + 1 + 1 + 1 + 1, 0, none⟩, 3, 3, some ⟨w.heap.size + 1 + 1 + 1 + 1 + 1 + 1, 0, none⟩, 1, 1, some ⟨w.heap.size + 1 + 1 + 1 + 1 + 1 + 1 + 1, 0, none⟩, 4, 4, exS true⟩, none, 0, 0, [], F, nf, cf, f, 2⟩ : SV), rfl, rfl, rfl, rfl, rfl, rfl, ?_, HBL.out⟩
  exact ⟨⟨rfl, by simp, by simp, HQ1.out.rdi, rfl, by simp, by simp, HQ2.out.rdi, rfl, by simp, by simp, HQ3.out.rdx⟩, ⟨rfl, by simp, by simp, HQ5.out.rdi, rfl, by simp, by simp, HQ6.out.rdi, rfl, by simp, by simp, HQ7.out.rdx⟩, rfl, RdI.nil, Nat.le_refl _, Nat.zero_le _, hlf, (HF.out.below HBL.out).more HBL.out.size, h1, h2⟩
 | false =>
  have kb := KB.out
  have q3 := kb.free 3
  have ql := kb.lt
  have q4 := kb.cell (j := 3) rfl
  have hg := grown_setCell w9 (w.heap.size + 1 + 1 + 1 + 1 + 1 + 1 + 1 + 1) 3 (.slice none 0 0)
  have KB2 := Lib.hid (kb.set (j := 3) (by simp) (.slice none 0 0))
  have KR2 := Lib.hid (KR.out.kept hg (by intro e; injection e with e; omega))
  have K12 := Lib.hid (K1.out.kept hg (by intro e; injection e with e; omega))
  have K22 := Lib.hid (K2.out.kept hg (by intro e; injection e with e; omega))
  have K32 := Lib.hid (K3.out.kept hg (by intro e; injection e with e; omega))
  have KA2 := Lib.hid (KA.out.kept hg (by intro e; injection e with e; omega))
  have K52 := Lib.hid (K5.out.kept hg (by intro e; injection e with e; omega))
  have K62 := Lib.hid (K6.out.kept hg (by intro e; injection e with e; omega))
  have K72 := Lib.hid (K7.out.kept hg (by intro e; injection e with e; omega))
  have HB2 := Lib.hid (HB.out.setCell (p := ⟨w.heap.size + 1 + 1 + 1 + 1 + 1 + 1 + 1 + 1, 3, none⟩) (by show w.heap.size ≤ w.heap.size + 1 + 1 + 1 + 1 + 1 + 1 + 1 + 1; omega) (.slice none 0 0))
  clear kb hg
  go_upto_region 5 with fail
  clear q3 q4 ql KR K1 K2 K3 KA K5 K6 K7 KB HB HW
  generalize w9.setCell ⟨w.heap.size + 1 + 1 + 1 + 1 + 1 + 1 + 1 + 1, 3, none⟩ (.slice none 0 0) = w8 at KR2 K12 K22 K32 KA2 K52 K62 K72 KB2 HB2 ⊢
  have KR := KR2
  have K1 := K12
  have K2 := K22
  have K3 := K32
  have KA := KA2
  have K5 := K52
  have K6 := K62
  have K7 := K72
  have KB := KB2
  have HB := HB2
  clear KR2 K12 K22 K32 KA2 K52 K62 K72 KB2 HB2
  have HL := Lib.hid (setCells_all KR.out (svc (⟨⟨some ⟨w.heap.size + 1, 0, none⟩, 3, 3, some ⟨w.heap.size + 1 + 1, 0, none⟩, 1, 1, some ⟨w.heap.size + 1 + 1 + 1, 0, none⟩, 2, 2, exP⟩, ⟨some ⟨w.heap.size + 1 + 1 + 1 + 1 + 1, 0, none⟩, 3, 3, some ⟨w.heap.size + 1 + 1 + 1 + 1 + 1 + 1, 0, none⟩, 1, 1, none, 0, 0, exS false⟩, none, 0, 0, [], F, nf, cf, f, 2⟩ : SV)) rfl)
  have HGR := Lib.hid (setCells_grown w.heap.size (svc (⟨⟨some ⟨w.heap.size + 1, 0, none⟩, 3, 3, some ⟨w.heap.size + 1 + 1, 0, none⟩, 1, 1, some ⟨w.heap.size + 1 + 1 + 1, 0, none⟩, 2, 2, exP⟩, ⟨some ⟨w.heap.size + 1 + 1 + 1 + 1 + 1, 0, none⟩, 3, 3, some ⟨w.heap.size + 1 + 1 + 1 + 1 + 1 + 1, 0, none⟩, 1, 1, none, 0, 0, exS false⟩, none, 0, 0, [], F, nf, cf, f, 2⟩ : SV)) 0 w8)
  have HBL := Lib.hid (setCells_below HB.out (Nat.le_refl _) HB.out.size (svc (⟨⟨some ⟨w.heap.size + 1, 0, none⟩, 3, 3, some ⟨w.heap.size + 1 + 1, 0, none⟩, 1, 1, some ⟨w.heap.size + 1 + 1 + 1, 0, none⟩, 2, 2, exP⟩, ⟨some ⟨w.heap.size + 1 + 1 + 1 + 1 + 1, 0, none⟩, 3, 3, some ⟨w.heap.size + 1 + 1 + 1 + 1 + 1 + 1, 0, none⟩, 1, 1, none, 0, 0, exS false⟩, none, 0, 0, [], F, nf, cf, f, 2⟩ : SV)))
  have HQ1 := Lib.hid (K1.out.kept HGR.out (by intro e; injection e with e; omega))
  have HQ2 := Lib.hid (K2.out.kept HGR.out (by intro e; injection e with e; omega))
  have HQ3 := Lib.hid (K3.out.kept HGR.out (by intro e; injection e with e; omega))
  have HQ5 := Lib.hid (K5.out.kept HGR.out (by intro e; injection e with e; omega))
  have HQ6 := Lib.hid (K6.out.kept HGR.out (by intro e; injection e with e; omega))
  have HQ7 := Lib.hid (K7.out.kept HGR.out (by intro e; injection e with e; omega))
  have a0 := KA.out.cell (j := 0) rfl
  have a1 := KA.out.cell (j := 1) rfl
  have a2 := KA.out.cell (j := 2) rfl
  have a3 := KA.out.cell (j := 3) rfl
  have b0 := KB.out.cell (j := 0) rfl
  have b1 := KB.out.cell (j := 1) rfl
  have b2 := KB.out.cell (j := 2) rfl
  have b3 := KB.out.cell (j := 3) rfl
  go_wp2_with (first | refine wpList_store_sys rfl _ _ rfl w.heap.size (⟨⟨some ⟨w.heap.size + 1, 0, none⟩, 3, 3, some ⟨w.heap.size + 1 + 1, 0, none⟩, 1, 1, some ⟨w.heap.size + 1 + 1 + 1, 0, none⟩, 2, 2, exP⟩, ⟨some ⟨w.heap.size + 1 + 1 + 1 + 1 + 1, 0, none⟩, 3, 3, some ⟨w.heap.size + 1 + 1 + 1 + 1 + 1 + 1, 0, none⟩, 1, 1, none, 0, 0, exS false⟩, none, 0, 0, [], F, nf, cf, f, 2⟩ : SV) (by rfl) (by rfl) KR.out rfl ?_; generalize w8.setCells w.heap.size 0 (svc (⟨⟨some ⟨w.heap.size + 1, 0, none⟩, 3, 3, some ⟨w.heap.size + 1 + 1, 0, none⟩, 1, 1, some ⟨w.heap.size + 1 + 1 + 1, 0, none⟩, 2, 2, exP⟩, ⟨some ⟨w.heap.size + 1 + 1 + 1 + 1 + 1, 0, none⟩, 3, 3, some ⟨w.heap.size + 1 + 1 + 1 + 1 + 1 + 1, 0, none⟩, 1, 1, none, 0, 0, exS false⟩, none, 0, 0, [], F, nf, cf, f, 2⟩ : SV)) = wv at HL HBL HGR HQ1 HQ2 HQ3 HQ5 HQ6 HQ7 ⊢ | fail)
  refine bodyPost_ret (sys_results (k := 4) rfl rfl HL.out) rfl ?_
  refine ⟨(⟨⟨some ⟨w.heap.size + 1, 0, none⟩, 3, 3, some ⟨w.heap.size + 1 + 1, 0, none⟩, 1, 1, some ⟨w.heap.size + 1 + 1 + 1, 0, none⟩, 2, 2, exP⟩, ⟨some ⟨w.heap.size + 1 + 1 + 1 + 1 + 1, 0, none⟩, 3, 3, some ⟨w.heap.size + 1 + 1 + 1 + 1 + 1 + 1, 0, none⟩, 1, 1, none, 0, 0, exS false⟩, none, 0, 0, [], F, nf, cf, f, 2⟩ : SV), rfl, rfl, rfl, rfl, rfl, rfl, ?_, HBL.out⟩
  exact ⟨⟨rfl, by simp, by simp, HQ1.out.rdi, rfl, by simp, by simp, HQ2.out.rdi, rfl, by simp, by simp, HQ3.out.rdx⟩, ⟨rfl, by simp, by simp, HQ5.out.rdi, rfl, by simp, by simp, HQ6.out.rdi, rfl, by simp, by simp, RdX.nil⟩, rfl, RdI.nil, Nat.le_refl _, Nat.zero_le _, hlf, (HF.out.below HBL.out).more HBL.out.size, h1, h2⟩
end Go.Proofs.YtioijhpbedmeaaaGreatDoor
