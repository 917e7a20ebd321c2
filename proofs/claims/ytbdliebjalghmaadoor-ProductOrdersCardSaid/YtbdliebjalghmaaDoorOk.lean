/- Walks: automaton.IsCanonical. -/
import Derived.Test.YtbdliebjalghmaaDoorOj
namespace Go.Proofs.YtbdliebjalghmaaDoor
open Go.RowKit Go Go.Maps

set_option maxRecDepth 100000 in
set_option maxHeartbeats 3200000 in
theorem automaton_IsCanonical (A : Option Addr) (na ca : Nat) (M : Option Addr) (nm cm : Nat) (E : Option Addr) (ne ce : Nat) (a : Aut) (w : World) (h : AutR w w.heap.size A na ca M nm cm E ne ce a) (hw : WF a) (hc : canA a = a) :
    Calls Tryd.prog 35 #[.agg #[.slice A na ca, .int .i64 a.st, .slice M nm cm, .slice E ne ce]] w fun e w' => e = .returned (.bool true) ∧ Below w.heap.size w w' := by
  obtain ⟨st, hst⟩ : ∃ st, a.st = st := ⟨_, rfl⟩
  rw [hst]
  have hb1 := (box_below w (.cells #[.slice A na ca, .int .i64 st, .slice M nm cm, .slice E ne ce] 29)).trans ((below_dr (w.alloc (.cells #[.slice A na ca, .int .i64 st, .slice M nm cm, .slice E ne ce] 29))).mono (box_below w _).size)
  have k3 : Blk (w.alloc (.cells #[.slice A na ca, .int .i64 st, .slice M nm cm, .slice E ne ce] 29)).drew w.heap.size 29 [.slice A na ca, .int .i64 st, .slice M nm cm, .slice E ne ce] := Blk.new _ _ _
  have hA0 : (w.alloc (.cells #[.slice A na ca, .int .i64 st, .slice M nm cm, .slice E ne ce] 29)).drew.cell? ⟨w.heap.size, 0, none⟩ = some (.slice A na ca) ∧ (w.alloc (.cells #[.slice A na ca, .int .i64 st, .slice M nm cm, .slice E ne ce] 29)).drew.cell? ⟨w.heap.size, 1, none⟩ = some (.int .i64 st) ∧ (w.alloc (.cells #[.slice A na ca, .int .i64 st, .slice M nm cm, .slice E ne ce] 29)).drew.cell? ⟨w.heap.size, 2, none⟩ = some (.slice M nm cm) ∧ (w.alloc (.cells #[.slice A na ca, .int .i64 st, .slice M nm cm, .slice E ne ce] 29)).drew.cell? ⟨w.heap.size, 3, none⟩ = some (.slice E ne ce) := ⟨k3.cell (j := 0) rfl, k3.cell (j := 1) rfl, k3.cell (j := 2) rfl, k3.cell (j := 3) rfl⟩
  have h1 := (h.below hb1).more hb1.size
  have HST := Lib.hid hst; clear hst
  have HW := Lib.hid hw; clear hw
  have HCC := Lib.hid hc; clear hc
  have HB1 := Lib.hid hb1; clear hb1
  have HH := Lib.hid h1; clear h1
  have K3 := Lib.hid k3; clear k3
  clear h
  go_enter Tryd.func35, Tryd.ntmps35
  go_wp2
  refine wp_region_U (fun W => W.cell? ⟨w.heap.size, 0, none⟩ = some (.slice A na ca) ∧ W.cell? ⟨w.heap.size, 1, none⟩ = some (.int .i64 st) ∧ W.cell? ⟨w.heap.size, 2, none⟩ = some (.slice M nm cm) ∧ W.cell? ⟨w.heap.size, 3, none⟩ = some (.slice E ne ce)) (fun _ => True) 9 (by kernel_rfl) ?_
  change anyU _ _ _ _ _ _ _ 10 _ _ _
  have hB0 : True := trivial
  generalize hwd : (w.alloc (.cells #[.slice A na ca, .int .i64 st, .slice M nm cm, .slice E ne ce] 29)).drew = wd at hA0 HB1 HH K3 ⊢
  have HWD := Lib.hid hwd; clear hwd
  have HC := Lib.hid (automaton_Check A na ca M nm cm E ne ce a wd HH.out)
  rw [HW.out.chk, HST.out] at HC
  ((refine uTake (i := 0) (v := ?_) rfl (by kernel_rfl) (fun _ _ _ h => h) (by rfl) (fun W hA hB => ?_) ⟨hA0, fun _ => hB0⟩ ?_; rotate_left; (· (clear hB; (try dsimp only at hA); go_simp; try with_reducible rfl)); (try simp only [Act.put, List.setIfInBounds_toArray, List.set_cons_zero, List.set_cons_succ])))
  refine uOne (i := 1) rfl (by kernel_rfl) (fun K hK => ?_)
  go_simp
  go_at_call 62
  refine HC.out.mono ?_
  rintro e w5 ⟨rfl, hb5⟩
  have k5 := K3.out.below hb5 K3.out.lt
  have hA5 : w5.cell? ⟨w.heap.size, 0, none⟩ = some (.slice A na ca) ∧ w5.cell? ⟨w.heap.size, 1, none⟩ = some (.int .i64 st) ∧ w5.cell? ⟨w.heap.size, 2, none⟩ = some (.slice M nm cm) ∧ w5.cell? ⟨w.heap.size, 3, none⟩ = some (.slice E ne ce) := ⟨k5.cell (j := 0) rfl, k5.cell (j := 1) rfl, k5.cell (j := 2) rfl, k5.cell (j := 3) rfl⟩
  have H5 := Lib.hid ((HH.out.below hb5).more hb5.size)
  have HB5 := Lib.hid (HB1.out.trans (hb5.mono HB1.out.size))
  have K5 := Lib.hid k5; clear k5
  clear hA0 hb5 HH HB1 K3 HC
  (refine hK _ _ ⟨hA5, fun _ => hB0⟩ ?_; clear hK K; (try simp only [Act.put, List.setIfInBounds_toArray, List.set_cons_zero, List.set_cons_succ]))
  have hA0 := hA5
  have HCA := Lib.hid (automaton_canonical A na ca M nm cm E ne ce a w5 H5.out HW.out)
  rw [HST.out] at HCA
  rw [HCC.out] at HCA
  ((refine uTake (i := 2) (v := ?_) rfl (by kernel_rfl) (fun _ _ _ h => h) (by rfl) (fun W hA hB => ?_) ⟨hA0, fun _ => hB0⟩ ?_; rotate_left; (· (clear hB; (try dsimp only at hA); go_simp; try with_reducible rfl)); (try simp only [Act.put, List.setIfInBounds_toArray, List.set_cons_zero, List.set_cons_succ])); (refine uTake (i := 3) (v := ?_) rfl (by kernel_rfl) (fun _ _ _ h => h) (by rfl) (fun W hA hB => ?_) ⟨hA0, fun _ => hB0⟩ ?_; rotate_left; (· (clear hB; (try dsimp only at hA); go_simp; try with_reducible rfl)); (try simp only [Act.put, List.setIfInBounds_toArray, List.set_cons_zero, List.set_cons_succ])); (refine uTake (i := 4) (v := ?_) rfl (by kernel_rfl) (fun _ _ _ h => h) (by rfl) (fun W hA hB => ?_) ⟨hA0, fun _ => hB0⟩ ?_; rotate_left; (· (clear hB; (try dsimp only at hA); go_simp; try with_reducible rfl)); (try simp only [Act.put, List.setIfInBounds_toArray, List.set_cons_zero, List.set_cons_succ])); (refine uTake (i := 5) (v := ?_) rfl (by kernel_rfl) (fun _ _ _ h => h) (by rfl) (fun W hA hB => ?_) ⟨hA0, fun _ => hB0⟩ ?_; rotate_left; (· (clear hB; (try dsimp only at hA); go_simp; try with_reducible rfl)); (try simp only [Act.put, List.setIfInBounds_toArray, List.set_cons_zero, List.set_cons_succ])))
  refine uOne (i := 6) rfl (by kernel_rfl) (fun K hK => ?_)
  go_simp
  go_at_call 63
  refine HCA.out.mono ?_
  rintro e w6 ⟨A6, na6, ca6, M6, nm6, cm6, E6, ne6, ce6, rfl, hO6, hb6⟩
  rw [HST.out]
  have k6 := K5.out.below hb6 K5.out.lt
  have hA6 : w6.cell? ⟨w.heap.size, 0, none⟩ = some (.slice A na ca) ∧ w6.cell? ⟨w.heap.size, 1, none⟩ = some (.int .i64 st) ∧ w6.cell? ⟨w.heap.size, 2, none⟩ = some (.slice M nm cm) ∧ w6.cell? ⟨w.heap.size, 3, none⟩ = some (.slice E ne ce) := ⟨k6.cell (j := 0) rfl, k6.cell (j := 1) rfl, k6.cell (j := 2) rfl, k6.cell (j := 3) rfl⟩
  have HE := Lib.hid (automaton_Equal A M E A6 M6 E6 na ca nm cm ne ce na6 ca6 nm6 cm6 ne6 ce6 a a true w6 (eqA_of rfl) ((H5.out.below hb6).more hb6.size) hO6.rd)
  rw [HST.out] at HE
  have HB6 := Lib.hid (HB5.out.trans (hb6.mono HB5.out.size))
  have K6 := Lib.hid k6; clear k6
  clear hA0 hA5 hb6 H5 HB5 K5 HCA hO6
  (refine hK _ _ ⟨hA6, fun _ => hB0⟩ ?_; clear hK K; (try simp only [Act.put, List.setIfInBounds_toArray, List.set_cons_zero, List.set_cons_succ]))
  refine uOne (i := 7) rfl (by kernel_rfl) (fun K hK => ?_)
  go_simp
  go_at_call 18
  refine HE.out.mono ?_
  rintro e w7 ⟨rfl, hb7⟩
  have k7 := K6.out.below hb7 K6.out.lt
  have hA7 : w7.cell? ⟨w.heap.size, 0, none⟩ = some (.slice A na ca) ∧ w7.cell? ⟨w.heap.size, 1, none⟩ = some (.int .i64 st) ∧ w7.cell? ⟨w.heap.size, 2, none⟩ = some (.slice M nm cm) ∧ w7.cell? ⟨w.heap.size, 3, none⟩ = some (.slice E ne ce) := ⟨k7.cell (j := 0) rfl, k7.cell (j := 1) rfl, k7.cell (j := 2) rfl, k7.cell (j := 3) rfl⟩
  have HB7 := Lib.hid (HB6.out.trans (hb7.mono HB6.out.size))
  clear hA6 hb7 k7 HB6 K6 HE
  (refine hK _ _ ⟨hA7, fun _ => hB0⟩ ?_; clear hK K; (try simp only [Act.put, List.setIfInBounds_toArray, List.set_cons_zero, List.set_cons_succ]))
  have hA0 := hA7
  ((refine uTake (i := 8) (v := ?_) rfl (by kernel_rfl) (fun _ _ _ h => h) (by rfl) (fun W hA hB => ?_) ⟨hA0, fun _ => hB0⟩ ?_; rotate_left; (· (clear hB; (try dsimp only at hA); go_simp; try with_reducible rfl)); (try simp only [Act.put, List.setIfInBounds_toArray, List.set_cons_zero, List.set_cons_succ])))
  refine uOne (i := 9) rfl (by kernel_rfl) (fun K hK => ?_)
  go_simp
  (refine hK _ _ ⟨hA7, fun _ => hB0⟩ ?_; clear hK K; (try simp only [Act.put, List.setIfInBounds_toArray, List.set_cons_zero, List.set_cons_succ]))
  refine anyU_done (by kernel_rfl) ?_ _
  clear hA0 hA7
  go_wp2
  go_ret
  exact ⟨rfl, HB7.out⟩
end Go.Proofs.YtbdliebjalghmaaDoor
