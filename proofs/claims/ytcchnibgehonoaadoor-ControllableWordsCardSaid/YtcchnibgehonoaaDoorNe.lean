/- Walks: the law's permits. -/
import Derived.Test.YtcchnibgehonoaaDoorNd
import Derived.Test.YtcchnibgehonoaaDoorVa
namespace Go.Proofs.YtcchnibgehonoaaDoor
open Go.RowKit Go

theorem word_Project_n (A B : Option Addr) (c d n m : Nat) (v set : List Int) (w : World) (hl : v.length = n) (hm : set.length = m) (ha : RdI w w.heap.size A v) (hac : n ≤ 17592186044416) (hb : RdI w w.heap.size B set) (hd : m ≤ 4611686018427387903) (hs : Inc set) :
  Calls Tryd.prog 73 #[.slice A n c, .slice B m d] w (RetI (projW v set) w) := by
 subst hl hm
 exact word_Project A B c d v set w ha hac hb hd hs
set_option maxRecDepth 100000 in
set_option maxHeartbeats 1600000 in
theorem law_permits (x : AV) (W : Option Addr) (cw nw : Nat) (ws : List Int) (g : Bool) (w : World) (hx : x.ok w w.heap.size) (hw : WF x.a) (hl : ws.length = nw) (hW : RdI w w.heap.size W ws) (hn : nw ≤ 17592186044416) (hg : gA x.a (projW ws x.a.al) = g) :
  Calls Tryd.prog 39 #[.agg #[.slice x.A x.na x.ca, .int .i64 x.a.st, .slice x.M x.nm x.cm, .slice x.E x.ne x.ce], .slice W nw cw] w fun e w' => e = .returned (.bool g) ∧ Below w.heap.size w w' := by
 have hb1 := box_below w (.cells #[.slice x.A x.na x.ca, .int .i64 x.a.st, .slice x.M x.nm x.cm, .slice x.E x.ne x.ce] 25)
 have hvx := VarA.new hx
 obtain ⟨w1, hw1⟩ : ∃ w1, w1 = w.alloc (.cells #[.slice x.A x.na x.ca, .int .i64 x.a.st, .slice x.M x.nm x.cm, .slice x.E x.ne x.ce] 25) := ⟨_, rfl⟩
 have hW1 := (hW.below hb1).more hb1.size
 rw [← hw1] at hb1 hvx hW1
 have HW1 := Lib.hid hw1; clear hw1
 have HB1 := Lib.hid hb1; clear hb1
 have HG := Lib.hid hg; clear hg
 have HWF := Lib.hid hw; clear hw
 clear hx hW
 go_enter Tryd.func39, Tryd.ntmps39
 go_upto_region 1 with fail
 rw [← HW1.out]
 refine wp_region_U (fun W => CV W w.heap.size x) (fun _ => True) 4 (by kernel_rfl) ?_
 change anyU _ _ _ _ _ _ _ 11 _ _ _
 have hB0 : True := trivial
 have hbd := below_dr w1
 have HVX := Lib.hid (hvx.below hbd)
 have hWd := (hW1.below hbd).more hbd.size
 have HBD := Lib.hid (HB1.out.trans (hbd.mono HB1.out.size))
 clear hvx hW1 hbd
 generalize w1.drew = wd at HVX hWd HBD ⊢
 have hA0 := HVX.out.cv
 have hxal := HWF.out.al_le
 have HPJ := Lib.hid (word_Project_n W x.A cw x.ca nw x.na ws x.a.al wd hl HVX.out.ok.la hWd hn HVX.out.ok.ra (by have := HVX.out.ok.la; omega) HWF.out.inc)
 clear hWd hxal
 obtain ⟨np, hnp⟩ : ∃ k, (projW ws x.a.al).length = k := ⟨_, rfl⟩
 have HNP := Lib.hid hnp; clear hnp
 (refine uA 0 ?_ rfl hA0 hB0 (fun W hA => ?_) ?_; rotate_left; (· (obtain ⟨a0, a1, a2, a3⟩ := hA; go_simp; try with_reducible rfl)); (try simp only [Act.put, List.setIfInBounds_toArray, List.set_cons_zero, List.set_cons_succ]))
 (refine uA 1 ?_ rfl hA0 hB0 (fun W hA => ?_) ?_; rotate_left; (· (go_simp; try with_reducible rfl)); refine uA 2 ?_ rfl hA0 hB0 (fun W hA => ?_) ?_; rotate_left; (· (go_simp; try with_reducible rfl)); (try simp only [Act.put, List.setIfInBounds_toArray, List.set_cons_zero, List.set_cons_succ]))
 (refine uA 3 ?_ rfl hA0 hB0 (fun W hA => ?_) ?_; rotate_left; (· (obtain ⟨a0, a1, a2, a3⟩ := hA; go_simp; try with_reducible rfl)); (try simp only [Act.put, List.setIfInBounds_toArray, List.set_cons_zero, List.set_cons_succ]))
 refine uOne (i := 4) rfl (by kernel_rfl) (fun K hK => ?_)
 go_simp
 go_at_call 73
 refine HPJ.out.mono ?_
 rintro e we ⟨PA, pc, rfl, hp1, hp2, hpr, hbe⟩
 rw [HNP.out] at hp1 ⊢
 have hvx := HVX.out.below hbe
 have HGE := Lib.hid (automaton_Generates x.A x.M x.E x.na x.ca x.nm x.cm x.ne x.ce x.a PA pc np (projW ws x.a.al) g we hvx.ok HWF.out HNP.out hpr hp1 hp2 HG.out)
 have hA1 := hvx.cv
 have HBE := Lib.hid (HBD.out.trans (hbe.mono HBD.out.size))
 have HVE := Lib.hid hvx; clear hvx
 clear hA0 hbe hpr HPJ hp1 hp2
 (refine hK _ _ ⟨hA1, fun _ => hB0⟩ ?_; clear hK K; (try simp only [Act.put, List.setIfInBounds_toArray, List.set_cons_zero, List.set_cons_succ]))
 refine uOne (i := 5) rfl (by kernel_rfl) (fun K hK => ?_)
 go_simp
 go_at_call 38
 refine HGE.out.mono ?_
 rintro e wf ⟨rfl, hbf⟩
 have HBF := Lib.hid (HBE.out.trans (hbf.mono HBE.out.size))
 have hA0 := (HVE.out.below hbf).cv
 clear hA1 hbf HGE
 (refine hK _ _ ⟨hA0, fun _ => hB0⟩ ?_; clear hK K; (try simp only [Act.put, List.setIfInBounds_toArray, List.set_cons_zero, List.set_cons_succ]))
 (refine uA 6 ?_ rfl hA0 hB0 (fun W hA => ?_) ?_; rotate_left; (· (go_simp; try with_reducible rfl)); refine uA 7 ?_ rfl hA0 hB0 (fun W hA => ?_) ?_; rotate_left; (· (go_simp; try with_reducible rfl)); refine uA 8 ?_ rfl hA0 hB0 (fun W hA => ?_) ?_; rotate_left; (· (go_simp; try with_reducible rfl)); refine uA 9 ?_ rfl hA0 hB0 (fun W hA => ?_) ?_; rotate_left; (· (go_simp; try with_reducible rfl)); refine uA 10 ?_ rfl hA0 hB0 (fun W hA => ?_) ?_; rotate_left; (· (go_simp; try with_reducible rfl)); (try simp only [Act.put, List.setIfInBounds_toArray, List.set_cons_zero, List.set_cons_succ]))
 refine anyU_done (by kernel_rfl) ?_ _
 clear hA0 hB0
 cases g with
 | true =>
  go_wp2
  go_ret
  exact ⟨rfl, HBF.out⟩
 | false =>
  go_wp2
  go_ret
  exact ⟨rfl, HBF.out⟩
end Go.Proofs.YtcchnibgehonoaaDoor
