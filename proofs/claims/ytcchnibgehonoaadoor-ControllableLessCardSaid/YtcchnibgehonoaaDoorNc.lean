/- Walks: the law's included. -/
import Derived.Test.YtcchnibgehonoaaDoorNb
import Derived.Test.YtcchnibgehonoaaDoorDt
import Derived.Test.YtcchnibgehonoaaDoorVa
namespace Go.Proofs.YtcchnibgehonoaaDoor
open Go.RowKit Go Go.Maps

set_option maxRecDepth 100000 in
set_option maxHeartbeats 6400000 in
theorem law_included (x y : AV) (w : World) (hx : x.ok w w.heap.size) (hy : y.ok w w.heap.size) (hxw : WF x.a) (hyw : WF y.a) (hin : ∀ ws, gA x.a ws = true → gA y.a ws = true) :
  Calls Tryd.prog 42 #[.agg #[.slice x.A x.na x.ca, .int .i64 x.a.st, .slice x.M x.nm x.cm, .slice x.E x.ne x.ce], .agg #[.slice y.A y.na y.ca, .int .i64 y.a.st, .slice y.M y.nm y.cm, .slice y.E y.ne y.ce]] w fun e w' => e = .returned (.bool true) ∧ Below w.heap.size w w' := by
 have hb1 := box_below w (.cells #[.slice x.A x.na x.ca, .int .i64 x.a.st, .slice x.M x.nm x.cm, .slice x.E x.ne x.ce] 25)
 have vx := VarA.new hx
 have vy := VarA.new (AutR.more (AutR.below hy hb1) hb1.size : y.ok (w.alloc (.cells #[.slice x.A x.na x.ca, .int .i64 x.a.st, .slice x.M x.nm x.cm, .slice x.E x.ne x.ce] 25)) _)
 have hb2 := box_below (w.alloc (.cells #[.slice x.A x.na x.ca, .int .i64 x.a.st, .slice x.M x.nm x.cm, .slice x.E x.ne x.ce] 25)) (.cells #[.slice y.A y.na y.ca, .int .i64 y.a.st, .slice y.M y.nm y.cm, .slice y.E y.ne y.ce] 25)
 have hvx := vx.below hb2
 have hb3 := hb1.trans (hb2.mono hb1.size)
 rw [show (w.alloc (.cells #[.slice x.A x.na x.ca, .int .i64 x.a.st, .slice x.M x.nm x.cm, .slice x.E x.ne x.ce] 25)).heap.size = w.heap.size + 1 by simp] at vy
 obtain ⟨w1, hw1⟩ : ∃ w1, w1 = (w.alloc (.cells #[.slice x.A x.na x.ca, .int .i64 x.a.st, .slice x.M x.nm x.cm, .slice x.E x.ne x.ce] 25)).alloc (.cells #[.slice y.A y.na y.ca, .int .i64 y.a.st, .slice y.M y.nm y.cm, .slice y.E y.ne y.ce] 25) := ⟨_, rfl⟩
 rw [← hw1] at hvx vy hb3
 obtain ⟨RES, hr⟩ : ∃ r, wrd x.a 4 = r := ⟨_, rfl⟩
 have HC := Lib.hid (automaton_Words x.A x.M x.E x.na x.ca x.nm x.cm x.ne x.ce x.a 4 RES w1 hvx.ok hxw (by omega) hr)
 have HIN := Lib.hid (show ∀ l, RES = some l → ∀ z ∈ l, gA y.a z.1 = true from fun l e z hz => hin _ (wrd_sound hxw (hr.trans e) z hz))
 have HW1 := Lib.hid hw1; clear hw1
 have HB3 := Lib.hid hb3; clear hb3
 have VX := Lib.hid hvx; clear hvx
 have VY := Lib.hid vy; clear vy
 have HYW := Lib.hid hyw; clear hyw
 clear hb1 hb2 vx hx hy hr hin hxw
 go_enter Tryd.func42, Tryd.ntmps42
 go_upto_region 1 with fail
 rw [← HW1.out]
 have p0 := VX.out.c0
 have p1 := VX.out.c1
 have p2 := VX.out.c2
 have p3 := VX.out.c3
 go_wp2_with fail
 clear p0 p1 p2 p3
 refine HC.out.mono ?_
 rintro e w2 ⟨hb, hno, hs⟩
 have HB := Lib.hid (HB3.out.trans (hb.mono HB3.out.size))
 have VY2 := Lib.hid (VY.out.below hb)
 clear HC hb VY HW1
 cases RES with
 | none =>
  obtain rfl := hno rfl
  clear hs
  go_wp2
  go_ret
  exact ⟨rfl, HB.out⟩
 | some l =>
  obtain ⟨LA, lc, xs, rfl, hxl, hrs, hc1, hc2⟩ := hs l rfl
  have HNX := Lib.hid (HIN.out l rfl)
  obtain ⟨n, hn⟩ : ∃ n, l.length = n := ⟨_, rfl⟩
  rw [hn] at hc1 ⊢
  have hxn : xs.length = n := by rw [← hn, ← List.length_map (f := SlV.l), hxl, List.length_map]
  have HRS := Lib.hid hrs; clear hrs
  have HXL := Lib.hid hxl; clear hxl
  have HXN := Lib.hid hxn; clear hxn
  have HLN := Lib.hid hn; clear hn
  have hnm : n ≤ 9223372036854775807 := by omega
  clear hno HIN hc1 hc2
  go_wp2
  go_loopw [7, 8, 9] (fun s7 s8 s9 wr => ∃ (i : Nat) (v8 v9 : Value), s8 = v8 ∧ s9 = v9 ∧ s7 = .int .i64 i ∧ i ≤ n ∧ Hid (Below w2.heap.size w2 wr)) (fun s7 _ _ _ => n - (intOf s7).toNat)
  case atStart => exact ⟨0, _, _, rfl, rfl, rfl, Nat.zero_le _, Lib.hid (Below.refl _ _)⟩
  case round =>
   obtain ⟨i, v8, v9, rfl, rfl, rfl, hi, HBR⟩ := hrel
   by_cases hlt : i < n
   ·obtain ⟨ad, s, hA, hab, hsi, hsc, hsr, hs1, hs2⟩ := ((HRS.out.below HBR.out).more HBR.out.size).at_ (k := i) (by rw [HXN.out]; exact hlt)
    subst hA
    have b1 : (i : Int) < (n : Int) := by omega
    obtain ⟨sA, sc, sl⟩ := s
    obtain ⟨ns, hns⟩ : ∃ k, sl.length = k := ⟨_, rfl⟩
    replace hsc : wr.cell? (ad.add i) = some (.slice sA ns sc) := by rw [← hns]; exact hsc
    have hg : gA y.a sl = true := by
     have h1 : (xs.map SlV.l)[i]? = some sl := by rw [List.getElem?_map, hsi]; rfl
     rw [HXL.out, List.getElem?_map] at h1
     cases hz : l[i]? with
     | none => rw [hz] at h1; cases h1
     | some z =>
      rw [hz] at h1
      injection h1 with h1
      rw [← h1]
      exact HNX.out z (List.mem_of_getElem? hz)
    go_upto_region 7 with fail
    refine wp_region_U (fun W => CV W (w.heap.size + 1) y ∧ W.cell? (ad.add i) = some (.slice sA ns sc)) (fun _ => True) 5 (by kernel_rfl) ?_
    change anyU _ _ _ _ _ _ _ 11 _ _ _
    have hB0 : True := trivial
    have hbd := below_dr wr
    have HAW := Lib.hid (fun (W : World) (hb : Below wr.heap.size wr W) => (show CV W (w.heap.size + 1) y ∧ W.cell? (ad.add i) = some (.slice sA ns sc) from ⟨(VY2.out.below (HBR.out.trans (hb.mono HBR.out.size))).cv, (hb.cell (p := ad.add i) (by rw [block_of_add]; exact hab)).trans hsc⟩))
    have HGE := Lib.hid (automaton_Generates y.A y.M y.E y.na y.ca y.nm y.cm y.ne y.ce y.a sA sc ns sl true wr.drew (VY2.out.below (HBR.out.trans (hbd.mono HBR.out.size))).ok HYW.out hns ((hsr.below hbd).more hbd.size) (by rw [← hns]; exact hs1) hs2 hg)
    have hA0 := HAW.out _ hbd
    have HBD := Lib.hid hbd
    clear hsc hsi hsr hab hg hbd hs1 hs2
    generalize wr.drew = wd at hA0 HGE HBD ⊢
    (refine uA 0 ?_ rfl hA0 hB0 (fun W hA => ?_) ?_; rotate_left; (· (obtain ⟨⟨a0, a1, a2, a3⟩, _⟩ := hA; go_simp; try with_reducible rfl)); (try simp only [Act.put, List.setIfInBounds_toArray, List.set_cons_zero, List.set_cons_succ]))
    (refine uA 1 ?_ rfl hA0 hB0 (fun W hA => ?_) ?_; rotate_left; (· (go_simp; try with_reducible rfl)); refine uA 2 ?_ rfl hA0 hB0 (fun W hA => ?_) ?_; rotate_left; (· (go_simp; try with_reducible rfl)); refine uA 3 ?_ rfl hA0 hB0 (fun W hA => ?_) ?_; rotate_left; (· (go_simp; try with_reducible rfl)); (try simp only [Act.put, List.setIfInBounds_toArray, List.set_cons_zero, List.set_cons_succ]))
    (refine uA 4 ?_ rfl hA0 hB0 (fun W hA => ?_) ?_; rotate_left; (· (obtain ⟨_, a0⟩ := hA; go_simp; try with_reducible rfl)); (try simp only [Act.put, List.setIfInBounds_toArray, List.set_cons_zero, List.set_cons_succ]))
    refine uOne (i := 5) rfl (by kernel_rfl) (fun K hK => ?_)
    go_simp
    go_at_call 38
    refine HGE.out.mono ?_
    rintro e we ⟨rfl, hbe⟩
    have HBE := Lib.hid (HBD.out.trans (hbe.mono HBD.out.size))
    have hA1 := HAW.out we HBE.out
    clear hA0 hbe HGE
    have hA0 := hA1
    (refine hK _ _ ⟨hA1, fun _ => hB0⟩ ?_; clear hK K; (try simp only [Act.put, List.setIfInBounds_toArray, List.set_cons_zero, List.set_cons_succ]))
    (refine uA 6 ?_ rfl hA0 hB0 (fun W hA => ?_) ?_; rotate_left; (· (go_simp; try with_reducible rfl)); refine uA 7 ?_ rfl hA0 hB0 (fun W hA => ?_) ?_; rotate_left; (· (go_simp; try with_reducible rfl)); refine uA 8 ?_ rfl hA0 hB0 (fun W hA => ?_) ?_; rotate_left; (· (go_simp; try with_reducible rfl)); refine uA 9 ?_ rfl hA0 hB0 (fun W hA => ?_) ?_; rotate_left; (· (go_simp; try with_reducible rfl)); refine uA 10 ?_ rfl hA0 hB0 (fun W hA => ?_) ?_; rotate_left; (· (go_simp; try with_reducible rfl)); (try simp only [Act.put, List.setIfInBounds_toArray, List.set_cons_zero, List.set_cons_succ]))
    refine anyU_done (by kernel_rfl) ?_ _
    clear hA0 hB0 HAW
    go_wp2
    go_roundw
    case rel => exact ⟨i + 1, _, _, rfl, rfl, by go_num, by omega, Lib.hid (HBR.out.trans (HBE.out.mono HBR.out.size))⟩
    case measure => simp [intOf]; omega
   ·obtain rfl : i = n := by omega
    have b1 : ¬ (i : Int) < (i : Int) := by omega
    go_wp2
    go_ret
    exact ⟨rfl, HB.out.trans (HBR.out.mono HB.out.size)⟩
end Go.Proofs.YtcchnibgehonoaaDoor
