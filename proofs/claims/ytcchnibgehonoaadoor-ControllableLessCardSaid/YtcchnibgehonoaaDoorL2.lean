/- The law ControllableLess: its walk. -/
import Derived.Test.YtcchnibgehonoaaDoorNc
namespace Go.Proofs.YtcchnibgehonoaaDoor
open Go.RowKit Go Go.Maps

theorem bad_nil {P R : Aut} {T : List (List Int)} {n : Nat} : badI P R [] T n = [] := by
 unfold badI
 rw [List.filter_eq_nil_iff]
 intro i _
 simp only [decide_eq_true_eq]
 show ¬ (0 : Int) ≤ -1
 omega
set_option maxRecDepth 100000 in
set_option maxHeartbeats 6400000 in
theorem less_walk (p : Prm) (sv : Int) (w : World) (hok : p.ok) (hs : 0 ≤ sv ∧ sv ≤ 255) :
  Calls Tryd.prog 9 #[.agg (mcells p).toArray, .int .u8 sv] w fun e w' => e = .returned (.bool true) ∧ Below w.heap.size w w' := by
 have hb1 := box_below w (.cells (mcells p).toArray 54)
 obtain ⟨w1, hw1⟩ : ∃ w1, w1 = w.alloc (.cells (mcells p).toArray 54) := ⟨_, rfl⟩
 have kx : Blk w1 w.heap.size 54 (mcells p) := by rw [hw1]; exact Blk.new _ _ _
 rw [← hw1] at hb1
 have HC := Lib.hid (law_known26 w1)
 obtain ⟨q, T, hp⟩ := prm_prob hok
 have HW1 := Lib.hid hw1; clear hw1
 have HB1 := Lib.hid hb1; clear hb1
 have KX := Lib.hid kx; clear kx
 have HOK := Lib.hid hok; clear hok
 have HPR := Lib.hid hp; clear hp
 go_enter Tryd.func9, Tryd.ntmps9
 go_wp2_with fail
 rw [← HW1.out]
 refine HC.out.mono ?_
 rintro e w2 ⟨rfl, hb⟩
 have HB2 := Lib.hid (HB1.out.trans (hb.mono HB1.out.size))
 have hk2 := KX.out.below hb KX.out.lt
 have HMK := Lib.hid (law_MakeV p w2 HOK.out)
 clear HC hb KX
 go_wp2_with (first | refine wpList_load_prob rfl _ rfl w.heap.size p HOK.out (by rfl) hk2 ?_)
 clear hk2
 refine HMK.out.mono ?_
 rintro e w3 ⟨x, y, U, nu, cu, rfl, hxa, hya, hx, hy, hu, hb⟩
 have vx := VarA.new hx
 have hbx := box_below w3 (.cells #[.slice x.A x.na x.ca, .int .i64 x.a.st, .slice x.M x.nm x.cm, .slice x.E x.ne x.ce] 25)
 have vy := VarA.new (AutR.more (AutR.below hy hbx) hbx.size : y.ok (w3.alloc (.cells #[.slice x.A x.na x.ca, .int .i64 x.a.st, .slice x.M x.nm x.cm, .slice x.E x.ne x.ce] 25)) _)
 have hby := box_below (w3.alloc (.cells #[.slice x.A x.na x.ca, .int .i64 x.a.st, .slice x.M x.nm x.cm, .slice x.E x.ne x.ce] 25)) (.cells #[.slice y.A y.na y.ca, .int .i64 y.a.st, .slice y.M y.nm y.cm, .slice y.E y.ne y.ce] 25)
 have HP := Lib.hid (show Prob x.a y.a (unE p) q T by rw [hxa, hya]; exact HPR.out)
 have HPS := Lib.hid (show x.a.st ≤ 5 by rw [hxa]; exact (ptA_sm HOK.out.1).st)
 have HRS := Lib.hid (show y.a.st ≤ 5 by rw [hya]; exact (rqA_sm HOK.out).st)
 have hu4 := (hu.below hbx).below hby
 have hb4 := hb.trans ((hbx.trans (hby.mono hbx.size)).mono hb.size)
 have HB := Lib.hid (HB2.out.trans (hb4.mono HB2.out.size))
 have hvx := vx.below hby
 have HXA := Lib.hid hxa; clear hxa
 have HYA := Lib.hid hya; clear hya
 clear hbx hby hb hb4 hx hy hu vx HMK HPR HB2
 go_upto_region 4 with fail
 rw [show (w3.alloc (.cells #[.slice x.A x.na x.ca, .int .i64 x.a.st, .slice x.M x.nm x.cm, .slice x.E x.ne x.ce] 25)).heap.size = w3.heap.size + 1 by simp] at vy
 obtain ⟨bx, hbx⟩ : ∃ b, w3.heap.size = b := ⟨_, rfl⟩
 rw [hbx] at hvx vy ⊢
 generalize (w3.alloc (.cells #[.slice x.A x.na x.ca, .int .i64 x.a.st, .slice x.M x.nm x.cm, .slice x.E x.ne x.ce] 25)).alloc (.cells #[.slice y.A y.na y.ca, .int .i64 y.a.st, .slice y.M y.nm y.cm, .slice y.E y.ne y.ce] 25) = w4 at hvx vy hu4 HB ⊢
 clear hbx w3
 have Vx := Lib.hid hvx
 have Vy := Lib.hid vy
 have HU := Lib.hid hu4
 clear hvx vy hu4
 have HSV := Lib.hid (set_Events sv w4 hs.1 hs.2)
 obtain ⟨ms, hms⟩ : ∃ k, (setB sv 5).length = k := ⟨_, rfl⟩
 have hms5 : ms ≤ 5 := by rw [← hms]; exact setB_le sv 5
 have HMS := Lib.hid hms; clear hms
 go_wp2_with fail
 refine HSV.out.mono ?_
 rintro e w5 ⟨vs, rfl, hos, hb⟩
 rw [HMS.out] at hos
 obtain ⟨SA, sc, rfl⟩ := own_shape hos
 obtain ⟨hsc1, hsc2⟩ := own_cap' hos
 replace Vx := Lib.hid (Vx.out.below hb)
 replace Vy := Lib.hid (Vy.out.below hb)
 replace HU := Lib.hid (HU.out.below hb)
 replace HB := Lib.hid (HB.out.trans (hb.mono HB.out.size))
 obtain ⟨nw, hnw⟩ : ∃ k, (mrg (unE p) (setB sv 5)).length = k := ⟨_, rfl⟩
 have HUN := Lib.hid (alphabet_Union U SA nu ms cu sc (unE p) (setB sv 5) w5 HU.out.len HU.out.rd HU.out.c1 HU.out.c2 HMS.out (RdI.of_own hos) hsc1 hsc2 (by have h1 := HU.out.len; have h2 := setB_le p.un 5; have : (unE p).length ≤ 5 := h2; omega))
 have HNW := Lib.hid hnw; clear hnw
 clear hb hos HSV
 go_wp2_with fail
 refine HUN.out.mono ?_
 rintro e w6 ⟨vw, rfl, how, hb⟩
 rw [HNW.out] at how
 obtain ⟨WA, wc, rfl⟩ := own_shape how
 replace Vx := Lib.hid (Vx.out.below hb)
 replace Vy := Lib.hid (Vy.out.below hb)
 replace HU := Lib.hid (HU.out.below hb)
 replace HB := Lib.hid (HB.out.trans (hb.mono HB.out.size))
 have HW := Lib.hid (show RdU w6 WA nw wc (mrg (unE p) (setB sv 5)) from ⟨HNW.out, RdI.of_own how, (own_cap' how).1, (own_cap' how).2⟩)
 have HNIL := Lib.hid (show RdU w6 none 0 0 [] from ⟨rfl, RdI.nil, Nat.le_refl _, by omega⟩)
 have HPW := Lib.hid (show Prob x.a y.a (mrg (unE p) (setB sv 5)) q T from HP.out.chg (mrg_inc (set5 p.un).1 (set5 sv).1) (fun z hz => (mrg_mem.1 hz).elim (set32 p.un z) (set32 sv z)))
 have HPN := Lib.hid (show Prob x.a y.a [] q T from HP.out.chg List.Pairwise.nil (fun z hz => by cases hz))
 have HSB := Lib.hid (show ∀ v ∈ unE p, v ∈ mrg (unE p) (setB sv 5) from fun v hv => mrg_mem.2 (.inl hv))
 clear hb how HUN hsc1 hsc2
 go_upto_region 5 with fail
 have HC := Lib.hid (supV Vx.out.ok Vy.out.ok HU.out HP.out)
 have cx0 := Vx.out.c0
 have cx1 := Vx.out.c1
 have cx2 := Vx.out.c2
 have cx3 := Vx.out.c3
 have cy0 := Vy.out.c0
 have cy1 := Vy.out.c1
 have cy2 := Vy.out.c2
 have cy3 := Vy.out.c3
 go_wp2_with fail
 clear cx0 cx1 cx2 cx3 cy0 cy1 cy2 cy3
 refine HC.out.mono ?_
 rintro e wn ⟨s, rfl, hsa, hz, hb⟩
 have hbz := box_below wn (.cells #[.slice s.A s.na s.ca, .int .i64 s.a.st, .slice s.M s.nm s.cm, .slice s.E s.ne s.ce] 25)
 have hb5 := hb.trans (hbz.mono hb.size)
 replace Vx := Lib.hid (Vx.out.below hb5)
 replace Vy := Lib.hid (Vy.out.below hb5)
 replace HU := Lib.hid (HU.out.below hb5)
 replace HW := Lib.hid (HW.out.below hb5)
 replace HNIL := Lib.hid (HNIL.out.below hb5)
 replace HB := Lib.hid (HB.out.trans (hb5.mono HB.out.size))
 have hv := VarA.new hz
 have HsA := Lib.hid hsa; clear hsa
 clear hbz hb hb5 hz HC
 go_upto_region 6 with fail
 obtain ⟨bs, hbz⟩ : ∃ b, wn.heap.size = b := ⟨_, rfl⟩
 rw [hbz] at hv ⊢
 clear hbz
 generalize (wn.alloc (.cells #[.slice s.A s.na s.ca, .int .i64 s.a.st, .slice s.M s.nm s.cm, .slice s.E s.ne s.ce] 25)) = w7 at Vx Vy HU HW HNIL HB hv ⊢
 have Vs := Lib.hid hv
 clear hv
 clear wn
 have HC := Lib.hid (supV Vx.out.ok Vy.out.ok HW.out HPW.out)
 have cx0 := Vx.out.c0
 have cx1 := Vx.out.c1
 have cx2 := Vx.out.c2
 have cx3 := Vx.out.c3
 have cy0 := Vy.out.c0
 have cy1 := Vy.out.c1
 have cy2 := Vy.out.c2
 have cy3 := Vy.out.c3
 go_wp2_with fail
 clear cx0 cx1 cx2 cx3 cy0 cy1 cy2 cy3
 refine HC.out.mono ?_
 rintro e wn ⟨t, rfl, hta, hz, hb⟩
 have hbz := box_below wn (.cells #[.slice t.A t.na t.ca, .int .i64 t.a.st, .slice t.M t.nm t.cm, .slice t.E t.ne t.ce] 25)
 have hb5 := hb.trans (hbz.mono hb.size)
 replace Vx := Lib.hid (Vx.out.below hb5)
 replace Vy := Lib.hid (Vy.out.below hb5)
 replace Vs := Lib.hid (Vs.out.below hb5)
 replace HU := Lib.hid (HU.out.below hb5)
 replace HW := Lib.hid (HW.out.below hb5)
 replace HNIL := Lib.hid (HNIL.out.below hb5)
 replace HB := Lib.hid (HB.out.trans (hb5.mono HB.out.size))
 have hv := VarA.new hz
 have HtA := Lib.hid hta; clear hta
 clear hbz hb hb5 hz HC
 go_upto_region 7 with fail
 obtain ⟨bt, hbz⟩ : ∃ b, wn.heap.size = b := ⟨_, rfl⟩
 rw [hbz] at hv ⊢
 clear hbz
 generalize (wn.alloc (.cells #[.slice t.A t.na t.ca, .int .i64 t.a.st, .slice t.M t.nm t.cm, .slice t.E t.ne t.ce] 25)) = w8 at Vx Vy Vs HU HW HNIL HB hv ⊢
 have Vt := Lib.hid hv
 clear hv
 clear wn
 have HC := Lib.hid (infV Vx.out.ok Vy.out.ok HU.out HP.out)
 have cx0 := Vx.out.c0
 have cx1 := Vx.out.c1
 have cx2 := Vx.out.c2
 have cx3 := Vx.out.c3
 have cy0 := Vy.out.c0
 have cy1 := Vy.out.c1
 have cy2 := Vy.out.c2
 have cy3 := Vy.out.c3
 go_wp2_with fail
 clear cx0 cx1 cx2 cx3 cy0 cy1 cy2 cy3
 refine HC.out.mono ?_
 rintro e wn ⟨i, rfl, hia, hz, hb⟩
 have hbz := box_below wn (.cells #[.slice i.A i.na i.ca, .int .i64 i.a.st, .slice i.M i.nm i.cm, .slice i.E i.ne i.ce] 25)
 have hb5 := hb.trans (hbz.mono hb.size)
 replace Vx := Lib.hid (Vx.out.below hb5)
 replace Vy := Lib.hid (Vy.out.below hb5)
 replace Vs := Lib.hid (Vs.out.below hb5)
 replace Vt := Lib.hid (Vt.out.below hb5)
 replace HU := Lib.hid (HU.out.below hb5)
 replace HW := Lib.hid (HW.out.below hb5)
 replace HNIL := Lib.hid (HNIL.out.below hb5)
 replace HB := Lib.hid (HB.out.trans (hb5.mono HB.out.size))
 have hv := VarA.new hz
 have HiA := Lib.hid hia; clear hia
 clear hbz hb hb5 hz HC
 go_upto_region 8 with fail
 obtain ⟨bi, hbz⟩ : ∃ b, wn.heap.size = b := ⟨_, rfl⟩
 rw [hbz] at hv ⊢
 clear hbz
 generalize (wn.alloc (.cells #[.slice i.A i.na i.ca, .int .i64 i.a.st, .slice i.M i.nm i.cm, .slice i.E i.ne i.ce] 25)) = w9 at Vx Vy Vs Vt HU HW HNIL HB hv ⊢
 have Vi := Lib.hid hv
 clear hv
 clear wn
 have HC := Lib.hid (infV Vx.out.ok Vy.out.ok HW.out HPW.out)
 have cx0 := Vx.out.c0
 have cx1 := Vx.out.c1
 have cx2 := Vx.out.c2
 have cx3 := Vx.out.c3
 have cy0 := Vy.out.c0
 have cy1 := Vy.out.c1
 have cy2 := Vy.out.c2
 have cy3 := Vy.out.c3
 go_wp2_with fail
 clear cx0 cx1 cx2 cx3 cy0 cy1 cy2 cy3
 refine HC.out.mono ?_
 rintro e wn ⟨j, rfl, hja, hz, hb⟩
 have hbz := box_below wn (.cells #[.slice j.A j.na j.ca, .int .i64 j.a.st, .slice j.M j.nm j.cm, .slice j.E j.ne j.ce] 25)
 have hb5 := hb.trans (hbz.mono hb.size)
 replace Vx := Lib.hid (Vx.out.below hb5)
 replace Vy := Lib.hid (Vy.out.below hb5)
 replace Vs := Lib.hid (Vs.out.below hb5)
 replace Vt := Lib.hid (Vt.out.below hb5)
 replace Vi := Lib.hid (Vi.out.below hb5)
 replace HU := Lib.hid (HU.out.below hb5)
 replace HW := Lib.hid (HW.out.below hb5)
 replace HNIL := Lib.hid (HNIL.out.below hb5)
 replace HB := Lib.hid (HB.out.trans (hb5.mono HB.out.size))
 have hv := VarA.new hz
 have HjA := Lib.hid hja; clear hja
 clear hbz hb hb5 hz HC
 go_upto_region 9 with fail
 obtain ⟨bj, hbz⟩ : ∃ b, wn.heap.size = b := ⟨_, rfl⟩
 rw [hbz] at hv ⊢
 clear hbz
 generalize (wn.alloc (.cells #[.slice j.A j.na j.ca, .int .i64 j.a.st, .slice j.M j.nm j.cm, .slice j.E j.ne j.ce] 25)) = w10 at Vx Vy Vs Vt Vi HU HW HNIL HB hv ⊢
 have Vj := Lib.hid hv
 clear hv
 clear wn
 have HC := Lib.hid (supV Vx.out.ok Vy.out.ok HNIL.out HPN.out)
 have cx0 := Vx.out.c0
 have cx1 := Vx.out.c1
 have cx2 := Vx.out.c2
 have cx3 := Vx.out.c3
 have cy0 := Vy.out.c0
 have cy1 := Vy.out.c1
 have cy2 := Vy.out.c2
 have cy3 := Vy.out.c3
 go_wp2_with fail
 clear cx0 cx1 cx2 cx3 cy0 cy1 cy2 cy3
 refine HC.out.mono ?_
 rintro e wn ⟨f, rfl, hfa, hz, hb⟩
 have hbz := box_below wn (.cells #[.slice f.A f.na f.ca, .int .i64 f.a.st, .slice f.M f.nm f.cm, .slice f.E f.ne f.ce] 25)
 have hb5 := hb.trans (hbz.mono hb.size)
 replace Vx := Lib.hid (Vx.out.below hb5)
 replace Vy := Lib.hid (Vy.out.below hb5)
 replace Vs := Lib.hid (Vs.out.below hb5)
 replace Vt := Lib.hid (Vt.out.below hb5)
 replace Vi := Lib.hid (Vi.out.below hb5)
 replace Vj := Lib.hid (Vj.out.below hb5)
 replace HU := Lib.hid (HU.out.below hb5)
 replace HW := Lib.hid (HW.out.below hb5)
 replace HNIL := Lib.hid (HNIL.out.below hb5)
 replace HB := Lib.hid (HB.out.trans (hb5.mono HB.out.size))
 have hv := VarA.new hz
 have HfA := Lib.hid hfa; clear hfa
 clear hbz hb hb5 hz HC
 go_upto_region 10 with fail
 obtain ⟨bf, hbz⟩ : ∃ b, wn.heap.size = b := ⟨_, rfl⟩
 rw [hbz] at hv ⊢
 clear hbz
 generalize (wn.alloc (.cells #[.slice f.A f.na f.ca, .int .i64 f.a.st, .slice f.M f.nm f.cm, .slice f.E f.ne f.ce] 25)) = w11 at Vx Vy Vs Vt Vi Vj HU HW HNIL HB hv ⊢
 have Vf := Lib.hid hv
 clear hv
 clear wn
 have HC := Lib.hid (infV Vx.out.ok Vy.out.ok HNIL.out HPN.out)
 have cx0 := Vx.out.c0
 have cx1 := Vx.out.c1
 have cx2 := Vx.out.c2
 have cx3 := Vx.out.c3
 have cy0 := Vy.out.c0
 have cy1 := Vy.out.c1
 have cy2 := Vy.out.c2
 have cy3 := Vy.out.c3
 go_wp2_with fail
 clear cx0 cx1 cx2 cx3 cy0 cy1 cy2 cy3
 refine HC.out.mono ?_
 rintro e wn ⟨g, rfl, hga, hz, hb⟩
 have hbz := box_below wn (.cells #[.slice g.A g.na g.ca, .int .i64 g.a.st, .slice g.M g.nm g.cm, .slice g.E g.ne g.ce] 25)
 have hb5 := hb.trans (hbz.mono hb.size)
 replace Vx := Lib.hid (Vx.out.below hb5)
 replace Vy := Lib.hid (Vy.out.below hb5)
 replace Vs := Lib.hid (Vs.out.below hb5)
 replace Vt := Lib.hid (Vt.out.below hb5)
 replace Vi := Lib.hid (Vi.out.below hb5)
 replace Vj := Lib.hid (Vj.out.below hb5)
 replace Vf := Lib.hid (Vf.out.below hb5)
 replace HU := Lib.hid (HU.out.below hb5)
 replace HW := Lib.hid (HW.out.below hb5)
 replace HNIL := Lib.hid (HNIL.out.below hb5)
 replace HB := Lib.hid (HB.out.trans (hb5.mono HB.out.size))
 have hv := VarA.new hz
 have HgA := Lib.hid hga; clear hga
 clear hbz hb hb5 hz HC
 go_upto_region 11 with fail
 obtain ⟨bg, hbz⟩ : ∃ b, wn.heap.size = b := ⟨_, rfl⟩
 rw [hbz] at hv ⊢
 clear hbz
 generalize (wn.alloc (.cells #[.slice g.A g.na g.ca, .int .i64 g.a.st, .slice g.M g.nm g.cm, .slice g.E g.ne g.ce] 25)) = w12 at Vx Vy Vs Vt Vi Vj Vf HU HW HNIL HB hv ⊢
 have Vg := Lib.hid hv
 clear hv
 clear wn
 have HC := Lib.hid (compV Vx.out.ok Vy.out.ok HP.out)
 have cx0 := Vx.out.c0
 have cx1 := Vx.out.c1
 have cx2 := Vx.out.c2
 have cx3 := Vx.out.c3
 have cy0 := Vy.out.c0
 have cy1 := Vy.out.c1
 have cy2 := Vy.out.c2
 have cy3 := Vy.out.c3
 go_wp2_with fail
 clear cx0 cx1 cx2 cx3 cy0 cy1 cy2 cy3
 refine HC.out.mono ?_
 rintro e wn ⟨d, rfl, hda, hz, hb⟩
 have hbz := box_below wn (.cells #[.slice d.A d.na d.ca, .int .i64 d.a.st, .slice d.M d.nm d.cm, .slice d.E d.ne d.ce] 25)
 have hb5 := hb.trans (hbz.mono hb.size)
 replace Vx := Lib.hid (Vx.out.below hb5)
 replace Vy := Lib.hid (Vy.out.below hb5)
 replace Vs := Lib.hid (Vs.out.below hb5)
 replace Vt := Lib.hid (Vt.out.below hb5)
 replace Vi := Lib.hid (Vi.out.below hb5)
 replace Vj := Lib.hid (Vj.out.below hb5)
 replace Vf := Lib.hid (Vf.out.below hb5)
 replace Vg := Lib.hid (Vg.out.below hb5)
 replace HU := Lib.hid (HU.out.below hb5)
 replace HW := Lib.hid (HW.out.below hb5)
 replace HNIL := Lib.hid (HNIL.out.below hb5)
 replace HB := Lib.hid (HB.out.trans (hb5.mono HB.out.size))
 have hv := VarA.new hz
 have HdA := Lib.hid hda; clear hda
 clear hbz hb hb5 hz HC
 go_upto_region 12 with fail
 obtain ⟨bd, hbz⟩ : ∃ b, wn.heap.size = b := ⟨_, rfl⟩
 rw [hbz] at hv ⊢
 clear hbz
 generalize (wn.alloc (.cells #[.slice d.A d.na d.ca, .int .i64 d.a.st, .slice d.M d.nm d.cm, .slice d.E d.ne d.ce] 25)) = w13 at Vx Vy Vs Vt Vi Vj Vf Vg HU HW HNIL HB hv ⊢
 have Vd := Lib.hid hv
 clear hv
 clear wn
 have HC := Lib.hid (cloV Vd.out.ok (by rw [HdA.out]; exact HP.out.pwf))
 have cd0 := Vd.out.c0
 have cd1 := Vd.out.c1
 have cd2 := Vd.out.c2
 have cd3 := Vd.out.c3
 go_wp2_with fail
 clear cd0 cd1 cd2 cd3
 refine HC.out.mono ?_
 rintro e wn ⟨l, rfl, hla, hz, hb⟩
 have hbz := box_below wn (.cells #[.slice l.A l.na l.ca, .int .i64 l.a.st, .slice l.M l.nm l.cm, .slice l.E l.ne l.ce] 25)
 have hb5 := hb.trans (hbz.mono hb.size)
 replace Vx := Lib.hid (Vx.out.below hb5)
 replace Vy := Lib.hid (Vy.out.below hb5)
 replace Vs := Lib.hid (Vs.out.below hb5)
 replace Vt := Lib.hid (Vt.out.below hb5)
 replace Vi := Lib.hid (Vi.out.below hb5)
 replace Vj := Lib.hid (Vj.out.below hb5)
 replace Vf := Lib.hid (Vf.out.below hb5)
 replace Vg := Lib.hid (Vg.out.below hb5)
 replace Vd := Lib.hid (Vd.out.below hb5)
 replace HU := Lib.hid (HU.out.below hb5)
 replace HW := Lib.hid (HW.out.below hb5)
 replace HNIL := Lib.hid (HNIL.out.below hb5)
 replace HB := Lib.hid (HB.out.trans (hb5.mono HB.out.size))
 have hv := VarA.new hz
 have HlA := Lib.hid hla; clear hla
 clear hbz hb hb5 hz HC
 go_upto_region 13 with fail
 obtain ⟨bl, hbz⟩ : ∃ b, wn.heap.size = b := ⟨_, rfl⟩
 rw [hbz] at hv ⊢
 clear hbz
 generalize (wn.alloc (.cells #[.slice l.A l.na l.ca, .int .i64 l.a.st, .slice l.M l.nm l.cm, .slice l.E l.ne l.ce] 25)) = w14 at Vx Vy Vs Vt Vi Vj Vf Vg Vd HU HW HNIL HB hv ⊢
 have Vl := Lib.hid hv
 clear hv
 clear wn
 have HLQ := Lib.hid (show l.a = cloA q by rw [HlA.out, HdA.out])
 have HBN := Lib.hid (show badI x.a y.a [] T T.length = [] from bad_nil)
 clear Vd Vx Vy
 have HC := Lib.hid (eqV true Vf.out.ok Vl.out.ok (eqA_of (by rw [HfA.out, HLQ.out]; exact sup_all HPN.out HBN.out)))
 have cf0 := Vf.out.c0
 have cf1 := Vf.out.c1
 have cf2 := Vf.out.c2
 have cf3 := Vf.out.c3
 have cl0 := Vl.out.c0
 have cl1 := Vl.out.c1
 have cl2 := Vl.out.c2
 have cl3 := Vl.out.c3
 go_wp2_with fail
 clear cf0 cf1 cf2 cf3 cl0 cl1 cl2 cl3
 refine HC.out.mono ?_
 rintro e w15 ⟨rfl, hb⟩
 replace Vs := Lib.hid (Vs.out.below hb)
 replace Vt := Lib.hid (Vt.out.below hb)
 replace Vi := Lib.hid (Vi.out.below hb)
 replace Vj := Lib.hid (Vj.out.below hb)
 replace Vf := Lib.hid (Vf.out.below hb)
 replace Vg := Lib.hid (Vg.out.below hb)
 replace Vl := Lib.hid (Vl.out.below hb)
 replace HU := Lib.hid (HU.out.below hb)
 replace HW := Lib.hid (HW.out.below hb)
 replace HNIL := Lib.hid (HNIL.out.below hb)
 replace HB := Lib.hid (HB.out.trans (hb.mono HB.out.size))
 clear hb HC
 have HC := Lib.hid (eqV true Vg.out.ok Vl.out.ok (eqA_of (by rw [HgA.out, HLQ.out]; exact inf_all HPN.out HBN.out)))
 have cg0 := Vg.out.c0
 have cg1 := Vg.out.c1
 have cg2 := Vg.out.c2
 have cg3 := Vg.out.c3
 have cl0 := Vl.out.c0
 have cl1 := Vl.out.c1
 have cl2 := Vl.out.c2
 have cl3 := Vl.out.c3
 go_wp2_with fail
 clear cg0 cg1 cg2 cg3 cl0 cl1 cl2 cl3
 refine HC.out.mono ?_
 rintro e w16 ⟨rfl, hb⟩
 replace Vs := Lib.hid (Vs.out.below hb)
 replace Vt := Lib.hid (Vt.out.below hb)
 replace Vi := Lib.hid (Vi.out.below hb)
 replace Vj := Lib.hid (Vj.out.below hb)
 replace Vf := Lib.hid (Vf.out.below hb)
 replace Vg := Lib.hid (Vg.out.below hb)
 replace Vl := Lib.hid (Vl.out.below hb)
 replace HU := Lib.hid (HU.out.below hb)
 replace HW := Lib.hid (HW.out.below hb)
 replace HNIL := Lib.hid (HNIL.out.below hb)
 replace HB := Lib.hid (HB.out.trans (hb.mono HB.out.size))
 clear hb HC
 go_upto_region 15 with fail
 clear Vf Vg Vl
 have HC := Lib.hid (law_included t s _ Vt.out.ok Vs.out.ok (by rw [HtA.out]; exact (sup_ownz HPW.out).wf HPW.out.wp) (by rw [HsA.out]; exact (sup_ownz HP.out).wf HP.out.wp) (fun ws hg => by rw [HtA.out] at hg; rw [HsA.out]; exact sup_less HP.out HPW.out HSB.out hg))
 have ct0 := Vt.out.c0
 have ct1 := Vt.out.c1
 have ct2 := Vt.out.c2
 have ct3 := Vt.out.c3
 have cs0 := Vs.out.c0
 have cs1 := Vs.out.c1
 have cs2 := Vs.out.c2
 have cs3 := Vs.out.c3
 go_wp2_with fail
 clear ct0 ct1 ct2 ct3 cs0 cs1 cs2 cs3
 refine HC.out.mono ?_
 rintro e w17 ⟨rfl, hb⟩
 replace Vs := Lib.hid (Vs.out.below hb)
 replace Vt := Lib.hid (Vt.out.below hb)
 replace Vi := Lib.hid (Vi.out.below hb)
 replace Vj := Lib.hid (Vj.out.below hb)
 replace HU := Lib.hid (HU.out.below hb)
 replace HW := Lib.hid (HW.out.below hb)
 replace HNIL := Lib.hid (HNIL.out.below hb)
 replace HB := Lib.hid (HB.out.trans (hb.mono HB.out.size))
 clear hb HC
 have HC := Lib.hid (law_included i j _ Vi.out.ok Vj.out.ok (by rw [HiA.out]; exact (inf_ownz HP.out).wf HP.out.wp) (by rw [HjA.out]; exact (inf_ownz HPW.out).wf HPW.out.wp) (fun ws hg => by rw [HiA.out] at hg; rw [HjA.out]; exact inf_less HP.out HPW.out HSB.out hg))
 have ci0 := Vi.out.c0
 have ci1 := Vi.out.c1
 have ci2 := Vi.out.c2
 have ci3 := Vi.out.c3
 have cj0 := Vj.out.c0
 have cj1 := Vj.out.c1
 have cj2 := Vj.out.c2
 have cj3 := Vj.out.c3
 go_wp2_with fail
 clear ci0 ci1 ci2 ci3 cj0 cj1 cj2 cj3
 refine HC.out.mono ?_
 rintro e w18 ⟨rfl, hb⟩
 replace Vs := Lib.hid (Vs.out.below hb)
 replace Vt := Lib.hid (Vt.out.below hb)
 replace Vi := Lib.hid (Vi.out.below hb)
 replace Vj := Lib.hid (Vj.out.below hb)
 replace HU := Lib.hid (HU.out.below hb)
 replace HW := Lib.hid (HW.out.below hb)
 replace HNIL := Lib.hid (HNIL.out.below hb)
 replace HB := Lib.hid (HB.out.trans (hb.mono HB.out.size))
 clear hb HC
 go_wp2
 go_ret
 exact ⟨rfl, HB.out⟩
end Go.Proofs.YtcchnibgehonoaaDoor
