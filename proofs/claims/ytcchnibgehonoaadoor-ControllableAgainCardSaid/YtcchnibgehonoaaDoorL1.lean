/- The law ControllableAgain: its walk. -/
import Derived.Test.YtcchnibgehonoaaDoorVa
import Derived.Test.YtcchnibgehonoaaDoorDs
namespace Go.Proofs.YtcchnibgehonoaaDoor
open Go.RowKit Go Go.Maps

set_option maxRecDepth 100000 in
set_option maxHeartbeats 6400000 in
theorem again_walk (p : Prm) (w : World) (hok : p.ok) :
  Calls Tryd.prog 6 #[.agg (mcells p).toArray] w fun e w' => e = .returned (.bool true) ∧ Below w.heap.size w w' := by
 have hb1 := box_below w (.cells (mcells p).toArray 54)
 obtain ⟨w1, hw1⟩ : ∃ w1, w1 = w.alloc (.cells (mcells p).toArray 54) := ⟨_, rfl⟩
 have kx : Blk w1 w.heap.size 54 (mcells p) := by rw [hw1]; exact Blk.new _ _ _
 rw [← hw1] at hb1
 have HC := Lib.hid (law_known26 w1)
 obtain ⟨q, T, hp⟩ := prm_prob hok
 have HW1 := Lib.hid hw1; clear hw1
 have HB1 := Lib.hid hb1; clear hb1
 have KX := Lib.hid kx; clear kx
 have HOK := Lib.hid hok; clear hok
 have HPR := Lib.hid hp; clear hp
 go_enter Tryd.func6, Tryd.ntmps6
 go_wp2_with fail
 rw [← HW1.out]
 refine HC.out.mono ?_
 rintro e w2 ⟨rfl, hb⟩
 have HB2 := Lib.hid (HB1.out.trans (hb.mono HB1.out.size))
 have hk2 := KX.out.below hb KX.out.lt
 have HMK := Lib.hid (law_MakeV p w2 HOK.out)
 clear HC hb KX
 go_wp2_with (first | refine wpList_load_prob rfl _ rfl w.heap.size p HOK.out (by rfl) hk2 ?_)
 clear hk2
 refine HMK.out.mono ?_
 rintro e w3 ⟨x, y, U, nu, cu, rfl, hxa, hya, hx, hy, hu, hb⟩
 have vx := VarA.new hx
 have hbx := box_below w3 (.cells #[.slice x.A x.na x.ca, .int .i64 x.a.st, .slice x.M x.nm x.cm, .slice x.E x.ne x.ce] 25)
 have vy := VarA.new (AutR.more (AutR.below hy hbx) hbx.size : y.ok (w3.alloc (.cells #[.slice x.A x.na x.ca, .int .i64 x.a.st, .slice x.M x.nm x.cm, .slice x.E x.ne x.ce] 25)) _)
 have hby := box_below (w3.alloc (.cells #[.slice x.A x.na x.ca, .int .i64 x.a.st, .slice x.M x.nm x.cm, .slice x.E x.ne x.ce] 25)) (.cells #[.slice y.A y.na y.ca, .int .i64 y.a.st, .slice y.M y.nm y.cm, .slice y.E y.ne y.ce] 25)
 have HP := Lib.hid (show Prob x.a y.a (unE p) q T by rw [hxa, hya]; exact HPR.out)
 have HPS := Lib.hid (show x.a.st ≤ 5 by rw [hxa]; exact (ptA_sm HOK.out.1).st)
 have HRS := Lib.hid (show y.a.st ≤ 5 by rw [hya]; exact (rqA_sm HOK.out).st)
 have hu4 := (hu.below hbx).below hby
 have hb4 := hb.trans ((hbx.trans (hby.mono hbx.size)).mono hb.size)
 have HB := Lib.hid (HB2.out.trans (hb4.mono HB2.out.size))
 have hvx := vx.below hby
 have HXA := Lib.hid hxa; clear hxa
 have HYA := Lib.hid hya; clear hya
 clear hbx hby hb hb4 hx hy hu vx HMK HPR HB2
 go_upto_region 4 with fail
 rw [show (w3.alloc (.cells #[.slice x.A x.na x.ca, .int .i64 x.a.st, .slice x.M x.nm x.cm, .slice x.E x.ne x.ce] 25)).heap.size = w3.heap.size + 1 by simp] at vy
 obtain ⟨bx, hbx⟩ : ∃ b, w3.heap.size = b := ⟨_, rfl⟩
 rw [hbx] at hvx vy ⊢
 generalize (w3.alloc (.cells #[.slice x.A x.na x.ca, .int .i64 x.a.st, .slice x.M x.nm x.cm, .slice x.E x.ne x.ce] 25)).alloc (.cells #[.slice y.A y.na y.ca, .int .i64 y.a.st, .slice y.M y.nm y.cm, .slice y.E y.ne y.ce] 25) = w4 at hvx vy hu4 HB ⊢
 clear hbx w3
 have Vx := Lib.hid hvx
 have Vy := Lib.hid vy
 have HU := Lib.hid hu4
 clear hvx vy hu4
 have HC := Lib.hid (supV Vx.out.ok Vy.out.ok HU.out HP.out)
 have cx0 := Vx.out.c0
 have cx1 := Vx.out.c1
 have cx2 := Vx.out.c2
 have cx3 := Vx.out.c3
 have cy0 := Vy.out.c0
 have cy1 := Vy.out.c1
 have cy2 := Vy.out.c2
 have cy3 := Vy.out.c3
 go_wp2_with fail
 clear cx0 cx1 cx2 cx3 cy0 cy1 cy2 cy3
 refine HC.out.mono ?_
 rintro e wn ⟨s, rfl, hsa, hz, hb⟩
 have hbz := box_below wn (.cells #[.slice s.A s.na s.ca, .int .i64 s.a.st, .slice s.M s.nm s.cm, .slice s.E s.ne s.ce] 25)
 have hb5 := hb.trans (hbz.mono hb.size)
 replace Vx := Lib.hid (Vx.out.below hb5)
 replace Vy := Lib.hid (Vy.out.below hb5)
 replace HU := Lib.hid (HU.out.below hb5)
 replace HB := Lib.hid (HB.out.trans (hb5.mono HB.out.size))
 have hv := VarA.new hz
 have HsA := Lib.hid hsa; clear hsa
 clear hbz hb hb5 hz HC
 go_upto_region 5 with fail
 obtain ⟨bs, hbz⟩ : ∃ b, wn.heap.size = b := ⟨_, rfl⟩
 rw [hbz] at hv ⊢
 clear hbz
 generalize (wn.alloc (.cells #[.slice s.A s.na s.ca, .int .i64 s.a.st, .slice s.M s.nm s.cm, .slice s.E s.ne s.ce] 25)) = w5 at Vx Vy HU HB hv ⊢
 have Vs := Lib.hid hv
 clear hv
 clear wn
 have HC := Lib.hid (infV Vx.out.ok Vy.out.ok HU.out HP.out)
 have cx0 := Vx.out.c0
 have cx1 := Vx.out.c1
 have cx2 := Vx.out.c2
 have cx3 := Vx.out.c3
 have cy0 := Vy.out.c0
 have cy1 := Vy.out.c1
 have cy2 := Vy.out.c2
 have cy3 := Vy.out.c3
 go_wp2_with fail
 clear cx0 cx1 cx2 cx3 cy0 cy1 cy2 cy3
 refine HC.out.mono ?_
 rintro e wn ⟨i, rfl, hia, hz, hb⟩
 have hbz := box_below wn (.cells #[.slice i.A i.na i.ca, .int .i64 i.a.st, .slice i.M i.nm i.cm, .slice i.E i.ne i.ce] 25)
 have hb5 := hb.trans (hbz.mono hb.size)
 replace Vx := Lib.hid (Vx.out.below hb5)
 replace Vy := Lib.hid (Vy.out.below hb5)
 replace Vs := Lib.hid (Vs.out.below hb5)
 replace HU := Lib.hid (HU.out.below hb5)
 replace HB := Lib.hid (HB.out.trans (hb5.mono HB.out.size))
 have hv := VarA.new hz
 have HiA := Lib.hid hia; clear hia
 clear hbz hb hb5 hz HC
 go_upto_region 6 with fail
 obtain ⟨bi, hbz⟩ : ∃ b, wn.heap.size = b := ⟨_, rfl⟩
 rw [hbz] at hv ⊢
 clear hbz
 generalize (wn.alloc (.cells #[.slice i.A i.na i.ca, .int .i64 i.a.st, .slice i.M i.nm i.cm, .slice i.E i.ne i.ce] 25)) = w6 at Vx Vy Vs HU HB hv ⊢
 have Vi := Lib.hid hv
 clear hv
 clear wn
 have HSZ := Lib.hid (show OwnZ x.a s.a (unE p) from HsA.out ▸ sup_ownz HP.out)
 have HIZ := Lib.hid (show OwnZ x.a i.a (unE p) from HiA.out ▸ inf_ownz HP.out)
 obtain ⟨q1, T1, hp1⟩ := HSZ.out.prob HP.out (by rw [HsA.out]; have := sup_st HP.out; have := prod_st HP.out HPS.out HRS.out; omega)
 obtain ⟨q2, T2, hp2⟩ := HIZ.out.prob HP.out (by rw [HiA.out]; have := inf_st HP.out HPS.out HRS.out; omega)
 have HP1 := Lib.hid hp1; clear hp1
 have HP2 := Lib.hid hp2; clear hp2
 have HC := Lib.hid (supV Vx.out.ok Vs.out.ok HU.out HP1.out)
 have cx0 := Vx.out.c0
 have cx1 := Vx.out.c1
 have cx2 := Vx.out.c2
 have cx3 := Vx.out.c3
 have cs0 := Vs.out.c0
 have cs1 := Vs.out.c1
 have cs2 := Vs.out.c2
 have cs3 := Vs.out.c3
 go_wp2_with fail
 clear cx0 cx1 cx2 cx3 cs0 cs1 cs2 cs3
 refine HC.out.mono ?_
 rintro e wn ⟨t, rfl, hta, hz, hb⟩
 have hbz := box_below wn (.cells #[.slice t.A t.na t.ca, .int .i64 t.a.st, .slice t.M t.nm t.cm, .slice t.E t.ne t.ce] 25)
 have hb5 := hb.trans (hbz.mono hb.size)
 replace Vx := Lib.hid (Vx.out.below hb5)
 replace Vy := Lib.hid (Vy.out.below hb5)
 replace Vs := Lib.hid (Vs.out.below hb5)
 replace Vi := Lib.hid (Vi.out.below hb5)
 replace HU := Lib.hid (HU.out.below hb5)
 replace HB := Lib.hid (HB.out.trans (hb5.mono HB.out.size))
 have hv := VarA.new hz
 have HtA := Lib.hid hta; clear hta
 clear hbz hb hb5 hz HC
 go_upto_region 7 with fail
 obtain ⟨bt, hbz⟩ : ∃ b, wn.heap.size = b := ⟨_, rfl⟩
 rw [hbz] at hv ⊢
 clear hbz
 generalize (wn.alloc (.cells #[.slice t.A t.na t.ca, .int .i64 t.a.st, .slice t.M t.nm t.cm, .slice t.E t.ne t.ce] 25)) = w7 at Vx Vy Vs Vi HU HB hv ⊢
 have Vt := Lib.hid hv
 clear hv
 clear wn
 have HC := Lib.hid (infV Vx.out.ok Vi.out.ok HU.out HP2.out)
 have cx0 := Vx.out.c0
 have cx1 := Vx.out.c1
 have cx2 := Vx.out.c2
 have cx3 := Vx.out.c3
 have ci0 := Vi.out.c0
 have ci1 := Vi.out.c1
 have ci2 := Vi.out.c2
 have ci3 := Vi.out.c3
 go_wp2_with fail
 clear cx0 cx1 cx2 cx3 ci0 ci1 ci2 ci3
 refine HC.out.mono ?_
 rintro e wn ⟨j, rfl, hja, hz, hb⟩
 have hbz := box_below wn (.cells #[.slice j.A j.na j.ca, .int .i64 j.a.st, .slice j.M j.nm j.cm, .slice j.E j.ne j.ce] 25)
 have hb5 := hb.trans (hbz.mono hb.size)
 replace Vx := Lib.hid (Vx.out.below hb5)
 replace Vy := Lib.hid (Vy.out.below hb5)
 replace Vs := Lib.hid (Vs.out.below hb5)
 replace Vi := Lib.hid (Vi.out.below hb5)
 replace Vt := Lib.hid (Vt.out.below hb5)
 replace HU := Lib.hid (HU.out.below hb5)
 replace HB := Lib.hid (HB.out.trans (hb5.mono HB.out.size))
 have hv := VarA.new hz
 have HjA := Lib.hid hja; clear hja
 clear hbz hb hb5 hz HC
 go_upto_region 8 with fail
 obtain ⟨bj, hbz⟩ : ∃ b, wn.heap.size = b := ⟨_, rfl⟩
 rw [hbz] at hv ⊢
 clear hbz
 generalize (wn.alloc (.cells #[.slice j.A j.na j.ca, .int .i64 j.a.st, .slice j.M j.nm j.cm, .slice j.E j.ne j.ce] 25)) = w8 at Vx Vy Vs Vi Vt HU HB hv ⊢
 have Vj := Lib.hid hv
 clear hv
 clear wn
 have HC := Lib.hid (chkV true Vx.out.ok Vs.out.ok HU.out HP1.out (decide_eq_true (HSZ.out.bad HP1.out)))
 have cx0 := Vx.out.c0
 have cx1 := Vx.out.c1
 have cx2 := Vx.out.c2
 have cx3 := Vx.out.c3
 have cs0 := Vs.out.c0
 have cs1 := Vs.out.c1
 have cs2 := Vs.out.c2
 have cs3 := Vs.out.c3
 go_wp2_with fail
 clear cx0 cx1 cx2 cx3 cs0 cs1 cs2 cs3
 refine HC.out.mono ?_
 rintro e w9 ⟨v8, k8, rfl, hb⟩
 replace Vx := Lib.hid (Vx.out.below hb)
 replace Vy := Lib.hid (Vy.out.below hb)
 replace Vs := Lib.hid (Vs.out.below hb)
 replace Vi := Lib.hid (Vi.out.below hb)
 replace Vt := Lib.hid (Vt.out.below hb)
 replace Vj := Lib.hid (Vj.out.below hb)
 replace HU := Lib.hid (HU.out.below hb)
 replace HB := Lib.hid (HB.out.trans (hb.mono HB.out.size))
 clear hb HC
 go_upto_region 9 with fail
 have HC := Lib.hid (chkV true Vx.out.ok Vi.out.ok HU.out HP2.out (decide_eq_true (HIZ.out.bad HP2.out)))
 have cx0 := Vx.out.c0
 have cx1 := Vx.out.c1
 have cx2 := Vx.out.c2
 have cx3 := Vx.out.c3
 have ci0 := Vi.out.c0
 have ci1 := Vi.out.c1
 have ci2 := Vi.out.c2
 have ci3 := Vi.out.c3
 go_wp2_with fail
 clear cx0 cx1 cx2 cx3 ci0 ci1 ci2 ci3
 refine HC.out.mono ?_
 rintro e w10 ⟨v9, k9, rfl, hb⟩
 replace Vx := Lib.hid (Vx.out.below hb)
 replace Vy := Lib.hid (Vy.out.below hb)
 replace Vs := Lib.hid (Vs.out.below hb)
 replace Vi := Lib.hid (Vi.out.below hb)
 replace Vt := Lib.hid (Vt.out.below hb)
 replace Vj := Lib.hid (Vj.out.below hb)
 replace HU := Lib.hid (HU.out.below hb)
 replace HB := Lib.hid (HB.out.trans (hb.mono HB.out.size))
 clear hb HC
 go_upto_region 10 with fail
 obtain ⟨bq, hbq⟩ : ∃ b, decide (badI x.a y.a (intS (unE p) x.a.al) T T.length = []) = b := ⟨_, rfl⟩
 have HBQ := Lib.hid hbq; clear hbq
 have HC := Lib.hid (chkV bq Vx.out.ok Vy.out.ok HU.out HP.out HBQ.out)
 have cx0 := Vx.out.c0
 have cx1 := Vx.out.c1
 have cx2 := Vx.out.c2
 have cx3 := Vx.out.c3
 have cy0 := Vy.out.c0
 have cy1 := Vy.out.c1
 have cy2 := Vy.out.c2
 have cy3 := Vy.out.c3
 go_wp2_with fail
 clear cx0 cx1 cx2 cx3 cy0 cy1 cy2 cy3
 refine HC.out.mono ?_
 rintro e w11 ⟨v10, k10, rfl, hb⟩
 replace Vx := Lib.hid (Vx.out.below hb)
 replace Vy := Lib.hid (Vy.out.below hb)
 replace Vs := Lib.hid (Vs.out.below hb)
 replace Vi := Lib.hid (Vi.out.below hb)
 replace Vt := Lib.hid (Vt.out.below hb)
 replace Vj := Lib.hid (Vj.out.below hb)
 replace HU := Lib.hid (HU.out.below hb)
 replace HB := Lib.hid (HB.out.trans (hb.mono HB.out.size))
 clear hb HC
 go_upto_region 11 with fail
 have HC := Lib.hid (compV Vx.out.ok Vy.out.ok HP.out)
 have cx0 := Vx.out.c0
 have cx1 := Vx.out.c1
 have cx2 := Vx.out.c2
 have cx3 := Vx.out.c3
 have cy0 := Vy.out.c0
 have cy1 := Vy.out.c1
 have cy2 := Vy.out.c2
 have cy3 := Vy.out.c3
 go_wp2_with fail
 clear cx0 cx1 cx2 cx3 cy0 cy1 cy2 cy3
 refine HC.out.mono ?_
 rintro e wn ⟨d, rfl, hda, hz, hb⟩
 have hbz := box_below wn (.cells #[.slice d.A d.na d.ca, .int .i64 d.a.st, .slice d.M d.nm d.cm, .slice d.E d.ne d.ce] 25)
 have hb5 := hb.trans (hbz.mono hb.size)
 replace Vx := Lib.hid (Vx.out.below hb5)
 replace Vy := Lib.hid (Vy.out.below hb5)
 replace Vs := Lib.hid (Vs.out.below hb5)
 replace Vi := Lib.hid (Vi.out.below hb5)
 replace Vt := Lib.hid (Vt.out.below hb5)
 replace Vj := Lib.hid (Vj.out.below hb5)
 replace HU := Lib.hid (HU.out.below hb5)
 replace HB := Lib.hid (HB.out.trans (hb5.mono HB.out.size))
 have hv := VarA.new hz
 have HdA := Lib.hid hda; clear hda
 clear hbz hb hb5 hz HC
 go_upto_region 12 with fail
 obtain ⟨bd, hbz⟩ : ∃ b, wn.heap.size = b := ⟨_, rfl⟩
 rw [hbz] at hv ⊢
 clear hbz
 generalize (wn.alloc (.cells #[.slice d.A d.na d.ca, .int .i64 d.a.st, .slice d.M d.nm d.cm, .slice d.E d.ne d.ce] 25)) = w12 at Vx Vy Vs Vi Vt Vj HU HB hv ⊢
 have Vd := Lib.hid hv
 clear hv
 clear wn
 have HC := Lib.hid (cloV Vd.out.ok (by rw [HdA.out]; exact HP.out.pwf))
 have cd0 := Vd.out.c0
 have cd1 := Vd.out.c1
 have cd2 := Vd.out.c2
 have cd3 := Vd.out.c3
 go_wp2_with fail
 clear cd0 cd1 cd2 cd3
 refine HC.out.mono ?_
 rintro e wn ⟨l, rfl, hla, hz, hb⟩
 have hbz := box_below wn (.cells #[.slice l.A l.na l.ca, .int .i64 l.a.st, .slice l.M l.nm l.cm, .slice l.E l.ne l.ce] 25)
 have hb5 := hb.trans (hbz.mono hb.size)
 replace Vx := Lib.hid (Vx.out.below hb5)
 replace Vy := Lib.hid (Vy.out.below hb5)
 replace Vs := Lib.hid (Vs.out.below hb5)
 replace Vi := Lib.hid (Vi.out.below hb5)
 replace Vt := Lib.hid (Vt.out.below hb5)
 replace Vj := Lib.hid (Vj.out.below hb5)
 replace Vd := Lib.hid (Vd.out.below hb5)
 replace HU := Lib.hid (HU.out.below hb5)
 replace HB := Lib.hid (HB.out.trans (hb5.mono HB.out.size))
 have hv := VarA.new hz
 have HlA := Lib.hid hla; clear hla
 clear hbz hb hb5 hz HC
 go_upto_region 13 with fail
 obtain ⟨bl, hbz⟩ : ∃ b, wn.heap.size = b := ⟨_, rfl⟩
 rw [hbz] at hv ⊢
 clear hbz
 generalize (wn.alloc (.cells #[.slice l.A l.na l.ca, .int .i64 l.a.st, .slice l.M l.nm l.cm, .slice l.E l.ne l.ce] 25)) = w13 at Vx Vy Vs Vi Vt Vj Vd HU HB hv ⊢
 have Vl := Lib.hid hv
 clear hv
 clear wn
 clear Vd Vx Vy
 have HC := Lib.hid (eqV true Vs.out.ok Vt.out.ok (eqA_of (by rw [HtA.out]; exact (HSZ.out.sup HP1.out).symm)))
 have cs0 := Vs.out.c0
 have cs1 := Vs.out.c1
 have cs2 := Vs.out.c2
 have cs3 := Vs.out.c3
 have ct0 := Vt.out.c0
 have ct1 := Vt.out.c1
 have ct2 := Vt.out.c2
 have ct3 := Vt.out.c3
 go_wp2_with fail
 clear cs0 cs1 cs2 cs3 ct0 ct1 ct2 ct3
 refine HC.out.mono ?_
 rintro e w14 ⟨rfl, hb⟩
 replace Vs := Lib.hid (Vs.out.below hb)
 replace Vi := Lib.hid (Vi.out.below hb)
 replace Vt := Lib.hid (Vt.out.below hb)
 replace Vj := Lib.hid (Vj.out.below hb)
 replace Vl := Lib.hid (Vl.out.below hb)
 replace HU := Lib.hid (HU.out.below hb)
 replace HB := Lib.hid (HB.out.trans (hb.mono HB.out.size))
 clear hb HC
 have HC := Lib.hid (eqV true Vi.out.ok Vj.out.ok (eqA_of (by rw [HjA.out]; exact (HIZ.out.inf HP2.out).symm)))
 have ci0 := Vi.out.c0
 have ci1 := Vi.out.c1
 have ci2 := Vi.out.c2
 have ci3 := Vi.out.c3
 have cj0 := Vj.out.c0
 have cj1 := Vj.out.c1
 have cj2 := Vj.out.c2
 have cj3 := Vj.out.c3
 go_wp2_with fail
 clear ci0 ci1 ci2 ci3 cj0 cj1 cj2 cj3
 refine HC.out.mono ?_
 rintro e w15 ⟨rfl, hb⟩
 replace Vs := Lib.hid (Vs.out.below hb)
 replace Vi := Lib.hid (Vi.out.below hb)
 replace Vt := Lib.hid (Vt.out.below hb)
 replace Vj := Lib.hid (Vj.out.below hb)
 replace Vl := Lib.hid (Vl.out.below hb)
 replace HU := Lib.hid (HU.out.below hb)
 replace HB := Lib.hid (HB.out.trans (hb.mono HB.out.size))
 clear hb HC
 go_upto_region 15 with fail
 clear Vt Vj
 have HLQ := Lib.hid (show l.a = cloA q by rw [HlA.out, HdA.out])
 cases bq with
 | true =>
  have HBD := Lib.hid (of_decide_eq_true HBQ.out)
  have HC := Lib.hid (eqV true Vs.out.ok Vl.out.ok (eqA_of (by rw [HsA.out, HLQ.out]; exact sup_all HP.out (by rw [badI_mem HP.out.wp]; exact HBD.out))))
  have cs0 := Vs.out.c0
  have cs1 := Vs.out.c1
  have cs2 := Vs.out.c2
  have cs3 := Vs.out.c3
  have cl0 := Vl.out.c0
  have cl1 := Vl.out.c1
  have cl2 := Vl.out.c2
  have cl3 := Vl.out.c3
  go_wp2_with fail
  clear cs0 cs1 cs2 cs3 cl0 cl1 cl2 cl3
  refine HC.out.mono ?_
  rintro e w16 ⟨rfl, hb⟩
  replace Vs := Lib.hid (Vs.out.below hb)
  replace Vi := Lib.hid (Vi.out.below hb)
  replace Vl := Lib.hid (Vl.out.below hb)
  replace HU := Lib.hid (HU.out.below hb)
  replace HB := Lib.hid (HB.out.trans (hb.mono HB.out.size))
  clear hb HC
  have HC := Lib.hid (eqV true Vi.out.ok Vl.out.ok (eqA_of (by rw [HiA.out, HLQ.out]; exact inf_all HP.out HBD.out)))
  have ci0 := Vi.out.c0
  have ci1 := Vi.out.c1
  have ci2 := Vi.out.c2
  have ci3 := Vi.out.c3
  have cl0 := Vl.out.c0
  have cl1 := Vl.out.c1
  have cl2 := Vl.out.c2
  have cl3 := Vl.out.c3
  go_wp2_with fail
  clear ci0 ci1 ci2 ci3 cl0 cl1 cl2 cl3
  refine HC.out.mono ?_
  rintro e w17 ⟨rfl, hb⟩
  replace Vs := Lib.hid (Vs.out.below hb)
  replace Vi := Lib.hid (Vi.out.below hb)
  replace Vl := Lib.hid (Vl.out.below hb)
  replace HU := Lib.hid (HU.out.below hb)
  replace HB := Lib.hid (HB.out.trans (hb.mono HB.out.size))
  clear hb HC
  go_wp2
  go_ret
  exact ⟨rfl, HB.out⟩
 | false =>
  have HBD := Lib.hid (of_decide_eq_false HBQ.out)
  have HC := Lib.hid (eqV false Vs.out.ok Vl.out.ok (by unfold eqA; refine decide_eq_false fun e => HBD.out (sup_conv HP.out ?_); rw [← HsA.out, e, HLQ.out]))
  have cs0 := Vs.out.c0
  have cs1 := Vs.out.c1
  have cs2 := Vs.out.c2
  have cs3 := Vs.out.c3
  have cl0 := Vl.out.c0
  have cl1 := Vl.out.c1
  have cl2 := Vl.out.c2
  have cl3 := Vl.out.c3
  go_wp2_with fail
  clear cs0 cs1 cs2 cs3 cl0 cl1 cl2 cl3
  refine HC.out.mono ?_
  rintro e w16 ⟨rfl, hb⟩
  replace Vs := Lib.hid (Vs.out.below hb)
  replace Vi := Lib.hid (Vi.out.below hb)
  replace Vl := Lib.hid (Vl.out.below hb)
  replace HU := Lib.hid (HU.out.below hb)
  replace HB := Lib.hid (HB.out.trans (hb.mono HB.out.size))
  clear hb HC
  go_wp2
  go_ret
  exact ⟨rfl, HB.out⟩
end Go.Proofs.YtcchnibgehonoaaDoor
