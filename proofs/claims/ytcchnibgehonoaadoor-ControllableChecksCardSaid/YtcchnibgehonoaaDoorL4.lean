/- The law ControllableChecks: its walk. -/
import Derived.Test.YtcchnibgehonoaaDoorDv
import Derived.Test.YtcchnibgehonoaaDoorNd
import Derived.Test.YtcchnibgehonoaaDoorNb
import Derived.Test.YtcchnibgehonoaaDoorVa
namespace Go.Proofs.YtcchnibgehonoaaDoor
open Go.RowKit Go Go.Maps

set_option maxRecDepth 100000 in
set_option maxHeartbeats 6400000 in
theorem checks_walk (p : Prm) (w : World) (hok : p.ok) :
  Calls Tryd.prog 10 #[.agg (mcells p).toArray] w fun e w' => e = .returned (.bool true) ∧ Below w.heap.size w w' := by
 have hb1 := box_below w (.cells (mcells p).toArray 54)
 obtain ⟨w1, hw1⟩ : ∃ w1, w1 = w.alloc (.cells (mcells p).toArray 54) := ⟨_, rfl⟩
 have kx : Blk w1 w.heap.size 54 (mcells p) := by rw [hw1]; exact Blk.new _ _ _
 rw [← hw1] at hb1
 have HC := Lib.hid (law_known26 w1)
 obtain ⟨q, T, hp⟩ := prm_prob hok
 have HW1 := Lib.hid hw1; clear hw1
 have HB1 := Lib.hid hb1; clear hb1
 have KX := Lib.hid kx; clear kx
 have HOK := Lib.hid hok; clear hok
 have HPR := Lib.hid hp; clear hp
 go_enter Tryd.func10, Tryd.ntmps10
 go_wp2_with fail
 rw [← HW1.out]
 refine HC.out.mono ?_
 rintro e w2 ⟨rfl, hb⟩
 have HB2 := Lib.hid (HB1.out.trans (hb.mono HB1.out.size))
 have hk2 := KX.out.below hb KX.out.lt
 have HMK := Lib.hid (law_MakeV p w2 HOK.out)
 clear HC hb KX
 go_wp2_with (first | refine wpList_load_prob rfl _ rfl w.heap.size p HOK.out (by rfl) hk2 ?_)
 clear hk2
 refine HMK.out.mono ?_
 rintro e w3 ⟨x, y, U, nu, cu, rfl, hxa, hya, hx, hy, hu, hb⟩
 have vx := VarA.new hx
 have hbx := box_below w3 (.cells #[.slice x.A x.na x.ca, .int .i64 x.a.st, .slice x.M x.nm x.cm, .slice x.E x.ne x.ce] 25)
 have vy := VarA.new (AutR.more (AutR.below hy hbx) hbx.size : y.ok (w3.alloc (.cells #[.slice x.A x.na x.ca, .int .i64 x.a.st, .slice x.M x.nm x.cm, .slice x.E x.ne x.ce] 25)) _)
 have hby := box_below (w3.alloc (.cells #[.slice x.A x.na x.ca, .int .i64 x.a.st, .slice x.M x.nm x.cm, .slice x.E x.ne x.ce] 25)) (.cells #[.slice y.A y.na y.ca, .int .i64 y.a.st, .slice y.M y.nm y.cm, .slice y.E y.ne y.ce] 25)
 have HP := Lib.hid (show Prob x.a y.a (unE p) q T by rw [hxa, hya]; exact HPR.out)
 have HPS := Lib.hid (show x.a.st ≤ 5 by rw [hxa]; exact (ptA_sm HOK.out.1).st)
 have HRS := Lib.hid (show y.a.st ≤ 5 by rw [hya]; exact (rqA_sm HOK.out).st)
 have hu4 := (hu.below hbx).below hby
 have hb4 := hb.trans ((hbx.trans (hby.mono hbx.size)).mono hb.size)
 have HB := Lib.hid (HB2.out.trans (hb4.mono HB2.out.size))
 have hvx := vx.below hby
 have HXA := Lib.hid hxa; clear hxa
 have HYA := Lib.hid hya; clear hya
 clear hbx hby hb hb4 hx hy hu vx HMK HPR HB2
 go_upto_region 4 with fail
 rw [show (w3.alloc (.cells #[.slice x.A x.na x.ca, .int .i64 x.a.st, .slice x.M x.nm x.cm, .slice x.E x.ne x.ce] 25)).heap.size = w3.heap.size + 1 by simp] at vy
 obtain ⟨bx, hbx⟩ : ∃ b, w3.heap.size = b := ⟨_, rfl⟩
 rw [hbx] at hvx vy ⊢
 generalize (w3.alloc (.cells #[.slice x.A x.na x.ca, .int .i64 x.a.st, .slice x.M x.nm x.cm, .slice x.E x.ne x.ce] 25)).alloc (.cells #[.slice y.A y.na y.ca, .int .i64 y.a.st, .slice y.M y.nm y.cm, .slice y.E y.ne y.ce] 25) = w4 at hvx vy hu4 HB ⊢
 clear hbx w3
 have Vx := Lib.hid hvx
 have Vy := Lib.hid vy
 have HU := Lib.hid hu4
 clear hvx vy hu4
 obtain ⟨O, hO⟩ : ∃ o, chkO x.a y.a (intS (unE p) x.a.al) q T T.length = o := ⟨_, rfl⟩
 obtain ⟨BI, hBI⟩ : ∃ l, badI x.a y.a (intS (unE p) x.a.al) T T.length = l := ⟨_, rfl⟩
 obtain ⟨BU, hBU⟩ : ∃ l, badU x.a y.a (intS (unE p) x.a.al) T T.length = l := ⟨_, rfl⟩
 obtain ⟨kl, ev, is⟩ := O
 have HCASE := Lib.hid (show (is = true ∧ kl = [] ∧ ev = 0 ∧ BI = []) ∨ (is = false ∧ ∃ s B', BI = s :: B' ∧ kl = (pathW q.ed T.length s).reverse ∧ BU[0]? = some ev) from by
  have h1 := hO
  unfold chkO at h1
  rw [hBI] at h1
  have h2 : BU = BI.map (fun i => refT x.a y.a (intS (unE p) x.a.al) (T.getD i.toNat [])) := by rw [← hBU, ← hBI]; rfl
  cases hq : BI with
  | nil =>
   rw [hq] at h1
   simp only [Prod.mk.injEq] at h1
   exact .inl ⟨h1.2.2.symm, h1.1.symm, h1.2.1.symm, rfl⟩
  | cons s B' =>
   rw [hq] at h1 h2
   simp only [Prod.mk.injEq] at h1
   refine .inr ⟨h1.2.2.symm, s, B', rfl, h1.1.symm, ?_⟩
   rw [h2, ← h1.2.1]; rfl)
 have HINC := Lib.hid (show Inc BI ∧ ∀ t ∈ BI, 0 ≤ t ∧ t < q.st from by
  rw [← hBI]
  refine ⟨?_, fun t ht => ?_⟩
  ·unfold badI; exact List.Pairwise.filter _ (rng_inc _)
  ·have := badI_rng t ht; rw [HP.out.tups.1]; omega)
 have HLK := Lib.hid (show kl.length ≤ 4096 from by
  have h1 : kl.length ≤ T.length := by
   rcases HCASE.out with ⟨_, h, _⟩ | ⟨_, s, B', _, h, _⟩
   ·rw [h]; exact Nat.zero_le _
   ·rw [h, List.length_reverse]; exact pathW_len _ _ _
  have := HP.out.len
  omega)
 have HC1 := Lib.hid (check_ok _ _ _ _ _ _ _ _ _ _ _ _ _ _ _ _ _ _ x.a y.a U cu nu (unE p) w4 Vx.out.ok Vy.out.ok HU.out.len HU.out.rd HU.out.c1 HU.out.c2 q T HP.out _ rfl)
 rw [hO] at HC1
 have HBI := Lib.hid hBI; clear hBI
 have HBU := Lib.hid hBU; clear hBU
 clear hO
 have cx0 := Vx.out.c0
 have cx1 := Vx.out.c1
 have cx2 := Vx.out.c2
 have cx3 := Vx.out.c3
 have cy0 := Vy.out.c0
 have cy1 := Vy.out.c1
 have cy2 := Vy.out.c2
 have cy3 := Vy.out.c3
 go_wp2_with fail
 clear cx0 cx1 cx2 cx3 cy0 cy1 cy2 cy3
 refine HC1.out.mono ?_
 rintro e w5 ⟨kv, rfl, hok9, hb⟩
 obtain ⟨nk, hnk⟩ : ∃ k, kl.length = k := ⟨_, rfl⟩
 have hok9 : w5.ownsRow w4.heap.size 3 1 kv kl.length (iv kl) := hok9
 rw [hnk] at hok9 HLK
 obtain ⟨KA, kc, rfl⟩ := own_shape hok9
 have HK := Lib.hid (show RdU w5 KA nk kc kl from ⟨hnk, RdI.of_own hok9, (own_cap' hok9).1, (own_cap' hok9).2⟩)
 replace Vx := Lib.hid (Vx.out.below hb)
 replace Vy := Lib.hid (Vy.out.below hb)
 replace HU := Lib.hid (HU.out.below hb)
 replace HB := Lib.hid (HB.out.trans (hb.mono HB.out.size))
 clear hb hok9 HC1 hnk
 go_upto_region 5 with fail
 have HC1 := Lib.hid (refusals_ok _ _ _ _ _ _ _ _ _ _ _ _ _ _ _ _ _ _ x.a y.a U cu nu (unE p) w5 Vx.out.ok Vy.out.ok HU.out.len HU.out.rd HU.out.c1 HU.out.c2 q T HP.out _ rfl)
 rw [HBI.out, HBU.out] at HC1
 have cx0 := Vx.out.c0
 have cx1 := Vx.out.c1
 have cx2 := Vx.out.c2
 have cx3 := Vx.out.c3
 have cy0 := Vy.out.c0
 have cy1 := Vy.out.c1
 have cy2 := Vy.out.c2
 have cy3 := Vy.out.c3
 go_wp2_with fail
 clear cx0 cx1 cx2 cx3 cy0 cy1 cy2 cy3
 refine HC1.out.mono ?_
 rintro e w6 ⟨v1, v2, rfl, ho1, ho2, hb⟩
 obtain ⟨ns, hns⟩ : ∃ k, BI.length = k := ⟨_, rfl⟩
 obtain ⟨nv, hnv⟩ : ∃ k, BU.length = k := ⟨_, rfl⟩
 rw [hns] at ho1
 rw [hnv] at ho2
 obtain ⟨A1, c1, rfl⟩ := own_shape ho1
 obtain ⟨A2, c2, rfl⟩ := own_shape ho2
 have HS1 := Lib.hid (show RdU w6 A1 ns c1 BI from ⟨hns, RdI.of_own ho1, (own_cap' ho1).1, (own_cap' ho1).2⟩)
 have HS2 := Lib.hid (show RdU w6 A2 nv c2 BU from ⟨hnv, RdI.of_own ho2, (own_cap' ho2).1, (own_cap' ho2).2⟩)
 replace Vx := Lib.hid (Vx.out.below hb)
 replace Vy := Lib.hid (Vy.out.below hb)
 replace HU := Lib.hid (HU.out.below hb)
 replace HK := Lib.hid (HK.out.below hb)
 replace HB := Lib.hid (HB.out.trans (hb.mono HB.out.size))
 clear hb ho1 ho2 HC1
 go_upto_region 6 with fail
 have HC1 := Lib.hid (law_refusals _ _ _ _ _ _ _ _ _ _ _ _ _ _ _ _ _ _ x.a y.a U cu nu (unE p) w6 Vx.out.ok Vy.out.ok HU.out.len HU.out.rd HU.out.c1 HU.out.c2 q T HP.out _ rfl)
 rw [badI_mem HP.out.wp, badU_mem HP.out.wp, HBI.out, HBU.out] at HC1
 have cx0 := Vx.out.c0
 have cx1 := Vx.out.c1
 have cx2 := Vx.out.c2
 have cx3 := Vx.out.c3
 have cy0 := Vy.out.c0
 have cy1 := Vy.out.c1
 have cy2 := Vy.out.c2
 have cy3 := Vy.out.c3
 go_wp2_with fail
 clear cx0 cx1 cx2 cx3 cy0 cy1 cy2 cy3
 refine HC1.out.mono ?_
 rintro e wn ⟨aA, ana, aca, aM, anm, acm, aE, ane, ace, v1, v2, rfl, haut, ho1, ho2, hb⟩
 rw [hns] at ho1
 rw [hnv] at ho2
 obtain ⟨A3, c3, rfl⟩ := own_shape ho1
 obtain ⟨A4, c4, rfl⟩ := own_shape ho2
 obtain ⟨a, ha⟩ : ∃ a : AV, a = ⟨aA, ana, aca, aM, anm, acm, aE, ane, ace, q⟩ := ⟨_, rfl⟩
 have haok : a.ok wn wn.heap.size := by rw [ha]; exact haut
 have HAQ := Lib.hid (show a.a = q by rw [ha])
 have hg1 : aA = a.A := by rw [ha]
 have hg2 : ana = a.na := by rw [ha]
 have hg3 : aca = a.ca := by rw [ha]
 have hg4 : aM = a.M := by rw [ha]
 have hg5 : anm = a.nm := by rw [ha]
 have hg6 : acm = a.cm := by rw [ha]
 have hg7 : aE = a.E := by rw [ha]
 have hg8 : ane = a.ne := by rw [ha]
 have hg9 : ace = a.ce := by rw [ha]
 have hg10 : q.st = a.a.st := by rw [HAQ.out]
 rw [hg1, hg2, hg3, hg4, hg5, hg6, hg7, hg8, hg9, hg10]
 clear hg1 hg2 hg3 hg4 hg5 hg6 hg7 hg8 hg9 hg10 ha haut aA ana aca aM anm acm aE ane ace
 have HS3 := Lib.hid (show RdU wn A3 ns c3 BI from ⟨hns, RdI.of_own ho1, (own_cap' ho1).1, (own_cap' ho1).2⟩)
 have HS4 := Lib.hid (show RdU wn A4 nv c4 BU from ⟨hnv, RdI.of_own ho2, (own_cap' ho2).1, (own_cap' ho2).2⟩)
 have hbz := box_below wn (.cells #[.slice a.A a.na a.ca, .int .i64 a.a.st, .slice a.M a.nm a.cm, .slice a.E a.ne a.ce] 25)
 have hb5 := hb.trans (hbz.mono hb.size)
 replace HS3 := Lib.hid (HS3.out.below hbz)
 replace HS4 := Lib.hid (HS4.out.below hbz)
 clear Vx Vy HU
 replace HK := Lib.hid (HK.out.below hb5)
 replace HS1 := Lib.hid (HS1.out.below hb5)
 replace HS2 := Lib.hid (HS2.out.below hb5)
 replace HB := Lib.hid (HB.out.trans (hb5.mono HB.out.size))
 have hv := VarA.new haok
 have HNS := Lib.hid hns; clear hns
 have HNV := Lib.hid hnv; clear hnv
 clear hb hb5 hbz ho1 ho2 HC1 haok
 go_upto_region 7 with fail
 obtain ⟨ba, hbz⟩ : ∃ b, wn.heap.size = b := ⟨_, rfl⟩
 rw [hbz] at hv ⊢
 clear hbz
 generalize (wn.alloc (.cells #[.slice a.A a.na a.ca, .int .i64 a.a.st, .slice a.M a.nm a.cm, .slice a.E a.ne a.ce] 25)) = w7 at HK HS1 HS2 HS3 HS4 HB hv ⊢
 have Va := Lib.hid hv
 clear hv
 clear wn
 have HE1 := Lib.hid (word_Equal_n A1 A3 c1 c3 ns ns BI BI true w7 HNS.out HNS.out (eqB_of rfl) HS1.out.rd HS1.out.c1 HS1.out.c2 HS3.out.rd)
 rcases HCASE.out with ⟨rfl, rfl, rfl, rfl⟩ | ⟨rfl, s, B', HBS, HKL, HEV⟩
 ·obtain rfl : ns = 0 := HNS.out.symm
  obtain rfl : nk = 0 := HK.out.len.symm
  go_wp2_with fail
  refine HE1.out.mono ?_
  rintro e w8 ⟨rfl, d1, hd⟩
  have HB8 := Lib.hid (show Below w7.heap.size w7 w8 from by rw [hd]; exact below_drewN (Below.refl _ _) _)
  have HE2 := Lib.hid (word_Equal_n A2 A4 c2 c4 nv nv BU BU true w8 HNV.out HNV.out (eqB_of rfl) (HS2.out.below HB8.out).rd HS2.out.c1 HS2.out.c2 (HS4.out.below HB8.out).rd)
  clear hd
  go_wp2_with fail
  refine HE2.out.mono ?_
  rintro e w9 ⟨rfl, d2, hd⟩
  have HB9 := Lib.hid (show Below w8.heap.size w8 w9 from by rw [hd]; exact below_drewN (Below.refl _ _) _)
  clear hd
  go_wp2
  go_ret
  exact ⟨rfl, HB.out.trans ((HB8.out.trans (HB9.out.mono HB8.out.size)).mono HB.out.size)⟩
 ·have HB0 := Lib.hid HBS; clear HBS
  have HKP := Lib.hid HKL; clear HKL
  have HE0 := Lib.hid HEV; clear HEV
  have hns0 : ¬ (ns : Int) = 0 := by have := HNS.out; rw [HB0.out] at this; simp at this; omega
  have hns1 : 0 < ns := by omega
  have hns9 : ns ≤ 9223372036854775807 := by have := HS3.out.c1; have := HS3.out.c2; omega
  go_wp2_with fail
  refine HE1.out.mono ?_
  rintro e w8 ⟨rfl, d1, hd⟩
  have HB8 := Lib.hid (show Below w7.heap.size w7 w8 from by rw [hd]; exact below_drewN (Below.refl _ _) _)
  have HE2 := Lib.hid (word_Equal_n A2 A4 c2 c4 nv nv BU BU true w8 HNV.out HNV.out (eqB_of rfl) (HS2.out.below HB8.out).rd HS2.out.c1 HS2.out.c2 (HS4.out.below HB8.out).rd)
  clear hd
  go_wp2_with fail
  refine HE2.out.mono ?_
  rintro e w9 ⟨rfl, d2, hd⟩
  have HB9 := Lib.hid (show Below w8.heap.size w8 w9 from by rw [hd]; exact below_drewN (Below.refl _ _) _)
  clear hd
  have HB10 := Lib.hid (HB8.out.trans (HB9.out.mono HB8.out.size))
  replace Va := Lib.hid (Va.out.below HB10.out)
  replace HK := Lib.hid (HK.out.below HB10.out)
  replace HS3 := Lib.hid (HS3.out.below HB10.out)
  replace HS4 := Lib.hid (HS4.out.below HB10.out)
  replace HB := Lib.hid (HB.out.trans (HB10.out.mono HB.out.size))
  clear HE1 HE2 HB8 HB9 HB10 HS1 HS2
  go_upto_region 11 with fail
  have HSR := Lib.hid (show 0 ≤ s ∧ s < q.st from HINC.out.2 s (by rw [HB0.out]; exact List.mem_cons_self ..))
  have HNUM := Lib.hid HP.out.num
  have HPR2 := Lib.hid (show goS (stA q) 0 kl = some s from by
   have h1 := path_run HNUM.out s.toNat T.length (by have := HSR.out; omega) (by have := HSR.out; have := HNUM.out.le; omega)
   rw [show ((s.toNat : Nat) : Int) = s by have := HSR.out; omega] at h1
   rw [HKP.out]; exact h1)
  obtain ⟨RES, hr⟩ : ∃ r, wrd a.a nk = r := ⟨_, rfl⟩
  have HWD := Lib.hid (automaton_Words a.A a.M a.E a.na a.ca a.nm a.cm a.ne a.ce a.a nk RES w9 Va.out.ok (by rw [HAQ.out]; exact HNUM.out.wf) HLK.out hr)
  have HR := Lib.hid hr; clear hr
  have ca0 := Va.out.c0
  have ca1 := Va.out.c1
  have ca2 := Va.out.c2
  have ca3 := Va.out.c3
  go_wp2_with fail
  clear ca0 ca1 ca2 ca3
  refine HWD.out.mono ?_
  rintro e w10 ⟨hb, hno, hs⟩
  replace Va := Lib.hid (Va.out.below hb)
  replace HK := Lib.hid (HK.out.below hb)
  replace HS3 := Lib.hid (HS3.out.below hb)
  replace HS4 := Lib.hid (HS4.out.below hb)
  replace HB := Lib.hid (HB.out.trans (hb.mono HB.out.size))
  clear hb HWD
  cases RES with
  | none =>
   obtain rfl := hno rfl
   clear hs hno
   have HRUN := Lib.hid (automaton_Run a.A a.M a.E a.na a.ca a.nm a.cm a.ne a.ce a.a 0 KA kc nk kl (s, nk) w10 Va.out.ok (by rw [HAQ.out]; exact HNUM.out.wf) (Int.le_refl _) (by rw [HAQ.out]; have := HSR.out; omega) HK.out.len HK.out.rd HK.out.c1 HK.out.c2 (by rw [HAQ.out]; exact goS_al HNUM.out.wf kl 0 s HPR2.out) (by
    rw [HAQ.out]
    have h1 := HPR2.out
    rw [goS_run] at h1
    split at h1
    ·rename_i h2
     injection h1 with h1
     rw [HK.out.len] at h2
     exact Prod.ext h1 h2
    ·cases h1))
   have ca0 := Va.out.c0
   have ca1 := Va.out.c1
   have ca2 := Va.out.c2
   have ca3 := Va.out.c3
   go_wp2_with fail
   clear ca0 ca1 ca2 ca3
   refine HRUN.out.mono ?_
   rintro e w11 ⟨rfl, hb⟩
   have HHS := Lib.hid (law_has A3 c3 ns BI s true w11 HNS.out (HS3.out.below hb).rd (by have := HS3.out.c1; have := HS3.out.c2; omega) (by rw [HB0.out]; exact hasB_mem.2 (List.mem_cons_self ..)))
   replace HB := Lib.hid (HB.out.trans (hb.mono HB.out.size))
   clear hb HRUN
   go_wp2_with fail
   refine HHS.out.mono ?_
   rintro e w12 ⟨rfl, rfl⟩
   go_wp2
   go_ret
   exact ⟨rfl, HB.out⟩
  | some l =>
   obtain ⟨LA, lc, xs, rfl, hxl, hrs, hc1, hc2⟩ := hs l rfl
   obtain ⟨n, hn⟩ : ∃ n, l.length = n := ⟨_, rfl⟩
   rw [hn] at hc1 ⊢
   have hxn : xs.length = n := by rw [← hn, ← List.length_map (f := SlV.l), hxl, List.length_map]
   obtain ⟨pp, hp1, hp2⟩ := first_word HNUM.out (s := s) (B' := B') (by rw [← HB0.out]; exact HINC.out.1) HSR.out (m := nk) (by have := HK.out.len; rw [HKP.out, List.length_reverse] at this; exact this) (by rw [← HAQ.out]; exact HR.out)
   rw [← HKP.out] at hp1
   rw [← HB0.out] at hp2
   have HPL := Lib.hid (show pp < n from by rw [← hn]; exact (List.getElem?_eq_some_iff.1 hp1).1)
   have HRUNS := Lib.hid (show ∀ z ∈ l, goS (stA q) 0 z.1 = some z.2 from wrd_run HNUM.out.wf (by rw [← HAQ.out]; exact HR.out))
   have HRS := Lib.hid hrs; clear hrs
   have HXL := Lib.hid hxl; clear hxl
   have HXN := Lib.hid hxn; clear hxn
   have HLN := Lib.hid hn; clear hn
   have HP1 := Lib.hid hp1; clear hp1
   have HP2 := Lib.hid hp2; clear hp2
   have hnm : n ≤ 9223372036854775807 := by omega
   clear hno hs hc1 hc2
   go_wp2
   go_loopw [21, 22, 23, 24, 25] (fun s21 s22 s23 s24 s25 wr => ∃ (i : Nat) (v22 v23 v24 v25 : Value), s21 = .int .i64 i ∧ s22 = v22 ∧ s23 = v23 ∧ s24 = v24 ∧ s25 = v25 ∧ i ≤ pp ∧ Hid (Below w10.heap.size w10 wr)) (fun s21 _ _ _ _ _ => n - (intOf s21).toNat)
   case atStart => exact ⟨0, _, _, _, _, rfl, rfl, rfl, rfl, rfl, Nat.zero_le _, Lib.hid (Below.refl _ _)⟩
   case round =>
    obtain ⟨i, v22, v23, v24, v25, rfl, rfl, rfl, rfl, rfl, hi, HBR⟩ := hrel
    have hlt : i < n := by have := HPL.out; omega
    obtain ⟨ad, s9, hA, hab, hsi, hsc, hsr, hs1, hs2⟩ := ((HRS.out.below HBR.out).more HBR.out.size).at_ (k := i) (by rw [HXN.out]; exact hlt)
    subst hA
    have b1 : (i : Int) < (n : Int) := by omega
    obtain ⟨sA, sc, sl⟩ := s9
    obtain ⟨sn, hns9⟩ : ∃ k, sl.length = k := ⟨_, rfl⟩
    replace hsc : wr.cell? (ad.add i) = some (.slice sA sn sc) := by rw [← hns9]; exact hsc
    obtain ⟨z, hz, hz1⟩ : ∃ z, l[i]? = some z ∧ z.1 = sl := by
     have h1 : (xs.map SlV.l)[i]? = some sl := by rw [List.getElem?_map, hsi]; rfl
     rw [HXL.out, List.getElem?_map] at h1
     cases hz : l[i]? with
     | none => rw [hz] at h1; cases h1
     | some z => rw [hz] at h1; injection h1 with h1; exact ⟨z, rfl, h1⟩
    obtain ⟨z1, z2⟩ := z
    have hz1 : z1 = sl := hz1
    subst hz1
    have hgo := HRUNS.out _ (List.mem_of_getElem? hz)
    obtain ⟨RR, hRR⟩ : ∃ r, runS (stA a.a) 0 z1 = r := ⟨_, rfl⟩
    have hat : RR.1 = z2 := by
     rw [← hRR, HAQ.out]
     have h1 : goS (stA q) 0 z1 = some z2 := hgo
     rw [goS_run] at h1
     split at h1
     ·injection h1
     ·cases h1
    go_upto_region 18 with fail
    refine wp_region_U (fun W => CV W ba a ∧ W.cell? (ad.add i) = some (.slice sA sn sc)) (fun _ => True) 5 (by kernel_rfl) ?_
    change anyU _ _ _ _ _ _ _ 13 _ _ _
    have hB0 : True := trivial
    have hbd := below_dr wr
    have HAW := Lib.hid (fun (W : World) (hb : Below wr.heap.size wr W) => (show CV W ba a ∧ W.cell? (ad.add i) = some (.slice sA sn sc) from ⟨(Va.out.below (HBR.out.trans (hb.mono HBR.out.size))).cv, (hb.cell (p := ad.add i) (by rw [block_of_add]; exact hab)).trans hsc⟩))
    have HRUN := Lib.hid (automaton_Run a.A a.M a.E a.na a.ca a.nm a.cm a.ne a.ce a.a 0 sA sc sn z1 RR wr.drew (Va.out.below (HBR.out.trans (hbd.mono HBR.out.size))).ok (by rw [HAQ.out]; exact HNUM.out.wf) (Int.le_refl _) (by rw [HAQ.out]; have := HSR.out; omega) hns9 ((hsr.below hbd).more hbd.size) (by rw [← hns9]; exact hs1) hs2 (by rw [HAQ.out]; exact goS_al HNUM.out.wf z1 0 z2 hgo) hRR)
    have hA0 := HAW.out _ hbd
    have HBD := Lib.hid hbd
    have HSR9 := Lib.hid (fun (W : World) (hb : Below wr.heap.size wr W) => (hsr.below hb).more hb.size)
    have HSN := Lib.hid hns9; clear hns9
    have HZ := Lib.hid hz; clear hz
    clear hsc hsi hsr hab hbd hgo hRR
    generalize wr.drew = wd at hA0 HRUN HBD ⊢
    (refine uA 0 ?_ rfl hA0 hB0 (fun W hA => ?_) ?_; rotate_left; (· (obtain ⟨⟨a0, a1, a2, a3⟩, _⟩ := hA; go_simp; try with_reducible rfl)); (try simp only [Act.put, List.setIfInBounds_toArray, List.set_cons_zero, List.set_cons_succ]))
    (refine uA 1 ?_ rfl hA0 hB0 (fun W hA => ?_) ?_; rotate_left; (· (go_simp; try with_reducible rfl)); refine uA 2 ?_ rfl hA0 hB0 (fun W hA => ?_) ?_; rotate_left; (· (go_simp; try with_reducible rfl)); refine uA 3 ?_ rfl hA0 hB0 (fun W hA => ?_) ?_; rotate_left; (· (go_simp; try with_reducible rfl)); (try simp only [Act.put, List.setIfInBounds_toArray, List.set_cons_zero, List.set_cons_succ]))
    (refine uA 4 ?_ rfl hA0 hB0 (fun W hA => ?_) ?_; rotate_left; (· (obtain ⟨_, a0⟩ := hA; go_simp; try with_reducible rfl)); (try simp only [Act.put, List.setIfInBounds_toArray, List.set_cons_zero, List.set_cons_succ]))
    refine uOne (i := 5) rfl (by kernel_rfl) (fun K hK => ?_)
    go_simp
    go_at_call 45
    refine HRUN.out.mono ?_
    rintro e we ⟨rfl, hbe⟩
    rw [hat]
    have HBE := Lib.hid (HBD.out.trans (hbe.mono HBD.out.size))
    have hA1 := HAW.out we HBE.out
    clear hA0 hbe HRUN
    have hA0 := hA1
    (refine hK _ _ ⟨hA1, fun _ => hB0⟩ ?_; clear hK K; (try simp only [Act.put, List.setIfInBounds_toArray, List.set_cons_zero, List.set_cons_succ]))
    (refine uA 6 ?_ rfl hA0 hB0 (fun W hA => ?_) ?_; rotate_left; (· (go_simp; try with_reducible rfl)); refine uA 7 ?_ rfl hA0 hB0 (fun W hA => ?_) ?_; rotate_left; (· (go_simp; try with_reducible rfl)); refine uA 8 ?_ rfl hA0 hB0 (fun W hA => ?_) ?_; rotate_left; (· (go_simp; try with_reducible rfl)); refine uA 9 ?_ rfl hA0 hB0 (fun W hA => ?_) ?_; rotate_left; (· (go_simp; try with_reducible rfl)); refine uA 10 ?_ rfl hA0 hB0 (fun W hA => ?_) ?_; rotate_left; (· (go_simp; try with_reducible rfl)); refine uA 11 ?_ rfl hA0 hB0 (fun W hA => ?_) ?_; rotate_left; (· (go_simp; try with_reducible rfl)); refine uA 12 ?_ rfl hA0 hB0 (fun W hA => ?_) ?_; rotate_left; (· (go_simp; try with_reducible rfl)); (try simp only [Act.put, List.setIfInBounds_toArray, List.set_cons_zero, List.set_cons_succ]))
    refine anyU_done (by kernel_rfl) ?_ _
    clear hA0 hB0
    have HBT := Lib.hid (HBR.out.trans (HBE.out.mono HBR.out.size))
    by_cases hip : i = pp
    ·subst hip
     have hzz : z1 = kl ∧ z2 = s := by
      have h1 := HZ.out
      rw [HP1.out] at h1
      injection h1 with h1
      injection h1 with h1 h2
      exact ⟨h1.symm, h2.symm⟩
     obtain ⟨rfl, rfl⟩ := hzz
     go_wp2
     go_loopw [25] (fun s25 wr => s25 = .int .i64 0 ∧ Hid (Below we.heap.size we wr)) (fun s25 _ => (intOf s25).toNat)
     case atStart => exact ⟨rfl, Lib.hid (Below.refl _ _)⟩
     case round =>
      obtain ⟨rfl, HBZ⟩ := hrel
      have HBY := Lib.hid (HBT.out.trans (HBZ.out.mono HBT.out.size))
      obtain ⟨ad3, t3, hA3, _, ht3, hc3⟩ := (HS3.out.below HBY.out).rd.at_ (k := 0) (by rw [HNS.out]; exact hns1)
      subst hA3
      obtain rfl : t3 = z2 := by rw [HB0.out] at ht3; injection ht3 with ht3; exact ht3.symm
      have hnv1 : 0 < nv := by rw [← HNV.out]; exact (List.getElem?_eq_some_iff.1 HE0.out).1
      obtain ⟨ad4, t4, hA4, hab4, ht4, hc4⟩ := (HS4.out.below HBY.out).rd.at_ (k := 0) (by rw [HNV.out]; exact hnv1)
      subst hA4
      obtain rfl : t4 = ev := by rw [HE0.out] at ht4; injection ht4 with ht4; exact ht4.symm
      have hw0 := (HAW.out wr (HBE.out.trans (HBZ.out.mono HBE.out.size))).2
      have q0 : (0 : Int) < (ns : Int) := by omega
      replace hc3 : wr.cell? ad3 = some (.int .i64 t3) := by simpa [Addr.add] using hc3
      replace hc4 : wr.cell? ad4 = some (.int .i64 t4) := by simpa [Addr.add] using hc4
      have q1 : (0 : Int) < (nv : Int) := by omega
      have HEQ := Lib.hid (word_Equal_n KA sA kc sc nk sn z1 z1 true wr HK.out.len HSN.out (eqB_of rfl) (HK.out.below HBY.out).rd HK.out.c1 HK.out.c2 (HSR9.out wr (HBE.out.trans (HBZ.out.mono HBE.out.size))))
      go_wp2_with fail
      refine HEQ.out.mono ?_
      rintro e w20 ⟨rfl, d2, hd⟩
      have hbd := show Below wr.heap.size wr w20 from by rw [hd]; exact below_drewN (Below.refl _ _) _
      have hc5 := (hbd.cell (p := ad4) hab4).trans hc4
      have HB20 := Lib.hid (HBY.out.trans (hbd.mono HBY.out.size))
      clear hbd hd hc3 hc4 hw0
      go_wp2
      go_ret
      exact ⟨rfl, HB.out.trans (HB20.out.mono HB.out.size)⟩
    ·have HNM := Lib.hid (show z2 ∉ BI from HP2.out i _ (by omega) HZ.out)
     go_wp2
     go_loopw [25] (fun s25 wr => ∃ k : Nat, s25 = .int .i64 k ∧ k ≤ ns ∧ Hid (Below we.heap.size we wr)) (fun s25 _ => ns - (intOf s25).toNat)
     case atStart => exact ⟨0, rfl, Nat.zero_le _, Lib.hid (Below.refl _ _)⟩
     case round =>
      obtain ⟨k, rfl, hk, HBZ⟩ := hrel
      have HBY := Lib.hid (HBT.out.trans (HBZ.out.mono HBT.out.size))
      by_cases hkt : k < ns
      ·have b3 : (k : Int) < (ns : Int) := by omega
       obtain ⟨ad3, t3, hA3, _, ht3, hc3⟩ := (HS3.out.below HBY.out).rd.at_ (k := k) (by rw [HNS.out]; exact hkt)
       subst hA3
       have hne : ¬ t3 = z2 := fun he => HNM.out (by rw [← he]; exact List.mem_of_getElem? ht3)
       go_wp2
       go_roundw
       case rel => exact ⟨k + 1, by go_num, by omega, HBZ⟩
       case measure => simp [intOf]; omega
      ·have b3 : ¬ (k : Int) < (ns : Int) := by omega
       go_wp2
       go_roundw
       case rel => exact ⟨i + 1, _, _, _, _, by go_num, rfl, rfl, rfl, rfl, by omega, HBY⟩
       case measure => simp [intOf]; omega
end Go.Proofs.YtcchnibgehonoaaDoor
