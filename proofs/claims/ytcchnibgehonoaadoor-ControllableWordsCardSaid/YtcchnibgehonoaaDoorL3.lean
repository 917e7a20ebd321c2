/- The law ControllableWords: its walk. -/
import Derived.Deep.CutBlock
import Derived.Test.YtcchnibgehonoaaDoorNf
namespace Go.Proofs.YtcchnibgehonoaaDoor
open Go.RowKit Go Go.Maps
/-- bytes as small events -/
def wordB (l : List Int) (n : Nat) : List Int := (l.take n).map (· % 5)
theorem wordB_snoc {l : List Int} {k : Nat} {x : Int} (h : l[k]? = some x) : wordB l (k + 1) = wordB l k ++ [x % 5] := by
  unfold wordB; rw [take_snoc' h]; simp
theorem wordB_le (l : List Int) (k : Nat) : (wordB l k).length ≤ k := by unfold wordB; rw [List.length_map]; exact List.length_take_le _ _
theorem wordB_end {l : List Int} {k n : Nat} (hk : k ≤ n) (h : ¬ k < l.length) : wordB l k = wordB l n := by
  unfold wordB; rw [take_all' h, List.take_of_length_le (by omega)]

set_option maxRecDepth 100000 in
set_option maxHeartbeats 6400000 in
theorem words_walk (p : Prm) (B : Option Addr) (cb nb : Nat) (l : List Int) (w : World) (hok : p.ok) (hnl : l.length = nb) (hl : RdB w w.heap.size B l) (hlb : ∀ (k : Nat) (x : Int), l[k]? = some x → 0 ≤ x ∧ x ≤ 255) :
  Calls Tryd.prog 8 #[.agg (mcells p).toArray, .slice B nb cb] w fun e w' => e = .returned (.bool true) ∧ Below w.heap.size w w' := by
 have hb1 := box_below w (.cells (mcells p).toArray 54)
 obtain ⟨w1, hw1⟩ : ∃ w1, w1 = w.alloc (.cells (mcells p).toArray 54) := ⟨_, rfl⟩
 have kx : Blk w1 w.heap.size 54 (mcells p) := by rw [hw1]; exact Blk.new _ _ _
 rw [← hw1] at hb1
 have HC := Lib.hid (law_known26 w1)
 obtain ⟨q, T, hp⟩ := prm_prob hok
 have HW1 := Lib.hid hw1; clear hw1
 have HB1 := Lib.hid hb1; clear hb1
 have KX := Lib.hid kx; clear kx
 have HOK := Lib.hid hok; clear hok
 have HPR := Lib.hid hp; clear hp
 have HNL := Lib.hid hnl; clear hnl
 have HL := Lib.hid hl; clear hl
 have HLB := Lib.hid hlb; clear hlb
 go_enter Tryd.func8, Tryd.ntmps8
 go_wp2_with fail
 rw [← HW1.out]
 refine HC.out.mono ?_
 rintro e w2 ⟨rfl, hb⟩
 have HB2 := Lib.hid (HB1.out.trans (hb.mono HB1.out.size))
 have hk2 := KX.out.below hb KX.out.lt
 have HMK := Lib.hid (law_MakeV p w2 HOK.out)
 clear HC hb KX
 go_wp2_with (first | refine wpList_load_prob rfl _ rfl w.heap.size p HOK.out (by rfl) hk2 ?_)
 clear hk2
 refine HMK.out.mono ?_
 rintro e w3 ⟨x, y, U, nu, cu, rfl, hxa, hya, hx, hy, hu, hb⟩
 have vx := VarA.new hx
 have hbx := box_below w3 (.cells #[.slice x.A x.na x.ca, .int .i64 x.a.st, .slice x.M x.nm x.cm, .slice x.E x.ne x.ce] 25)
 have vy := VarA.new (AutR.more (AutR.below hy hbx) hbx.size : y.ok (w3.alloc (.cells #[.slice x.A x.na x.ca, .int .i64 x.a.st, .slice x.M x.nm x.cm, .slice x.E x.ne x.ce] 25)) _)
 have hby := box_below (w3.alloc (.cells #[.slice x.A x.na x.ca, .int .i64 x.a.st, .slice x.M x.nm x.cm, .slice x.E x.ne x.ce] 25)) (.cells #[.slice y.A y.na y.ca, .int .i64 y.a.st, .slice y.M y.nm y.cm, .slice y.E y.ne y.ce] 25)
 have HP := Lib.hid (show Prob x.a y.a (unE p) q T by rw [hxa, hya]; exact HPR.out)
 have HPS := Lib.hid (show x.a.st ≤ 5 by rw [hxa]; exact (ptA_sm HOK.out.1).st)
 have HRS := Lib.hid (show y.a.st ≤ 5 by rw [hya]; exact (rqA_sm HOK.out).st)
 have hu4 := (hu.below hbx).below hby
 have hb4 := hb.trans ((hbx.trans (hby.mono hbx.size)).mono hb.size)
 have HB := Lib.hid (HB2.out.trans (hb4.mono HB2.out.size))
 have hvx := vx.below hby
 have HXA := Lib.hid hxa; clear hxa
 have HYA := Lib.hid hya; clear hya
 clear hbx hby hb hb4 hx hy hu vx HMK HPR HB2
 go_upto_region 4 with fail
 rw [show (w3.alloc (.cells #[.slice x.A x.na x.ca, .int .i64 x.a.st, .slice x.M x.nm x.cm, .slice x.E x.ne x.ce] 25)).heap.size = w3.heap.size + 1 by simp] at vy
 obtain ⟨bx, hbx⟩ : ∃ b, w3.heap.size = b := ⟨_, rfl⟩
 rw [hbx] at hvx vy ⊢
 generalize (w3.alloc (.cells #[.slice x.A x.na x.ca, .int .i64 x.a.st, .slice x.M x.nm x.cm, .slice x.E x.ne x.ce] 25)).alloc (.cells #[.slice y.A y.na y.ca, .int .i64 y.a.st, .slice y.M y.nm y.cm, .slice y.E y.ne y.ce] 25) = w4 at hvx vy hu4 HB ⊢
 clear hbx w3
 have Vx := Lib.hid hvx
 have Vy := Lib.hid vy
 have HU := Lib.hid hu4
 clear hvx vy hu4
 have HBT := Lib.hid ((HL.out.below HB.out).more HB.out.size)
 go_upto_block 0 with fail
 go_cut [8, 9] from 33 (fun s8 s9 wx => ∃ (A : Option Addr) (m c : Nat) (v9 : Value), s8 = .slice A m c ∧ s9 = v9 ∧ m ≤ 5 ∧ Hid ((wordB l 5).length = m) ∧ Hid (wx.ownsRow w4.heap.size 3 1 (.slice A m c) m (iv (wordB l 5))) ∧ Hid (Below w4.heap.size w4 wx))
 case first =>
  go_wp2_with fail
  go_loopw [8, 9] (fun s8 s9 wr => ∃ (k m : Nat) (v : Value), s8 = v ∧ s9 = .int .i64 k ∧ k ≤ nb ∧ k ≤ 5 ∧ m ≤ k ∧ Hid ((wordB l k).length = m) ∧ Hid (wr.ownsRow w4.heap.size 3 1 v m (iv (wordB l k))) ∧ Hid (Below w4.heap.size w4 wr)) (fun _ s9 _ => 5 - (intOf s9).toNat)
  case atStart => exact ⟨0, 0, _, rfl, rfl, Nat.zero_le _, Nat.zero_le _, Nat.le_refl _, Lib.hid rfl, Lib.hid (World.ownsRow_nil _ _ _ _), Lib.hid (Below.refl _ _)⟩
  case round =>
   obtain ⟨k, m, v, rfl, rfl, hk, hk5, hmk, HM, HO, HBR⟩ := hrel
   obtain ⟨A, c, rfl⟩ := own_shape HO.out
   have hsz := HBR.out.size
   by_cases hlt : k < nb
   ·have b1 : (k : Int) < (nb : Int) := by omega
    by_cases h5 : k < 5
    ·have b2 : (k : Int) < 5 := by omega
     obtain ⟨ad, x0, hA, _, hx, hcx⟩ := ((HBT.out.below HBR.out).more HBR.out.size).at_ (k := k) (by rw [HNL.out]; exact hlt)
     subst hA
     obtain ⟨g0, g1⟩ := HLB.out k x0 hx
     have HX := Lib.hid hx; clear hx
     go_wp2_with (at_builtin; refine wpList_push wr (.int .i64 (x0 % 5)) rfl (.tmp 43) (.tmp 50) 22 rfl w4.heap.size 3 (.int .i64 0) 8 Tryd.underlying22 int_info rfl (.slice A m c) m _ rfl HO.out rfl rfl (by omega) (by omega) hsz ?_; intro v' w' ho' hg' hb1)
     go_roundw
     case rel => exact ⟨k + 1, m + 1, _, rfl, by go_num, by omega, by omega, by omega, Lib.hid (by rw [wordB_snoc HX.out, List.length_append, HM.out]; rfl), Lib.hid (by rw [wordB_snoc HX.out, iv_append]; exact ho'), Lib.hid (HBR.out.trans hb1)⟩
     case measure => simp [intOf]; omega
    ·have b2 : ¬ (k : Int) < 5 := by omega
     obtain rfl : k = 5 := by omega
     go_wp2_with fail
     go_meet
     case rel => exact ⟨A, m, c, _, rfl, rfl, hmk, HM, HO, HBR⟩
   ·have b1 : ¬ (k : Int) < (nb : Int) := by omega
    have HE := Lib.hid (wordB_end (l := l) hk5 (by rw [HNL.out]; exact hlt))
    rw [HE.out] at HM HO
    go_wp2_with fail
    go_meet
    case rel => exact ⟨A, m, c, _, rfl, rfl, by omega, HM, HO, HBR⟩
 case rest =>
  obtain ⟨WA, m, wc9, v9, rfl, rfl, hm5, HWL, HOW, HBW⟩ := hcut
  obtain ⟨w5, rfl⟩ : ∃ w5 : World, w5 = wc := ⟨_, rfl⟩
  obtain ⟨ws, hws⟩ : ∃ x, wordB l 5 = x := ⟨_, rfl⟩
  rw [hws] at HWL HOW
  have HW := Lib.hid (show RdU w5 WA m wc9 ws from ⟨HWL.out, RdI.of_own HOW.out, (own_cap' HOW.out).1, (own_cap' HOW.out).2⟩)
  replace Vx := Lib.hid (Vx.out.below HBW.out)
  replace Vy := Lib.hid (Vy.out.below HBW.out)
  replace HU := Lib.hid (HU.out.below HBW.out)
  replace HB := Lib.hid (HB.out.trans (HBW.out.mono HB.out.size))
  clear HBT HBW HOW HL hws HNL HLB
  obtain ⟨g, hg⟩ : ∃ g, gA x.a ws = g := ⟨_, rfl⟩
  have HG := Lib.hid hg; clear hg
  have hcw : m ≤ 17592186044416 := by omega
  have HC := Lib.hid (automaton_Generates x.A x.M x.E x.na x.ca x.nm x.cm x.ne x.ce x.a WA wc9 m ws g w5 Vx.out.ok HP.out.wp HW.out.len HW.out.rd HW.out.c1 HW.out.c2 HG.out)
  have cx0 := Vx.out.c0
  have cx1 := Vx.out.c1
  have cx2 := Vx.out.c2
  have cx3 := Vx.out.c3
  go_wp2_with fail
  clear cx0 cx1 cx2 cx3
  refine HC.out.mono ?_
  rintro e w6 ⟨rfl, hb⟩
  replace Vx := Lib.hid (Vx.out.below hb)
  replace Vy := Lib.hid (Vy.out.below hb)
  replace HU := Lib.hid (HU.out.below hb)
  replace HW := Lib.hid (HW.out.below hb)
  replace HB := Lib.hid (HB.out.trans (hb.mono HB.out.size))
  clear hb HC
  cases g with
  | false =>
   go_wp2
   go_ret
   exact ⟨rfl, HB.out⟩
  | true =>
   go_upto_region 12 with fail
   have HC := Lib.hid (supV Vx.out.ok Vy.out.ok HU.out HP.out)
   have cx0 := Vx.out.c0
   have cx1 := Vx.out.c1
   have cx2 := Vx.out.c2
   have cx3 := Vx.out.c3
   have cy0 := Vy.out.c0
   have cy1 := Vy.out.c1
   have cy2 := Vy.out.c2
   have cy3 := Vy.out.c3
   go_wp2_with fail
   clear cx0 cx1 cx2 cx3 cy0 cy1 cy2 cy3
   refine HC.out.mono ?_
   rintro e wn ⟨s, rfl, hsa, hz, hb⟩
   have hbz := box_below wn (.cells #[.slice s.A s.na s.ca, .int .i64 s.a.st, .slice s.M s.nm s.cm, .slice s.E s.ne s.ce] 25)
   have hb5 := hb.trans (hbz.mono hb.size)
   replace Vx := Lib.hid (Vx.out.below hb5)
   replace Vy := Lib.hid (Vy.out.below hb5)
   replace HU := Lib.hid (HU.out.below hb5)
   replace HW := Lib.hid (HW.out.below hb5)
   replace HB := Lib.hid (HB.out.trans (hb5.mono HB.out.size))
   have hv := VarA.new hz
   have HsA := Lib.hid hsa; clear hsa
   clear hbz hb hb5 hz HC
   go_upto_region 13 with fail
   obtain ⟨bs, hbz⟩ : ∃ b, wn.heap.size = b := ⟨_, rfl⟩
   rw [hbz] at hv ⊢
   clear hbz
   generalize (wn.alloc (.cells #[.slice s.A s.na s.ca, .int .i64 s.a.st, .slice s.M s.nm s.cm, .slice s.E s.ne s.ce] 25)) = w7 at Vx Vy HU HW HB hv ⊢
   have Vs := Lib.hid hv
   clear hv
   clear wn
   have HC := Lib.hid (infV Vx.out.ok Vy.out.ok HU.out HP.out)
   have cx0 := Vx.out.c0
   have cx1 := Vx.out.c1
   have cx2 := Vx.out.c2
   have cx3 := Vx.out.c3
   have cy0 := Vy.out.c0
   have cy1 := Vy.out.c1
   have cy2 := Vy.out.c2
   have cy3 := Vy.out.c3
   go_wp2_with fail
   clear cx0 cx1 cx2 cx3 cy0 cy1 cy2 cy3
   refine HC.out.mono ?_
   rintro e wn ⟨i, rfl, hia, hz, hb⟩
   have hbz := box_below wn (.cells #[.slice i.A i.na i.ca, .int .i64 i.a.st, .slice i.M i.nm i.cm, .slice i.E i.ne i.ce] 25)
   have hb5 := hb.trans (hbz.mono hb.size)
   replace Vx := Lib.hid (Vx.out.below hb5)
   replace Vy := Lib.hid (Vy.out.below hb5)
   replace Vs := Lib.hid (Vs.out.below hb5)
   replace HU := Lib.hid (HU.out.below hb5)
   replace HW := Lib.hid (HW.out.below hb5)
   replace HB := Lib.hid (HB.out.trans (hb5.mono HB.out.size))
   have hv := VarA.new hz
   have HiA := Lib.hid hia; clear hia
   clear hbz hb hb5 hz HC
   go_upto_region 14 with fail
   obtain ⟨bi, hbz⟩ : ∃ b, wn.heap.size = b := ⟨_, rfl⟩
   rw [hbz] at hv ⊢
   clear hbz
   generalize (wn.alloc (.cells #[.slice i.A i.na i.ca, .int .i64 i.a.st, .slice i.M i.nm i.cm, .slice i.E i.ne i.ce] 25)) = w8 at Vx Vy Vs HU HW HB hv ⊢
   have Vi := Lib.hid hv
   clear hv
   clear wn
   obtain ⟨gs, hgs⟩ : ∃ g, gA s.a ws = g := ⟨_, rfl⟩
   obtain ⟨gi, hgi⟩ : ∃ g, gA i.a ws = g := ⟨_, rfl⟩
   have HGS := Lib.hid hgs; clear hgs
   have HGI := Lib.hid hgi; clear hgi
   have HC := Lib.hid (automaton_Generates s.A s.M s.E s.na s.ca s.nm s.cm s.ne s.ce s.a WA wc9 m ws gs w8 Vs.out.ok (by rw [HsA.out]; exact (sup_ownz HP.out).wf HP.out.wp) HW.out.len HW.out.rd HW.out.c1 HW.out.c2 HGS.out)
   have cs0 := Vs.out.c0
   have cs1 := Vs.out.c1
   have cs2 := Vs.out.c2
   have cs3 := Vs.out.c3
   go_wp2_with fail
   clear cs0 cs1 cs2 cs3
   refine HC.out.mono ?_
   rintro e w9 ⟨rfl, hb⟩
   replace Vx := Lib.hid (Vx.out.below hb)
   replace Vy := Lib.hid (Vy.out.below hb)
   replace Vs := Lib.hid (Vs.out.below hb)
   replace Vi := Lib.hid (Vi.out.below hb)
   replace HU := Lib.hid (HU.out.below hb)
   replace HW := Lib.hid (HW.out.below hb)
   replace HB := Lib.hid (HB.out.trans (hb.mono HB.out.size))
   clear hb HC
   go_upto_region 15 with fail
   have HC := Lib.hid (automaton_Generates i.A i.M i.E i.na i.ca i.nm i.cm i.ne i.ce i.a WA wc9 m ws gi w9 Vi.out.ok (by rw [HiA.out]; exact (inf_ownz HP.out).wf HP.out.wp) HW.out.len HW.out.rd HW.out.c1 HW.out.c2 HGI.out)
   have ci0 := Vi.out.c0
   have ci1 := Vi.out.c1
   have ci2 := Vi.out.c2
   have ci3 := Vi.out.c3
   go_wp2_with fail
   clear ci0 ci1 ci2 ci3
   refine HC.out.mono ?_
   rintro e w10 ⟨rfl, hb⟩
   replace Vx := Lib.hid (Vx.out.below hb)
   replace Vy := Lib.hid (Vy.out.below hb)
   replace Vs := Lib.hid (Vs.out.below hb)
   replace Vi := Lib.hid (Vi.out.below hb)
   replace HU := Lib.hid (HU.out.below hb)
   replace HW := Lib.hid (HW.out.below hb)
   replace HB := Lib.hid (HB.out.trans (hb.mono HB.out.size))
   clear hb HC
   obtain ⟨bkf, hkf⟩ := brk_flags x.a y.a (unE p) ws
   have HKF := Lib.hid hkf; clear hkf
   have HIN := Lib.hid (show gs = (decide (nF (pmF y.a ws) (m + 1) = m) && sF (pmF y.a ws) bkf (m + 1)) from by
    have := words_in HP.out HG.out (bk := bkf) (fun k _ _ => HKF.out k)
    rw [HW.out.len, ← HsA.out, HGS.out] at this
    exact this)
   obtain ⟨nn, hnn⟩ : ∃ n, nF (pmF y.a ws) (m + 1) = n := ⟨_, rfl⟩
   have HAR := Lib.hid (show gi = (decide (0 ≤ nn) && (ws.drop nn.toNat).all (fun v => hasB (unE p) v)) from by
    have := words_around HP.out HG.out (n := nn) (by rw [HW.out.len]; exact hnn)
    rw [← HiA.out, HGI.out] at this
    exact this)
   have HNB := Lib.hid (nF_lt (pmF y.a ws) (m + 1))
   rw [hnn] at HIN HNB
   have HNN := Lib.hid hnn; clear hnn
   clear Vs Vi
   go_wp2
   go_loopw [20, 21, 22] (fun s20 s21 s22 wr => ∃ (k : Nat) (b : Bool) (n : Int), s20 = .bool b ∧ s21 = .int .i64 n ∧ s22 = .int .i64 k ∧ k ≤ m + 1 ∧ Hid (sF (pmF y.a ws) bkf k = b) ∧ Hid (nF (pmF y.a ws) k = n) ∧ Hid (Below w10.heap.size w10 wr)) (fun _ _ s22 _ => m + 1 - (intOf s22).toNat)
   case atStart => exact ⟨0, true, -1, rfl, rfl, rfl, Nat.zero_le _, Lib.hid rfl, Lib.hid rfl, Lib.hid (Below.refl _ _)⟩
   case round =>
    obtain ⟨k, b, n, rfl, rfl, rfl, hk, HSF, HNF, HBR⟩ := hrel
    by_cases hlt : k ≤ m
    ·have b1 : (k : Int) ≤ (m : Int) := by omega
     have hkw : k ≤ wc9 := by have := HW.out.c1; omega
     have hkl : (ws.take k).length = k := by rw [List.length_take, HW.out.len]; omega
     obtain ⟨pk, hpk⟩ : ∃ g, pmF y.a ws k = g := ⟨_, rfl⟩
     have HPK := Lib.hid hpk; clear hpk
     have HKL := Lib.hid hkl; clear hkl
     have HAW := Lib.hid (fun (W : World) (hb : Below wr.heap.size wr W) => (show CV W bx x ∧ CV W (bx + 1) y from ⟨(Vx.out.below (HBR.out.trans (hb.mono HBR.out.size))).cv, (Vy.out.below (HBR.out.trans (hb.mono HBR.out.size))).cv⟩))
     go_upto_region 22 with fail
     refine wp_region_U (fun W => CV W (bx + 1) y) (fun _ => True) 4 (by kernel_rfl) ?_
     change anyU _ _ _ _ _ _ _ 5 _ _ _
     have hB0 : True := trivial
     have HBD := Lib.hid (below_dr wr)
     generalize wr.drew = wd at HBD ⊢
     have hA0 := (HAW.out wd HBD.out).2
     have HPM := Lib.hid (law_permits y WA wc9 k (ws.take k) pk wd (Vy.out.below (HBR.out.trans (HBD.out.mono HBR.out.size))).ok HP.out.wr HKL.out (((HW.out.below (HBR.out.trans (HBD.out.mono HBR.out.size))).rd).take k) (by omega) HPK.out)
     (refine uA 0 ?_ rfl hA0 hB0 (fun W hA => ?_) ?_; rotate_left; (· (obtain ⟨a0, a1, a2, a3⟩ := hA; go_simp; try with_reducible rfl)); (try simp only [Act.put, List.setIfInBounds_toArray, List.set_cons_zero, List.set_cons_succ]))
     (refine uA 1 ?_ rfl hA0 hB0 (fun W hA => ?_) ?_; rotate_left; (· (go_simp; try with_reducible rfl)); refine uA 2 ?_ rfl hA0 hB0 (fun W hA => ?_) ?_; rotate_left; (· (go_simp; try with_reducible rfl)); refine uA 3 ?_ rfl hA0 hB0 (fun W hA => ?_) ?_; rotate_left; (· (go_simp; try with_reducible rfl)); (try simp only [Act.put, List.setIfInBounds_toArray, List.set_cons_zero, List.set_cons_succ]))
     refine uOne (i := 4) rfl (by kernel_rfl) (fun K hK => ?_)
     go_simp
     go_at_call 39
     refine HPM.out.mono ?_
     rintro e we ⟨rfl, hbe⟩
     have HBE := Lib.hid (HBD.out.trans (hbe.mono HBD.out.size))
     have hA1 := (HAW.out we HBE.out).2
     clear hbe HPM hA0
     (refine hK _ _ ⟨hA1, fun _ => hB0⟩ ?_; clear hK K; (try simp only [Act.put, List.setIfInBounds_toArray, List.set_cons_zero, List.set_cons_succ]))
     refine anyU_done (by kernel_rfl) ?_ _
     clear hA1
     have HBF := Lib.hid (HBR.out.trans (HBE.out.mono HBR.out.size))
     cases pk with
     | false =>
      go_wp2
      go_roundw
      case rel => exact ⟨k + 1, b, n, rfl, rfl, by go_num, by omega, Lib.hid (by unfold sF; rw [HPK.out, if_neg (by simp)]; exact HSF.out), Lib.hid (by unfold nF; rw [HPK.out, if_neg (by simp)]; exact HNF.out), HBF⟩
      case measure => simp [intOf]; omega
     | true =>
      obtain ⟨bk, hbk⟩ : ∃ b, bkf k = b := ⟨_, rfl⟩
      have HBK := Lib.hid (show bk = true ↔ Brk x.a y.a (unE p) (prF x.a y.a (ws.take k)) from by rw [← hbk]; exact HKF.out k)
      have HSN := Lib.hid (show sF (pmF y.a ws) bkf (k + 1) = (b && !bk) from by unfold sF; rw [HPK.out, if_pos rfl, HSF.out, hbk])
      have HNN2 := Lib.hid (show nF (pmF y.a ws) (k + 1) = k from by unfold nF; rw [HPK.out, if_pos rfl])
      clear hbk
      go_upto_region 24 with fail
      have HBD2 := Lib.hid (HBE.out.trans ((below_dr we).mono HBE.out.size))
      have hA0 := HAW.out we.drew HBD2.out
      cases b with
      | false =>
       refine wp_region_U (fun W => CV W bx x ∧ CV W (bx + 1) y) (fun _ => True) 12 (by kernel_rfl) ?_
       change anyU _ _ _ _ _ _ _ 12 _ _ _
       generalize we.drew = wf at HBD2 hA0 ⊢
       (refine uA 0 ?_ rfl hA0 hB0 (fun W hA => ?_) ?_; rotate_left; (· (go_simp; try with_reducible rfl)); refine uA 1 ?_ rfl hA0 hB0 (fun W hA => ?_) ?_; rotate_left; (· (go_simp; try with_reducible rfl)); (try simp only [Act.put, List.setIfInBounds_toArray, List.set_cons_zero, List.set_cons_succ]))
       (refine uS 2 rfl hA0 hB0 ?_; refine uS 3 rfl hA0 hB0 ?_; refine uS 4 rfl hA0 hB0 ?_; refine uS 5 rfl hA0 hB0 ?_; (try simp only [Act.put, List.setIfInBounds_toArray, List.set_cons_zero, List.set_cons_succ]))
       (refine uS 6 rfl hA0 hB0 ?_; refine uS 7 rfl hA0 hB0 ?_; refine uS 8 rfl hA0 hB0 ?_; refine uS 9 rfl hA0 hB0 ?_; (try simp only [Act.put, List.setIfInBounds_toArray, List.set_cons_zero, List.set_cons_succ]))
       (refine uA 10 ?_ rfl hA0 hB0 (fun W hA => ?_) ?_; rotate_left; (· (go_simp; try with_reducible rfl)); refine uA 11 ?_ rfl hA0 hB0 (fun W hA => ?_) ?_; rotate_left; (· (go_simp; try with_reducible rfl)); (try simp only [Act.put, List.setIfInBounds_toArray, List.set_cons_zero, List.set_cons_succ]))
       refine anyU_done (by kernel_rfl) ?_ _
       clear hA0
       have HBG := Lib.hid (HBR.out.trans (HBD2.out.mono HBR.out.size))
       go_wp2
       go_roundw
       case rel => exact ⟨k + 1, false, k, rfl, rfl, by go_num, by omega, Lib.hid (by rw [HSN.out]; rfl), HNN2, HBG⟩
       case measure => simp [intOf]; omega
      | true =>
       refine wp_region_U (fun W => CV W bx x ∧ CV W (bx + 1) y) (fun _ => True) 8 (by kernel_rfl) ?_
       change anyU _ _ _ _ _ _ _ 12 _ _ _
       generalize we.drew = wf at HBD2 hA0 ⊢
       have HBRK := Lib.hid (law_breaks x y U nu cu (unE p) WA wc9 k (ws.take k) bk wf (Vx.out.below (HBR.out.trans (HBD2.out.mono HBR.out.size))).ok (Vy.out.below (HBR.out.trans (HBD2.out.mono HBR.out.size))).ok HP.out.wp HP.out.wr (HU.out.below (HBR.out.trans (HBD2.out.mono HBR.out.size))) HKL.out (((HW.out.below (HBR.out.trans (HBD2.out.mono HBR.out.size))).rd).take k) hkw HW.out.c2 (by omega) (gA_take HG.out (by rw [HW.out.len]; exact hlt)) HPK.out HPS.out HRS.out HBK.out)
       (refine uA 0 ?_ rfl hA0 hB0 (fun W hA => ?_) ?_; rotate_left; (· (go_simp; try with_reducible rfl)); refine uA 1 ?_ rfl hA0 hB0 (fun W hA => ?_) ?_; rotate_left; (· (go_simp; try with_reducible rfl)); (try simp only [Act.put, List.setIfInBounds_toArray, List.set_cons_zero, List.set_cons_succ]))
       (refine uA 2 ?_ rfl hA0 hB0 (fun W hA => ?_) ?_; rotate_left; (· (obtain ⟨⟨a0, a1, a2, a3⟩, _⟩ := hA; go_simp; try with_reducible rfl)); (try simp only [Act.put, List.setIfInBounds_toArray, List.set_cons_zero, List.set_cons_succ]))
       (refine uA 3 ?_ rfl hA0 hB0 (fun W hA => ?_) ?_; rotate_left; (· (obtain ⟨_, a0, a1, a2, a3⟩ := hA; go_simp; try with_reducible rfl)); (try simp only [Act.put, List.setIfInBounds_toArray, List.set_cons_zero, List.set_cons_succ]))
       (refine uA 4 ?_ rfl hA0 hB0 (fun W hA => ?_) ?_; rotate_left; (· (go_simp; try with_reducible rfl)); refine uA 5 ?_ rfl hA0 hB0 (fun W hA => ?_) ?_; rotate_left; (· (go_simp; try with_reducible rfl)); refine uA 6 ?_ rfl hA0 hB0 (fun W hA => ?_) ?_; rotate_left; (· (go_simp; try with_reducible rfl)); refine uA 7 ?_ rfl hA0 hB0 (fun W hA => ?_) ?_; rotate_left; (· (go_simp; try with_reducible rfl)); (try simp only [Act.put, List.setIfInBounds_toArray, List.set_cons_zero, List.set_cons_succ]))
       refine uOne (i := 8) rfl (by kernel_rfl) (fun K hK => ?_)
       go_simp
       go_at_call 40
       refine HBRK.out.mono ?_
       rintro e wg ⟨rfl, hbe⟩
       have HBG2 := Lib.hid (HBD2.out.trans (hbe.mono HBD2.out.size))
       replace hA0 := HAW.out wg HBG2.out
       clear hbe HBRK
       (refine hK _ _ ⟨hA0, fun _ => hB0⟩ ?_; clear hK K; (try simp only [Act.put, List.setIfInBounds_toArray, List.set_cons_zero, List.set_cons_succ]))
       (refine uA 9 ?_ rfl hA0 hB0 (fun W hA => ?_) ?_; rotate_left; (· (go_simp; try with_reducible rfl)); refine uA 10 ?_ rfl hA0 hB0 (fun W hA => ?_) ?_; rotate_left; (· (go_simp; try with_reducible rfl)); refine uA 11 ?_ rfl hA0 hB0 (fun W hA => ?_) ?_; rotate_left; (· (go_simp; try with_reducible rfl)); (try simp only [Act.put, List.setIfInBounds_toArray, List.set_cons_zero, List.set_cons_succ]))
       refine anyU_done (by kernel_rfl) ?_ _
       clear hA0
       have HBG := Lib.hid (HBR.out.trans (HBG2.out.mono HBR.out.size))
       go_wp2
       go_roundw
       case rel => exact ⟨k + 1, !bk, k, rfl, rfl, by go_num, by omega, Lib.hid (by rw [HSN.out]; rfl), HNN2, HBG⟩
       case measure => simp [intOf]; omega
    ·obtain rfl : k = m + 1 := by omega
     have b1 : ¬ ((m + 1 : Nat) : Int) ≤ (m : Int) := by omega
     obtain rfl : nn = n := HNN.out.symm.trans HNF.out
     rw [HSF.out] at HIN
     have HB9 := Lib.hid (HB.out.trans (HBR.out.mono HB.out.size))
     have HW9 := Lib.hid (HW.out.below HBR.out)
     have HU9 := Lib.hid (HU.out.below HBR.out)
     have n1 : -1 ≤ nn := HNB.out.1
     have n2 : nn < (m : Int) + 1 := by have := HNB.out.2; omega
     clear HB HW HU Vx Vy HSF HNF HBR
     obtain ⟨wx, hwx⟩ : ∃ W : World, W = wr := ⟨_, rfl⟩
     rw [← hwx] at HB9 HW9 HU9 ⊢
     clear hwx
     obtain ⟨k0, hk0⟩ : ∃ k : Nat, nn.toNat = k := ⟨_, rfl⟩
     rw [hk0] at HAR
     go_wp2
     go_loopw [23, 24] (fun s23 s24 wr => ∃ (k : Nat) (r : Bool), s23 = .bool r ∧ s24 = .int .i64 k ∧ k0 ≤ k ∧ k ≤ m ∧ Hid ((decide (0 ≤ nn) && ((ws.drop k0).take (k - k0)).all (fun v => hasB (unE p) v)) = r) ∧ Hid (Below wx.heap.size wx wr)) (fun _ s24 _ => m - (intOf s24).toNat)
     case atStart => exact ⟨k0, decide (0 ≤ nn), by go_num, by go_num, Nat.le_refl _, by omega, Lib.hid (by simp), Lib.hid (Below.refl _ _)⟩
     case round =>
      obtain ⟨k, r, rfl, rfl, hk1, hk2, HR, HBZ⟩ := hrel
      by_cases hkm : k < m
      ·have b2 : (k : Int) < (m : Int) := by omega
       obtain ⟨ad, v, hA, _, hv, hcv⟩ := ((HW9.out.below HBZ.out).rd).at_ (k := k) (by rw [HW9.out.len]; exact hkm)
       subst hA
       obtain ⟨hq, hhq⟩ : ∃ q, hasB (unE p) v = q := ⟨_, rfl⟩
       have HHS := Lib.hid (law_has U cu nu (unE p) v hq wr HU9.out.len ((HU9.out.below HBZ.out).rd) (by have := HU9.out.c1; have := HU9.out.c2; omega) hhq)
       have HRN := Lib.hid (show (decide (0 ≤ nn) && ((ws.drop k0).take (k + 1 - k0)).all (fun v => hasB (unE p) v)) = (r && hq) from by
        rw [show k + 1 - k0 = (k - k0) + 1 by omega, take_snoc' (y := v) (by rw [List.getElem?_drop, show k0 + (k - k0) = k by omega]; exact hv), List.all_append, ← Bool.and_assoc, HR.out]
        simp [hhq])
       clear hv hhq
       cases r with
       | false =>
        go_wp2_with fail
        go_roundw
        case rel => exact ⟨k + 1, false, rfl, by go_num, by omega, by omega, Lib.hid (by rw [HRN.out]; rfl), HBZ⟩
        case measure => simp [intOf]; omega
       | true =>
        go_wp2_with fail
        refine HHS.out.mono ?_
        rintro e wy ⟨rfl, rfl⟩
        go_wp2
        go_roundw
        case rel => exact ⟨k + 1, hq, rfl, by go_num, by omega, by omega, Lib.hid (by rw [HRN.out]; rfl), HBZ⟩
        case measure => simp [intOf]; omega
      ·obtain rfl : k = m := by omega
       have b2 : ¬ (k : Int) < (k : Int) := by omega
       have HRG := Lib.hid (show r = gi from by
        rw [HAR.out, ← HR.out, List.take_of_length_le (by rw [List.length_drop, HW9.out.len]; exact Nat.le_refl _)])
       have HBF := Lib.hid (HB9.out.trans (HBZ.out.mono HB9.out.size))
       obtain rfl := HRG.out
       by_cases hnm : nn = (k : Int)
       ·subst hnm
        have HGS2 := Lib.hid (show gs = b from by rw [HIN.out]; simp)
        obtain rfl := HGS2.out
        go_wp2
        go_ret
        exact ⟨rfl, HBF.out⟩
       ·have HGS2 := Lib.hid (show gs = false from by rw [HIN.out]; simp [hnm])
        obtain rfl := HGS2.out
        go_wp2
        go_ret
        exact ⟨rfl, HBF.out⟩
end Go.Proofs.YtcchnibgehonoaaDoor
