/- Walks: forcing.Preempted, Forced. -/
import Derived.Test.YtioijhpbedmeaaaGreatDoorUt
namespace Go.Proofs.YtioijhpbedmeaaaGreatDoor
open Go.RowKit Go Go.Maps

/-- a list of lists of ints that grows -/
structure LstI (w0 w : World) (lv : Value) (k : Nat) (xs : List SlV) : Prop where
 bel : Below w0.heap.size w0 w
 row : w.ownsRow w0.heap.size 30 1 lv k (xs.map SlV.v)
 len : xs.length = k
 wds : ∀ x ∈ xs, w.ownsRow w0.heap.size 3 1 x.v x.l.length (iv x.l)
theorem LstI.start (w : World) : LstI w w (.slice none 0 0) 0 [] := ⟨Below.refl _ _, World.ownsRow_nil _ _ _ _, rfl, fun x hx => by cases hx⟩
theorem LstI.quiet {w0 w w' : World} {lv : Value} {k : Nat} {xs : List SlV} (h : LstI w0 w lv k xs) (hb : Below w.heap.size w w') : LstI w0 w' lv k xs :=
 ⟨h.bel.trans (hb.mono h.bel.size), own_below h.row hb, h.len, fun x hx => own_below (h.wds x hx) hb⟩
theorem LstI.push {w0 w w' : World} {lv : Value} {k : Nat} {xs : List SlV} (h : LstI w0 w lv k xs) {A : Option Addr} {c : Nat} {x : SlV} (hx : w.ownsRow w0.heap.size 3 1 x.v x.l.length (iv x.l)) (ho : w'.ownsRow w0.heap.size 30 1 (.slice A (k + 1) c) (k + 1) (xs.map SlV.v ++ [x.v])) (hg : w.grownBy w' lv.ownBlock) :
  LstI w0 w' (.slice A (k + 1) c) (k + 1) (xs ++ [x]) := by
 refine ⟨h.bel.grown hg h.bel.size fun j hj => (h.row.lt j hj).1, by simpa using ho, by simp [h.len], fun y hy => ?_⟩
 have hy : y ∈ xs ∨ y = x := by simpa using hy
 rcases hy with hy | rfl
 ·exact own_kept_ne (h.wds y hy) h.row (by decide) hg
 ·exact own_kept_ne hx h.row (by decide) hg
theorem own_cap2 {w : World} {b n c : Nat} {t : TypeId} {A : Option Addr} {vs : List Value} (h : w.ownsRow b t 1 (.slice A n c) n vs) : n ≤ c ∧ c ≤ 9223372036854775807 := cap_of_own h
theorem LstI.rd {w0 w : World} {A : Option Addr} {c k : Nat} {xs : List SlV} (h : LstI w0 w (.slice A k c) k xs) : RdS w w.heap.size A xs :=
 ⟨RdV.of_own h.row, fun x hx => ⟨RdI.of_own (h.wds x hx), (own_cap2 (h.wds x hx)).1, (own_cap2 (h.wds x hx)).2⟩⟩
theorem words_info : (Tryz.prog.info? 30).map (fun i => (i.zero, i.size, i.bytes)) = some (some (.slice none 0 0), 1, 24) := by kernel_rfl

/-- is the tick refused in a state? -/
def preP (P q : Aut) (T : List (List Int)) (tick i : Int) : Bool := hasB (refL P q T i) tick
/-- the states in which the tick is refused -/
def preE (P q : Aut) (T : List (List Int)) (tick : Int) : List Int := (rngI (T.length : Int)).filter (preP P q T tick)
set_option maxRecDepth 100000 in
set_option maxHeartbeats 1600000 in
theorem pre1_ok (c5 b : Nat) (z : SV) (x : AV) (q : Aut) (B : Option Addr) (nb cb : Nat) (T : List (List Int)) (i : Int) (w : World) (hk : Blk w c5 83 [.pointer (some ⟨b, 0, none⟩)]) (h : LpR w b z x B nb cb T) (hP : Prob z.p.a z.s.a q T) (hq : x.a = q) (h0 : 0 ≤ i) (h1 : i < q.st) :
  Calls Tryz.prog 51 #[.int .i64 i, .pointer (some ⟨c5, 0, none⟩)] w fun e w' => e = .returned (.bool (preP z.p.a q T z.tick i)) ∧ Below w.heap.size w w' := by
 have HRF := Lib.hid (fun (W : World) (hb : Below w.heap.size w W) => loop_refused b z x q B nb cb T i W (h.below hb) hP hq h0 h1)
 have HLN := Lib.hid (show (refL z.p.a q T i).length ≤ 32 from Nat.le_trans (List.length_filter_le _ _) hP.wp.al_le)
 have HIN := Lib.hid (show Inc (refL z.p.a q T i) from inc_flt hP.wp.inc _)
 have HC := Lib.hid (fun (W : World) (hb : Below w.heap.size w W) => (show W.cell? ⟨c5, 0, none⟩ = some (.pointer (some ⟨b, 0, none⟩)) ∧ W.cell? ⟨b, 10, none⟩ = some (.int .i64 z.tick) from
  ⟨(hk.below hb hk.lt).cell (j := 0) rfl, (h.below hb).c 10 _ rfl⟩))
 unfold preP
 obtain ⟨L, hL⟩ : ∃ L, refL z.p.a q T i = L := ⟨_, rfl⟩
 rw [hL] at HRF HLN HIN ⊢
 obtain ⟨tick, ht⟩ : ∃ t, z.tick = t := ⟨_, rfl⟩
 rw [ht] at HC ⊢
 clear h hk hP hq hL ht
 go_enter Tryz.func51, Tryz.ntmps51
 go_upto_region 1 with fail
 refine wp_region_U (fun W => W.cell? ⟨c5, 0, none⟩ = some (.pointer (some ⟨b, 0, none⟩)) ∧ W.cell? ⟨b, 10, none⟩ = some (.int .i64 tick)) (fun _ => True) 9 (by kernel_rfl) ?_
 change anyU _ _ _ _ _ _ _ 10 _ _ _
 have hB0 : True := trivial
 have hbd := below_dr w
 generalize w.drew = wd at hbd ⊢
 have hA0 := HC.out wd hbd
 (refine uA 0 ?_ rfl hA0 hB0 (fun W hA => ?_) ?_; rotate_left; (· (go_simp; try with_reducible rfl)); refine uA 1 ?_ rfl hA0 hB0 (fun W hA => ?_) ?_; rotate_left; (· (go_simp; try with_reducible rfl)); refine uA 3 ?_ rfl hA0 hB0 (fun W hA => ?_) ?_; rotate_left; (· (go_simp; try with_reducible rfl)); refine uA 4 ?_ rfl hA0 hB0 (fun W hA => ?_) ?_; rotate_left; (· (go_simp; try with_reducible rfl)); refine uA 5 ?_ rfl hA0 hB0 (fun W hA => ?_) ?_; rotate_left; (· (go_simp; try with_reducible rfl)); refine uA 6 ?_ rfl hA0 hB0 (fun W hA => ?_) ?_; rotate_left; (· (go_simp; try with_reducible rfl)); refine uA 7 ?_ rfl hA0 hB0 (fun W hA => ?_) ?_; rotate_left; (· (go_simp; try with_reducible rfl)); (try simp only [Act.put, List.setIfInBounds_toArray, List.set_cons_zero, List.set_cons_succ]))
 refine uOne (i := 2) rfl (by kernel_rfl) (fun K hK => ?_)
 go_simp
 go_at_call 53
 refine (HRF.out wd hbd).mono ?_
 rintro e w5 ⟨v, rfl, ho, hb5⟩
 have HB5 := Lib.hid (hbd.trans (hb5.mono hbd.size))
 have hA5 := HC.out w5 HB5.out
 obtain ⟨V5, c5', rfl, p1, p2, r5⟩ := own_slI ho
 have HCT := Lib.hid (alphabet_Contains_n V5 c5' L.length L tick _ w5 rfl rfl r5 (by have := HLN.out; omega) HIN.out)
 clear hA0 hb5 ho hbd r5 p1 p2
 (refine hK _ _ ⟨hA5, fun _ => hB0⟩ ?_; clear hK K; (try simp only [Act.put, List.setIfInBounds_toArray, List.set_cons_zero, List.set_cons_succ]))
 refine uOne (i := 8) rfl (by kernel_rfl) (fun K hK => ?_)
 go_simp
 go_at_call 52
 refine HCT.out.mono ?_
 rintro e w6 ⟨rfl, rfl⟩
 (refine hK _ _ ⟨hA5, fun _ => hB0⟩ ?_; clear hK K; (try simp only [Act.put, List.setIfInBounds_toArray, List.set_cons_zero, List.set_cons_succ]))
 refine uOne (i := 9) rfl (by kernel_rfl) (fun K hK => ?_)
 go_simp
 (refine hK _ _ ⟨hA5, fun h => absurd (h.symm.trans (by kernel_rfl : _ = true)) Bool.false_ne_true⟩ ?_; clear hK K; (try simp only [Act.put, List.setIfInBounds_toArray, List.set_cons_zero, List.set_cons_succ]))
 refine anyU_done (by kernel_rfl) ?_ _
 clear hA5
 go_wp2
 go_ret
 exact ⟨rfl, HB5.out⟩
set_option maxRecDepth 100000 in
set_option maxHeartbeats 3200000 in
theorem preempted_ok (z : SV) (q : Aut) (T : List (List Int)) (w : World) (h : z.ok w w.heap.size) (hP : Prob z.p.a z.s.a q T) (hc : chkF z.p.a z.s.a z.u z.f z.tick = 0) :
  Calls Tryz.prog 20 #[.agg (svc z).toArray] w (RetOE 3 (preE z.p.a q T z.tick) w) := by
 have hU : True := trivial
 have hF : True := trivial
 obtain ⟨⟨A, na, ca, M, nm, cm, E, ne, ce, P⟩, ⟨A', na', ca', M', nm', cm', E', ne', ce', S⟩, U, nu, cu, u, F, nf, cf, f, tick⟩ := z
 dsimp only at hc hP hU hF
 obtain ⟨sp, hsp⟩ : ∃ s, P.st = s := ⟨_, rfl⟩
 obtain ⟨ss, hss⟩ : ∃ s, S.st = s := ⟨_, rfl⟩
 have hb1 := box_below w (.cells #[.slice A na ca, .int .i64 P.st, .slice M nm cm, .slice E ne ce, .slice A' na' ca', .int .i64 S.st, .slice M' nm' cm', .slice E' ne' ce', .slice U nu cu, .slice F nf cf, .int .i64 tick] 35)
 obtain ⟨w1, hw9⟩ : ∃ w1, w1 = w.alloc (.cells #[.slice A na ca, .int .i64 P.st, .slice M nm cm, .slice E ne ce, .slice A' na' ca', .int .i64 S.st, .slice M' nm' cm', .slice E' ne' ce', .slice U nu cu, .slice F nf cf, .int .i64 tick] 35) := ⟨_, rfl⟩
 have kx : Blk w1 w.heap.size 35 [.slice A na ca, .int .i64 P.st, .slice M nm cm, .slice E ne ce, .slice A' na' ca', .int .i64 S.st, .slice M' nm' cm', .slice E' ne' ce', .slice U nu cu, .slice F nf cf, .int .i64 tick] := by rw [hw9]; exact Blk.new _ _ [_, _, _, _, _, _, _, _, _, _, _]
 have sz1 : w1.heap.size = w.heap.size + 1 := by rw [hw9]; simp
 rw [← hw9] at hb1
 have HG0 := Lib.hid (fun (W : World) (hb : Below w1.heap.size w1 W) => (show C11 W w.heap.size [.slice A na ca, .int .i64 P.st, .slice M nm cm, .slice E ne ce, .slice A' na' ca', .int .i64 S.st, .slice M' nm' cm', .slice E' ne' ce', .slice U nu cu, .slice F nf cf, .int .i64 tick] from fun j u hj => (kx.below hb kx.lt).cell hj))
 have HOK := Lib.hid (fun (W : World) (hb : Below w1.heap.size w1 W) => (h.below (hb1.trans (hb.mono hb1.size))).more (hb1.trans (hb.mono hb1.size)).size)
 have HCK := Lib.hid (open_ok ⟨⟨A, na, ca, M, nm, cm, E, ne, ce, P⟩, ⟨A', na', ca', M', nm', cm', E', ne', ce', S⟩, U, nu, cu, u, F, nf, cf, f, tick⟩ q T w1 (HOK.out w1 (Below.refl _ _)) hP hc)
 unfold svc at HCK ⊢
 dsimp only at HCK ⊢
 rw [hsp] at hw9 HG0 HCK ⊢
 rw [hss] at hw9 HG0 HCK ⊢
 skip
 have HW9 := Lib.hid hw9; clear hw9
 have HB1 := Lib.hid hb1; clear hb1
 have SZ1 := Lib.hid sz1; clear sz1
 have lx := kx.lt
 clear h kx hsp hss
 have HBD := Lib.hid (fun (W : World) (hb : Below w1.heap.size w1 W) => HB1.out.trans (hb.mono HB1.out.size))
 have HS0 := Lib.hid (Below.refl w1.heap.size w1)
 go_enter Tryz.func20, Tryz.ntmps20
 go_upto_region 1 with fail
 rw [← HW9.out]
 have a0 := HG0.out w1 HS0.out 0 _ rfl
 have a1 := HG0.out w1 HS0.out 1 _ rfl
 have a2 := HG0.out w1 HS0.out 2 _ rfl
 have a3 := HG0.out w1 HS0.out 3 _ rfl
 have a4 := HG0.out w1 HS0.out 4 _ rfl
 have a5 := HG0.out w1 HS0.out 5 _ rfl
 have a6 := HG0.out w1 HS0.out 6 _ rfl
 have a7 := HG0.out w1 HS0.out 7 _ rfl
 have a8 := HG0.out w1 HS0.out 8 _ rfl
 have a9 := HG0.out w1 HS0.out 9 _ rfl
 have a10 := HG0.out w1 HS0.out 10 _ rfl
 go_wp2_with fail
 clear a0 a1 a2 a3 a4 a5 a6 a7 a8 a9 a10
 refine HCK.out.mono ?_
 rintro e w2 ⟨b, ⟨A2, na2, ca2, M2, nm2, cm2, E2, ne2, ce2, q'⟩, B2, nb2, cb2, rfl, hb0, hq, hl, hB2⟩
 dsimp only at hq
 obtain rfl := hq
 clear HCK
 have hb3 := box_below w2 (.cells #[.pointer (some ⟨b, 0, none⟩)] 83)
 have hB3 := hB2.trans (hb3.mono hB2.size)
 have k5 : Blk (w2.alloc (.cells #[.pointer (some ⟨b, 0, none⟩)] 83)) w2.heap.size 83 [.pointer (some ⟨b, 0, none⟩)] := Blk.new _ _ [_]
 have hl3 := hl.below hb3
 go_upto_region 2 with fail
 generalize w2.alloc (.cells #[.pointer (some ⟨b, 0, none⟩)] 83) = w3 at hB3 k5 hl3 ⊢
 generalize w2.heap.size = c5 at k5 ⊢
 clear hb3 hB2 hb0 hl HG0 HOK
 have hT := hP.tups.1
 obtain ⟨n, hn⟩ : ∃ n, T.length = n := ⟨_, rfl⟩
 rw [hn] at hT
 have HN := Lib.hid hn
 have hn4 : n ≤ 4096 := by have := hP.len; omega
 have HST := Lib.hid (loop_states b 51 n (.pointer (some ⟨c5, 0, none⟩)) (preP P q' T tick) _ _ B2 nb2 cb2 T w3 hl3 hT hn4 (fun _ _ => rfl)
  (fun i W hi hb => pre1_ok c5 b _ _ q' B2 nb2 cb2 T (i : Int) W (k5.below hb k5.lt) (hl3.below hb) hP rfl (by omega) (by rw [hT]; omega)))
 have c5c := k5.cell (j := 0) rfl
 have HB3 := Lib.hid (HBD.out _ hB3)
 clear k5 hl3 hc hP hT hB3 hn
 go_wp2_with fail
 refine HST.out.mono ?_
 rintro e w4 ⟨v1, v2, rfl, ho1, ho2, hb4⟩
 have HB4 := Lib.hid (HB3.out.trans (hb4.mono HB3.out.size))
 have HO := Lib.hid (own_base ho1 HB3.out.size)
 obtain ⟨V1, c1, rfl⟩ := own_shape ho1
 clear HST hb4 c5c ho1 ho2
 go_wp2
 go_ret2
 show RetOE 3 (preE P q' T tick) _ _ _
 unfold preE
 rw [HN.out]
 exact ⟨_, rfl, HO.out, HB4.out⟩
/-- what Forced returns -/
def RetLL (ls : List (List Int)) (w : World) (e : Ending) (w' : World) : Prop :=
 ∃ (A : Option Addr) (c : Nat) (xs : List SlV), e = .returned (.tuple #[.slice A ls.length c, .int .i64 0]) ∧ xs.map SlV.l = ls ∧ RdS w' w'.heap.size A xs ∧ ls.length ≤ c ∧ c ≤ 9223372036854775807 ∧ Below w.heap.size w w'
set_option maxRecDepth 100000 in
set_option maxHeartbeats 3200000 in
theorem forced_ok (z : SV) (q : Aut) (T : List (List Int)) (w : World) (h : z.ok w w.heap.size) (hP : Prob z.p.a z.s.a q T) (hc : chkF z.p.a z.s.a z.u z.f z.tick = 0) (hF : subE z.f z.p.a.al = 0) :
  Calls Tryz.prog 21 #[.agg (svc z).toArray] w (RetLL ((preE z.p.a q T z.tick).map (frcE q z.f)) w) := by
 have hU : True := trivial
 obtain ⟨⟨A, na, ca, M, nm, cm, E, ne, ce, P⟩, ⟨A', na', ca', M', nm', cm', E', ne', ce', S⟩, U, nu, cu, u, F, nf, cf, f, tick⟩ := z
 dsimp only at hc hP hU hF
 obtain ⟨sp, hsp⟩ : ∃ s, P.st = s := ⟨_, rfl⟩
 obtain ⟨ss, hss⟩ : ∃ s, S.st = s := ⟨_, rfl⟩
 have hb1 := box_below w (.cells #[.slice A na ca, .int .i64 P.st, .slice M nm cm, .slice E ne ce, .slice A' na' ca', .int .i64 S.st, .slice M' nm' cm', .slice E' ne' ce', .slice U nu cu, .slice F nf cf, .int .i64 tick] 35)
 obtain ⟨w1, hw9⟩ : ∃ w1, w1 = w.alloc (.cells #[.slice A na ca, .int .i64 P.st, .slice M nm cm, .slice E ne ce, .slice A' na' ca', .int .i64 S.st, .slice M' nm' cm', .slice E' ne' ce', .slice U nu cu, .slice F nf cf, .int .i64 tick] 35) := ⟨_, rfl⟩
 have kx : Blk w1 w.heap.size 35 [.slice A na ca, .int .i64 P.st, .slice M nm cm, .slice E ne ce, .slice A' na' ca', .int .i64 S.st, .slice M' nm' cm', .slice E' ne' ce', .slice U nu cu, .slice F nf cf, .int .i64 tick] := by rw [hw9]; exact Blk.new _ _ [_, _, _, _, _, _, _, _, _, _, _]
 have sz1 : w1.heap.size = w.heap.size + 1 := by rw [hw9]; simp
 rw [← hw9] at hb1
 have HG0 := Lib.hid (fun (W : World) (hb : Below w1.heap.size w1 W) => (show C11 W w.heap.size [.slice A na ca, .int .i64 P.st, .slice M nm cm, .slice E ne ce, .slice A' na' ca', .int .i64 S.st, .slice M' nm' cm', .slice E' ne' ce', .slice U nu cu, .slice F nf cf, .int .i64 tick] from fun j u hj => (kx.below hb kx.lt).cell hj))
 have HOK := Lib.hid (fun (W : World) (hb : Below w1.heap.size w1 W) => (h.below (hb1.trans (hb.mono hb1.size))).more (hb1.trans (hb.mono hb1.size)).size)
 have HCK := Lib.hid (preempted_ok ⟨⟨A, na, ca, M, nm, cm, E, ne, ce, P⟩, ⟨A', na', ca', M', nm', cm', E', ne', ce', S⟩, U, nu, cu, u, F, nf, cf, f, tick⟩ q T w1 (HOK.out w1 (Below.refl _ _)) hP hc)
 unfold svc at HCK ⊢
 dsimp only at HCK ⊢
 rw [hsp] at hw9 HG0 HCK ⊢
 rw [hss] at hw9 HG0 HCK ⊢
 (have HOP:=Lib.hid (fun (W:World) (hb:Below w1.heap.size w1 W)=>open_ok ⟨⟨A, na, ca, M, nm, cm, E, ne, ce, P⟩, ⟨A', na', ca', M', nm', cm', E', ne', ce', S⟩, U, nu, cu, u, F, nf, cf, f, tick⟩ q T W (HOK.out W hb) hP hc); unfold svc at HOP; dsimp only at HOP; rw [hsp] at HOP; rw [hss] at HOP)
 have HW9 := Lib.hid hw9; clear hw9
 have HB1 := Lib.hid hb1; clear hb1
 have SZ1 := Lib.hid sz1; clear sz1
 have lx := kx.lt
 clear h kx hsp hss
 have HBD := Lib.hid (fun (W : World) (hb : Below w1.heap.size w1 W) => HB1.out.trans (hb.mono HB1.out.size))
 have HS0 := Lib.hid (Below.refl w1.heap.size w1)
 go_enter Tryz.func21, Tryz.ntmps21
 go_upto_region 1 with fail
 rw [← HW9.out]
 have a0 := HG0.out w1 HS0.out 0 _ rfl
 have a1 := HG0.out w1 HS0.out 1 _ rfl
 have a2 := HG0.out w1 HS0.out 2 _ rfl
 have a3 := HG0.out w1 HS0.out 3 _ rfl
 have a4 := HG0.out w1 HS0.out 4 _ rfl
 have a5 := HG0.out w1 HS0.out 5 _ rfl
 have a6 := HG0.out w1 HS0.out 6 _ rfl
 have a7 := HG0.out w1 HS0.out 7 _ rfl
 have a8 := HG0.out w1 HS0.out 8 _ rfl
 have a9 := HG0.out w1 HS0.out 9 _ rfl
 have a10 := HG0.out w1 HS0.out 10 _ rfl
 go_wp2_with fail
 clear a0 a1 a2 a3 a4 a5 a6 a7 a8 a9 a10
 refine HCK.out.mono ?_
 rintro e w2 ⟨v2, rfl, ho2, hB2⟩
 clear HCK
 dsimp only at ho2 ⊢
 obtain ⟨pl, hpl⟩ : ∃ l, preE P q T tick = l := ⟨_, rfl⟩
 have HPL := Lib.hid hpl
 have HRG := Lib.hid (show ∀ i ∈ pl, 0 ≤ i ∧ i < q.st from fun i hi => by
  rw [← hpl] at hi
  have := rngI_mem.1 (List.mem_filter.1 hi).1
  rw [hP.tups.1]; exact this)
 have HLE := Lib.hid (show pl.length ≤ 4096 from by
  rw [← hpl]
  refine Nat.le_trans (List.length_filter_le _ _) ?_
  rw [rngI_len, Int.toNat_natCast]
  have := hP.len; omega)
 rw [hpl] at ho2
 clear hpl
 obtain ⟨n, hn⟩ : ∃ n, pl.length = n := ⟨_, rfl⟩
 rw [hn] at ho2 HLE
 obtain ⟨V2, c2, rfl⟩ := own_shape ho2
 have HO2 := Lib.hid (fun (W : World) (hb : Below w2.heap.size w2 W) => RdI.of_own (own_below ho2 hb))
 have HN := Lib.hid hn
 have HPR := Lib.hid (And.intro hP hF)
 have HB2 := Lib.hid hB2
 clear ho2 hB2 hn hP hF hc
 have a0 := HG0.out w2 HB2.out 0 _ rfl
 have a1 := HG0.out w2 HB2.out 1 _ rfl
 have a2 := HG0.out w2 HB2.out 2 _ rfl
 have a3 := HG0.out w2 HB2.out 3 _ rfl
 have a4 := HG0.out w2 HB2.out 4 _ rfl
 have a5 := HG0.out w2 HB2.out 5 _ rfl
 have a6 := HG0.out w2 HB2.out 6 _ rfl
 have a7 := HG0.out w2 HB2.out 7 _ rfl
 have a8 := HG0.out w2 HB2.out 8 _ rfl
 have a9 := HG0.out w2 HB2.out 9 _ rfl
 have a10 := HG0.out w2 HB2.out 10 _ rfl
 go_wp2_with fail
 clear a0 a1 a2 a3 a4 a5 a6 a7 a8 a9 a10
 refine (HOP.out w2 HB2.out).mono ?_
 rintro e w3 ⟨b, ⟨A2, na2, ca2, M2, nm2, cm2, E2, ne2, ce2, q'⟩, B2, nb2, cb2, rfl, hb0, hq, hl, hB3⟩
 dsimp only at hq
 obtain rfl := hq
 have HL := Lib.hid (fun (W : World) (hb : Below w3.heap.size w3 W) => hl.below hb)
 have HB3 := Lib.hid (HBD.out _ (HB2.out.trans (hB3.mono HB2.out.size)))
 have HR := Lib.hid (fun (W : World) (hb : Below w3.heap.size w3 W) => (HO2.out W (hB3.trans (hb.mono hB3.size))))
 have HL0 := Lib.hid (LstI.start w3)
 clear hl hb0 hB3 HOP HOK HG0 HS0
 go_wp2
 go_loopw [8, 10, 26] (fun s8 s10 s26 wr => ∃ (k : Nat) (A5 : Option Addr) (c5 : Nat) (v10 : Value) (xs : List SlV), s8 = .slice A5 k c5 ∧ s10 = v10 ∧ s26 = .int .i64 k ∧ k ≤ n ∧ Hid (LstI w3 wr (.slice A5 k c5) k xs) ∧ Hid (xs.map SlV.l = (pl.take k).map (frcE q' f))) (fun _ _ s26 _ => n - (intOf s26).toNat)
 case atStart => exact ⟨0, none, 0, _, [], rfl, rfl, rfl, Nat.zero_le _, HL0, Lib.hid rfl⟩
 case round =>
  clear HL0
  obtain ⟨k, A5, c5, v10, xs, rfl, rfl, rfl, hk, HLI, HXS⟩ := hrel
  by_cases hlt : k < n
  ·have b1 : (k : Int) < (n : Int) := by omega
   obtain ⟨ad, i, rfl, hbb, hi, hcell⟩ := (HR.out wr HLI.out.bel).at_ (k := k) (by have := HN.out; omega)
   have hir := HRG.out i (List.mem_of_getElem? hi)
   have HFC := Lib.hid (loop_forced b _ _ q' B2 nb2 cb2 T i wr (HL.out wr HLI.out.bel) HPR.out.1 rfl HPR.out.2 hir.1 hir.2)
   have HI := Lib.hid hi
   clear hi hir hbb
   go_wp2_with fail
   refine HFC.out.mono ?_
   rintro e w6 ⟨v6, rfl, ho6, hb6⟩
   obtain ⟨V6, c6, rfl⟩ := own_shape ho6
   have HL6 := Lib.hid (HLI.out.quiet hb6)
   have HO6 := Lib.hid (own_base (base := w3.heap.size) ho6 HLI.out.bel.size)
   have hsz6 : w3.heap.size ≤ w6.heap.size := HL6.out.bel.size
   have hn4 : n ≤ 4096 := HLE.out
   clear ho6 hb6 HFC hcell HLI
   obtain ⟨fl, hfl⟩ : ∃ l, frcE q' f i = l := ⟨_, rfl⟩
   rw [hfl] at HO6 ⊢
   obtain ⟨nl, hnl⟩ : ∃ l, fl.length = l := ⟨_, rfl⟩
   rw [hnl] at HO6 ⊢
   have HSV := Lib.hid (show SlV.v ⟨V6, c6, fl⟩ = .slice V6 nl c6 by unfold SlV.v; rw [hnl])
   have HFL := Lib.hid hfl
   have HNL := Lib.hid hnl
   clear hfl hnl
   go_wp2_with (at_builtin; refine wpList_pushA w6 [.slice V6 nl c6] rfl (.tmp 30) (.tmp 34) 52 rfl w3.heap.size 30 (.slice none 0 0) 1 24 Tryz.underlying52 words_info rfl (by decide) rfl (.slice A5 k c5) k _ rfl HL6.out.row rfl (fun q hq => by simp at hq; subst hq; rfl) (by omega) (by omega) hsz6 ?_; intro A8 c8 w8 ho8 hg8 hl8; have HL8 := Lib.hid (HL6.out.push (x := ⟨V6, c6, fl⟩) (by rw [HSV.out, HNL.out]; exact HO6.out) (by rw [HSV.out]; exact ho8) hg8))
   clear ho8 hg8 hl8 HO6 HL6
   have HX8 := Lib.hid (show (xs ++ [(⟨V6, c6, fl⟩ : SlV)]).map SlV.l = (pl.take (k + 1)).map (frcE q' f) from by
    rw [List.map_append, HXS.out, take_snoc' HI.out, List.map_append]
    show _ ++ [fl] = _ ++ [frcE q' f i]
    rw [HFL.out])
   go_roundw
   case rel => exact ⟨k + 1, A8, c8, _, _, rfl, rfl, by go_num, by omega, HL8, HX8⟩
   case measure => simp [intOf]; omega
  ·obtain rfl : k = n := by omega
   have b1 : ¬ (k : Int) < (k : Int) := by omega
   have HXF := Lib.hid (show xs.map SlV.l = pl.map (frcE q' f) from by rw [HXS.out, List.take_of_length_le (by rw [HN.out]; exact Nat.le_refl _)])
   go_wp2
   go_ret2
   show RetLL ((preE P q' T tick).map (frcE q' f)) _ _ _
   rw [HPL.out]
   refine ⟨A5, c5, xs, ?_, HXF.out, HLI.out.rd, ?_, (own_cap2 HLI.out.row).2, HB3.out.trans (HLI.out.bel.mono HB3.out.size)⟩
   ·show Ending.returned (.tuple #[.slice A5 k c5, .int .i64 0]) = _
    rw [List.length_map, HN.out]
   ·rw [List.length_map, HN.out]; exact (own_cap2 HLI.out.row).1
end Go.Proofs.YtioijhpbedmeaaaGreatDoor
