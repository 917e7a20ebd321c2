/- Walks: forcing.open; the closed loop in memory. -/
import Derived.Test.YtioijhpbedmeaaaGreatDoorUm
namespace Go.Proofs.YtioijhpbedmeaaaGreatDoor
open Go.RowKit Go Go.Maps

/-- a closed loop in memory -/
structure LpR (w : World) (b : Nat) (z : SV) (x : AV) (B : Option Addr) (nb cb : Nat) (T : List (List Int)) : Prop where
 blk : Blk w b 92 (svc z ++ [.slice x.A x.na x.ca, .int .i64 x.a.st, .slice x.M x.nm x.cm, .slice x.E x.ne x.ce, .slice B nb cb])
 zo : z.ok w w.heap.size
 xo : x.ok w w.heap.size
 ps : RdR 2 iv w w.heap.size B T
 tl : T.length = nb
 tc : nb ≤ cb
 td : cb ≤ 9223372036854775807
theorem LpR.below {w w' : World} {b : Nat} {z : SV} {x : AV} {B : Option Addr} {nb cb : Nat} {T : List (List Int)} (h : LpR w b z x B nb cb T) (hb : Below w.heap.size w w') : LpR w' b z x B nb cb T :=
 ⟨h.blk.below hb h.blk.lt, (h.zo.below hb).more hb.size, AutR.more (AutR.below h.xo hb) hb.size, (h.ps.below hb).more hb.size, h.tl, h.tc, h.td⟩
theorem LpR.c {w : World} {b : Nat} {z : SV} {x : AV} {B : Option Addr} {nb cb : Nat} {T : List (List Int)} (h : LpR w b z x B nb cb T) : C11 w b (svc z ++ [.slice x.A x.na x.ca, .int .i64 x.a.st, .slice x.M x.nm x.cm, .slice x.E x.ne x.ce, .slice B nb cb]) := fun _ _ hj => h.blk.cell hj
/-- what open returns -/
def RetOpen (z : SV) (p : Aut) (T : List (List Int)) (w : World) (e : Ending) (w' : World) : Prop :=
 ∃ (b : Nat) (x : AV) (B : Option Addr) (nb cb : Nat), e = .returned (.tuple #[.pointer (some ⟨b, 0, none⟩), .int .i64 0]) ∧ w.heap.size ≤ b ∧ x.a = p ∧ LpR w' b z x B nb cb T ∧ Below w.heap.size w w'
set_option maxRecDepth 100000 in
set_option maxHeartbeats 3200000 in
theorem open_ok (z : SV) (p : Aut) (T : List (List Int)) (w : World) (h : z.ok w w.heap.size) (hP : Prob z.p.a z.s.a p T) (hc : chkF z.p.a z.s.a z.u z.f z.tick = 0) :
  Calls Tryz.prog 42 #[.agg (svc z).toArray] w (RetOpen z p T w) := by
 obtain ⟨⟨A, na, ca, M, nm, cm, E, ne, ce, P⟩, ⟨A', na', ca', M', nm', cm', E', ne', ce', S⟩, U, nu, cu, u, F, nf, cf, f, tick⟩ := z
 dsimp only at hc hP
 obtain ⟨sp, hsp⟩ : ∃ s, P.st = s := ⟨_, rfl⟩
 obtain ⟨ss, hss⟩ : ∃ s, S.st = s := ⟨_, rfl⟩
 have hb1 := box_below w (.cells #[.slice A na ca, .int .i64 P.st, .slice M nm cm, .slice E ne ce, .slice A' na' ca', .int .i64 S.st, .slice M' nm' cm', .slice E' ne' ce', .slice U nu cu, .slice F nf cf, .int .i64 tick] 35)
 obtain ⟨w1, hw9⟩ : ∃ w1, w1 = w.alloc (.cells #[.slice A na ca, .int .i64 P.st, .slice M nm cm, .slice E ne ce, .slice A' na' ca', .int .i64 S.st, .slice M' nm' cm', .slice E' ne' ce', .slice U nu cu, .slice F nf cf, .int .i64 tick] 35) := ⟨_, rfl⟩
 have kx : Blk w1 w.heap.size 35 [.slice A na ca, .int .i64 P.st, .slice M nm cm, .slice E ne ce, .slice A' na' ca', .int .i64 S.st, .slice M' nm' cm', .slice E' ne' ce', .slice U nu cu, .slice F nf cf, .int .i64 tick] := by rw [hw9]; exact Blk.new _ _ [_, _, _, _, _, _, _, _, _, _, _]
 have sz1 : w1.heap.size = w.heap.size + 1 := by rw [hw9]; simp
 rw [← hw9] at hb1
 have HG0 := Lib.hid (fun (W : World) (hb : Below w1.heap.size w1 W) => (show C11 W w.heap.size [.slice A na ca, .int .i64 P.st, .slice M nm cm, .slice E ne ce, .slice A' na' ca', .int .i64 S.st, .slice M' nm' cm', .slice E' ne' ce', .slice U nu cu, .slice F nf cf, .int .i64 tick] from fun j u hj => (kx.below hb kx.lt).cell hj))
 have HOK := Lib.hid (fun (W : World) (hb : Below w1.heap.size w1 W) => (h.below (hb1.trans (hb.mono hb1.size))).more (hb1.trans (hb.mono hb1.size)).size)
 have HCK := Lib.hid (loop_ok ⟨⟨A, na, ca, M, nm, cm, E, ne, ce, P⟩, ⟨A', na', ca', M', nm', cm', E', ne', ce', S⟩, U, nu, cu, u, F, nf, cf, f, tick⟩ p T w1 (HOK.out w1 (Below.refl _ _)) hP hc)
 unfold svc at HCK ⊢
 dsimp only at HCK ⊢
 rw [hsp] at hw9 HG0 HCK ⊢
 rw [hss] at hw9 HG0 HCK ⊢
 have HW9 := Lib.hid hw9; clear hw9
 have HB1 := Lib.hid hb1; clear hb1
 have HSP := Lib.hid hsp; clear hsp
 have HSS := Lib.hid hss; clear hss
 have SZ1 := Lib.hid sz1; clear sz1
 have lx := kx.lt
 clear h kx
 have HBD := Lib.hid (fun (W : World) (hb : Below w1.heap.size w1 W) => HB1.out.trans (hb.mono HB1.out.size))
 have HS0 := Lib.hid (Below.refl w1.heap.size w1)
 go_enter Tryz.func42, Tryz.ntmps42
 go_upto_region 1 with fail
 rw [← HW9.out]
 have a0 := HG0.out w1 HS0.out 0 _ rfl
 have a1 := HG0.out w1 HS0.out 1 _ rfl
 have a2 := HG0.out w1 HS0.out 2 _ rfl
 have a3 := HG0.out w1 HS0.out 3 _ rfl
 have a4 := HG0.out w1 HS0.out 4 _ rfl
 have a5 := HG0.out w1 HS0.out 5 _ rfl
 have a6 := HG0.out w1 HS0.out 6 _ rfl
 have a7 := HG0.out w1 HS0.out 7 _ rfl
 have a8 := HG0.out w1 HS0.out 8 _ rfl
 have a9 := HG0.out w1 HS0.out 9 _ rfl
 have a10 := HG0.out w1 HS0.out 10 _ rfl
 go_wp2_with fail
 clear a0 a1 a2 a3 a4 a5 a6 a7 a8 a9 a10
 refine HCK.out.mono ?_
 rintro e w2 ⟨⟨A2, na2, ca2, M2, nm2, cm2, E2, ne2, ce2, p2⟩, B2, nb2, cb2, rfl, hp2, hx2, hT2, tl2, tc2, td2, hB2⟩
 dsimp only at hp2 ⊢
 subst hp2
 clear HCK
 obtain ⟨s2, hs2⟩ : ∃ s, p2.st = s := ⟨_, rfl⟩
 rw [hs2]
 have HS2 := Lib.hid hs2; clear hs2
 have HX2 := Lib.hid hx2; clear hx2
 have HT2 := Lib.hid hT2; clear hT2
 have hBF := box_below w2 (.cells #[.slice A2 na2 ca2, .int .i64 s2, .slice M2 nm2 cm2, .slice E2 ne2 ce2] 33)
 have kz : Blk (w2.alloc (.cells #[.slice A2 na2 ca2, .int .i64 s2, .slice M2 nm2 cm2, .slice E2 ne2 ce2] 33)) w2.heap.size 33 [.slice A2 na2 ca2, .int .i64 s2, .slice M2 nm2 cm2, .slice E2 ne2 ce2] := Blk.new _ _ [_, _, _, _]
 go_upto_region 2 with fail
 generalize w2.alloc (.cells #[.slice A2 na2 ca2, .int .i64 s2, .slice M2 nm2 cm2, .slice E2 ne2 ce2] 33) = wz at kz hBF ⊢
 have z0 := kz.cell (j := 0) rfl
 have z1 := kz.cell (j := 1) rfl
 have z2 := kz.cell (j := 2) rfl
 have z3 := kz.cell (j := 3) rfl
 clear kz
 have HBF := Lib.hid hBF; clear hBF
 have HBZ := Lib.hid (hB2.trans (HBF.out.mono hB2.size))
 clear hB2
 have a0 := HG0.out wz HBZ.out 0 _ rfl
 have a1 := HG0.out wz HBZ.out 1 _ rfl
 have a2 := HG0.out wz HBZ.out 2 _ rfl
 have a3 := HG0.out wz HBZ.out 3 _ rfl
 have a4 := HG0.out wz HBZ.out 4 _ rfl
 have a5 := HG0.out wz HBZ.out 5 _ rfl
 have a6 := HG0.out wz HBZ.out 6 _ rfl
 have a7 := HG0.out wz HBZ.out 7 _ rfl
 have a8 := HG0.out wz HBZ.out 8 _ rfl
 have a9 := HG0.out wz HBZ.out 9 _ rfl
 have a10 := HG0.out wz HBZ.out 10 _ rfl
 go_wp2
 refine bodyPost_ret (v := .tuple #[.pointer (some ⟨wz.heap.size, 0, none⟩), .int .i64 0]) (by simp [results, Tryz.results42, go_sem]) rfl ?_
 have hbe := box_below wz (.cells #[.slice A na ca, .int .i64 sp, .slice M nm cm, .slice E ne ce, .slice A' na' ca', .int .i64 ss, .slice M' nm' cm', .slice E' ne' ce', .slice U nu cu, .slice F nf cf, .int .i64 tick, .slice A2 na2 ca2, .int .i64 s2, .slice M2 nm2 cm2, .slice E2 ne2 ce2, .slice B2 nb2 cb2] 92)
 have hbt := HBF.out.trans (hbe.mono HBF.out.size)
 have hbu := HBZ.out.trans (hbe.mono HBZ.out.size)
 have hbl : Blk (wz.alloc (.cells #[.slice A na ca, .int .i64 sp, .slice M nm cm, .slice E ne ce, .slice A' na' ca', .int .i64 ss, .slice M' nm' cm', .slice E' ne' ce', .slice U nu cu, .slice F nf cf, .int .i64 tick, .slice A2 na2 ca2, .int .i64 s2, .slice M2 nm2 cm2, .slice E2 ne2 ce2, .slice B2 nb2 cb2] 92)) wz.heap.size 92 [.slice A na ca, .int .i64 sp, .slice M nm cm, .slice E ne ce, .slice A' na' ca', .int .i64 ss, .slice M' nm' cm', .slice E' ne' ce', .slice U nu cu, .slice F nf cf, .int .i64 tick, .slice A2 na2 ca2, .int .i64 s2, .slice M2 nm2 cm2, .slice E2 ne2 ce2, .slice B2 nb2 cb2] := Blk.new _ _ [_, _, _, _, _, _, _, _, _, _, _, _, _, _, _, _]
 refine ⟨wz.heap.size, ⟨A2, na2, ca2, M2, nm2, cm2, E2, ne2, ce2, p2⟩, B2, nb2, cb2, rfl, (HBD.out _ HBZ.out).size, rfl, ⟨?_, HOK.out _ hbu, AutR.more (AutR.below HX2.out hbt) hbt.size, (HT2.out.below hbt).more hbt.size, tl2, tc2, td2⟩, HBD.out _ hbu⟩
 unfold svc
 dsimp only
 rw [HSP.out, HSS.out, HS2.out]
 exact hbl
end Go.Proofs.YtioijhpbedmeaaaGreatDoor
