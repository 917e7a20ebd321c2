/- Walks: automaton.Enabled. -/
import Derived.Test.YtioijhpbedmeaaaGreatDoorUn
import Derived.Test.YtioijhpbedmeaaaGreatDoorUa
import Derived.Test.YtioijhpbedmeaaaGreatDoorNd
import Derived.Test.YtioijhpbedmeaaaGreatDoorOe
namespace Go.Proofs.YtioijhpbedmeaaaGreatDoor
open Go.RowKit Go

/-- the events that are possible in a state -/
def enbE (a : Aut) (s : Int) : List Int := a.al.filter fun v => decide (0 ≤ nxt a s v)
/-- a list of the call's own, without an error -/
def RetOE (I : TypeId) (l : List Int) (w : World) (e : Ending) (w' : World) : Prop := ∃ v, e = .returned (.tuple #[v, .int .i64 0]) ∧ w'.ownsRow w.heap.size I 1 v l.length (iv l) ∧ Below w.heap.size w w'
set_option maxRecDepth 100000 in
set_option maxHeartbeats 1600000 in
theorem automaton_Enabled (x : AV) (s : Int) (w : World) (hx : x.ok w w.heap.size) (hw : WF x.a) (h0 : 0 ≤ s) (h1 : s < x.a.st) :
  Calls Tryz.prog 88 #[.agg #[.slice x.A x.na x.ca, .int .i64 x.a.st, .slice x.M x.nm x.cm, .slice x.E x.ne x.ce], .int .i64 s] w (RetOE 3 (enbE x.a s) w) := by
 obtain ⟨A, na, ca, M, nm, cm, E, ne, ce, a⟩ := x
 dsimp only at hw h1 ⊢
 have h4 : s ≤ 4095 := by have := hw.st1; omega
 have hb1 := box_below w (.cells #[.slice A na ca, .int .i64 a.st, .slice M nm cm, .slice E ne ce] 33)
 obtain ⟨w1, hw1⟩ : ∃ w1, w1 = w.alloc (.cells #[.slice A na ca, .int .i64 a.st, .slice M nm cm, .slice E ne ce] 33) := ⟨_, rfl⟩
 have k3 : Blk w1 w.heap.size 33 [.slice A na ca, .int .i64 a.st, .slice M nm cm, .slice E ne ce] := by rw [hw1]; exact Blk.new _ _ [_, _, _, _]
 rw [← hw1] at hb1
 have HX := Lib.hid (AutR.more (AutR.below hx hb1) hb1.size)
 have HLN := Lib.hid HX.out.le
 dsimp only at HLN
 have HC := Lib.hid (automaton_checkState A M E na ca nm cm ne ce a s w1 HX.out hw h0 h1)
 have HO := Lib.hid (fun (W : World) (hb : Below w1.heap.size w1 W) => by
  have hX := AutR.more (AutR.below HX.out hb) hb.size
  have hle := hX.le
  have := hw.ed_le
  exact automaton_out A M E na ca nm cm ne ce a.st a.ed s W hX.le hX.re hX.ec hX.cE (by dsimp only at hle; omega) hw.einc (fun y hy => by have := hw.ev_rng hy; have := hw.st1; omega) h0 h4)
 have HEV := Lib.hid (show (outE a s).map Ed.e = enbE a s from evs_of hw s)
 have HRG := Lib.hid (fun y (hy : y ∈ outE a s) => hw.ev_rng (outE_mem.1 hy).1)
 have HLE := Lib.hid (show (outE a s).length ≤ 131072 from Nat.le_trans (List.length_filter_le _ _) hw.ed_le)
 have HG0 := Lib.hid (fun (W : World) (hb : Below w1.heap.size w1 W) => Blk.c4 (k3.below hb k3.lt))
 have HW1 := Lib.hid hw1; clear hw1
 have HB1 := Lib.hid hb1; clear hb1
 clear hx hw k3 HX
 obtain ⟨c0, c1, c2, c3⟩ := HG0.out w1 (Below.refl _ _)
 go_enter Tryz.func88, Tryz.ntmps88
 go_wp2_with fail
 rw [← HW1.out]
 refine HC.out.mono ?_
 rintro e w2 ⟨rfl, hb2⟩
 have HB2 := Lib.hid hb2; clear hb2
 clear c0 c1 c2 c3 HC
 obtain ⟨c0, c1, c2, c3⟩ := HG0.out w2 HB2.out
 have HO2 := Lib.hid (HO.out w2 HB2.out)
 clear HO
 go_wp2_with fail
 clear c0 c1 c2 c3
 refine HO2.out.mono ?_
 rintro e w3 ⟨⟨i, j, E', c', rfl, hij, hjn, lo, hi, lo1, hi1, hr⟩, hb3⟩
 have hsl := out_slice hij lo hi lo1 hi1
 change _ = outE a s at hsl
 rw [hsl] at hr
 have HB3 := Lib.hid (HB2.out.trans (hb3.mono HB2.out.size))
 have HBW := Lib.hid (HB1.out.trans (HB3.out.mono HB1.out.size))
 obtain ⟨m, hm⟩ : ∃ m, j - i = m := ⟨_, rfl⟩
 rw [hm]
 have hml : (outE a s).length = m := by
  have hh := congrArg List.length hsl
  rw [List.length_take, List.length_drop] at hh
  have := HLE.out
  have := HLN.out
  omega
 have HR := Lib.hid hr; clear hr
 have HML := Lib.hid hml; clear hml
 have HO0 := Lib.hid (World.ownsRow_nil w3 w3.heap.size 3 1)
 have HBZ := Lib.hid (Below.refl w3.heap.size w3)
 clear hsl lo hi lo1 hi1 hij hjn hm HO2 hb3 HB2 HB3
 go_wp2
 go_loopw [7, 9, 20] (fun s7 s9 s20 wr => ∃ (k : Nat) (v7 v9 : Value), s7 = v7 ∧ s9 = v9 ∧ s20 = .int .i64 k ∧ k ≤ m ∧ Hid (wr.ownsRow w3.heap.size 3 1 v7 k (iv (((outE a s).take k).map Ed.e))) ∧ Hid (Below w3.heap.size w3 wr)) (fun _ _ s20 _ => m - (intOf s20).toNat)
 case atStart => exact ⟨0, _, _, rfl, rfl, rfl, Nat.zero_le _, HO0, HBZ⟩
 case round =>
  clear HO0 HBZ
  obtain ⟨k, v7, v9, rfl, rfl, rfl, hk, HO, HB⟩ := hrel
  by_cases hlt : k < m
  ·have b1 : (k : Int) < (m : Int) := by omega
   obtain ⟨ad, ee, hA, hbb, he, q0, q1, q2⟩ := ((HR.out.below HB.out).more HB.out.size).at_ (k := k) (by rw [HML.out]; exact hlt)
   have p1 : wr.cell? ⟨(ad.add (k * 3)).block, (ad.add (k * 3)).off + 1, none⟩ = some (.int .i64 ee.e) := st_cells (j := 0) q1
   have p2 : wr.cell? ⟨(ad.add (k * 3)).block, (ad.add (k * 3)).off + 2, none⟩ = some (.int .i64 ee.t) := st_cells (j := 1) q2
   clear q1 q2
   replace hA : E' = some ad := hA
   subst hA
   have hba := box_below wr (.cells #[.int .i64 ee.f, .int .i64 ee.e, .int .i64 ee.t] 49)
   have HB4 := Lib.hid (HB.out.trans (hba.mono HB.out.size))
   have HO4 := Lib.hid (own_below HO.out hba)
   have hsz : w3.heap.size ≤ (wr.alloc (.cells #[.int .i64 ee.f, .int .i64 ee.e, .int .i64 ee.t] 49)).heap.size := HB4.out.size
   have HTK := Lib.hid (take_snoc' he)
   have hmm : m ≤ 131072 := by rw [← HML.out]; exact HLE.out
   clear hba hbb he
   have k9 : Blk (wr.alloc (.cells #[.int .i64 ee.f, .int .i64 ee.e, .int .i64 ee.t] 49)) wr.heap.size 49 [.int .i64 ee.f, .int .i64 ee.e, .int .i64 ee.t] := Blk.new _ _ [_, _, _]
   go_upto_region 8 with fail
   generalize wr.alloc (.cells #[.int .i64 ee.f, .int .i64 ee.e, .int .i64 ee.t] 49) = we at k9 HB4 HO4 hsz ⊢
   have r1 := k9.cell (j := 1) rfl
   go_wp2_with (at_builtin; refine wpList_push we (.int .i64 ee.e) rfl (.tmp 24) (.tmp 27) 30 rfl w3.heap.size 3 (.int .i64 0) 8 Tryz.underlying30 int_info rfl u7 k _ rfl HO4.out rfl rfl (by omega) (by omega) hsz ?_; intro v' w' ho' hg' hb1)
   have HO5 := Lib.hid (show w'.ownsRow w3.heap.size 3 1 v' (k + 1) (iv (((outE a s).take (k + 1)).map Ed.e)) from by rw [HTK.out, List.map_append, iv_append]; exact ho')
   have HB5 := Lib.hid (HB4.out.trans hb1)
   clear ho' hg' hb1 p1 p2 q0 hsz r1 k9
   go_wp2
   go_roundw
   case rel => exact ⟨k + 1, _, _, rfl, rfl, by go_num, by omega, HO5, HB5⟩
   case measure => simp [intOf]; omega
  ·obtain rfl : k = m := by omega
   have b1 : ¬ (k : Int) < (k : Int) := by omega
   rw [List.take_of_length_le (by rw [HML.out]; exact Nat.le_refl _), HEV.out] at HO
   have hml : (enbE a s).length = k := by rw [← HEV.out, List.length_map, HML.out]
   have HML2 := Lib.hid hml; clear hml
   go_wp2
   refine bodyPost_ret (v := .tuple #[u7, .int .i64 0]) (by simp [results, Tryz.results88, go_sem]) rfl ?_
   exact ⟨_, rfl, by rw [HML2.out]; exact own_base HO.out HBW.out.size, HBW.out.trans (HB.out.mono HBW.out.size)⟩
end Go.Proofs.YtioijhpbedmeaaaGreatDoor
