/- Walks: ref06.Refusers, Step, Enabled. -/
import Derived.Test.YtbdliebjalghmaaDoorGg
namespace Go.Proofs.YtbdliebjalghmaaDoor
open Go.RowKit Go


set_option maxRecDepth 100000 in
set_option maxHeartbeats 3200000 in
theorem ref_Refusers (L : Option Addr) (c n : Nat) (xs : List AV) (T : Option Addr) (ct : Nat) (t : List Int) (v : Int) (w : World) (hl : xs.length = n) (h : RdL w w.heap.size L xs) (hn : n ≤ 1000000) (ht : t.length = n) (hT : RdI w w.heap.size T t) (hct : n ≤ ct) (hct2 : ct ≤ 9223372036854775807) :
    Calls Tryd.prog 34 #[.slice L n c, .slice T n ct, .int .i64 v] w (RetO 3 (rfsG (xs.map AV.a) t v 0) w) := by
  obtain ⟨R, hR⟩ : ∃ R, rfsG (xs.map AV.a) t v 0 = R := ⟨_, rfl⟩
  rw [hR]
  have HR := Lib.hid (show R = [] ++ rfsG ((xs.map AV.a).drop 0) (t.drop 0) v ((0 : Nat) : Int) from hR.symm)
  have HL := Lib.hid hl; clear hl
  have HTL := Lib.hid ht; clear ht
  clear hR
  go_enter Tryd.func34, Tryd.ntmps34
  go_wp2
  go_loopw [7, 8] (fun s7 s8 wr => ∃ (k m : Nat) (acc : List Int), s8 = .int .i64 k ∧ k ≤ n ∧ m ≤ k ∧ Hid (acc.length = m) ∧ Hid (R = acc ++ rfsG ((xs.map AV.a).drop k) (t.drop k) v (k : Int)) ∧ Hid (wr.ownsRow w.heap.size 3 1 s7 m (iv acc)) ∧ Below w.heap.size w wr) (fun _ s8 _ => n - (intOf s8).toNat)
  case atStart => exact ⟨0, 0, [], rfl, Nat.zero_le _, by omega, Lib.hid rfl, HR, Lib.hid (World.ownsRow_nil _ _ _ _), Below.refl _ _⟩
  case round =>
    clear HR
    obtain ⟨k, m, acc, rfl, hk, hm, HM, HX, HO, hbel⟩ := hrel
    by_cases hlt : k < n
    · skip
      obtain ⟨ad, A', na, ca, M, nm, cm, E, ne, ce, a, rfl, hbb, hx, q0, q1, q2, q3, haR⟩ := (h.below hbel).at_ (k := k) (by have := HL.out; omega)
      have b1 : (k : Int) < (n : Int) := by omega
      have p1 := st_cells (j := 0) q1
      have p2 := st_cells (j := 1) q2
      have p3 := st_cells (j := 2) q3
      simp only [Nat.zero_add, Nat.reduceAdd] at p1 p2 p3
      clear q1 q2 q3
      have hxa : (xs.map AV.a)[k]? = some a := by simp [hx]
      obtain ⟨td, s, rfl, hbt, hts, hcs⟩ := (hT.below hbel).at_ (k := k) (by have := HTL.out; omega)
      have hsz := hbel.size
      have d1 : (k : Int) < (ct : Int) := by omega
      have HAR := Lib.hid (AutR.dr (haR.more hsz))
      have HLA := Lib.hid haR.la
      have hac := haR.ac
      have hcA := haR.cA
      cases hh : hasB a.al v with
      | true =>
        obtain ⟨r, hr⟩ : ∃ r, nxt a s v = r := ⟨_, rfl⟩
        have HOd : Hid (wr.drew.ownsRow w.heap.size 3 1 u7 m (iv acc)) := HO
        have hbeld : Below w.heap.size w wr.drew := hbel.trans ((below_dr wr).mono hsz)
        have hadb : (ad.add (k * 4)).block < wr.drew.heap.size := by rw [block_of_add]; exact Nat.lt_of_lt_of_le hbb hsz
        have htdb : (td.add k).block < wr.drew.heap.size := by rw [block_of_add]; exact Nat.lt_of_lt_of_le hbt hsz
        have hA0 : wr.drew.cell? (ad.add (k * 4)) = some (.slice A' na ca) ∧ wr.drew.cell? ⟨(ad.add (k * 4)).block, (ad.add (k * 4)).off + 1, none⟩ = some (.int .i64 a.st) ∧ wr.drew.cell? ⟨(ad.add (k * 4)).block, (ad.add (k * 4)).off + 2, none⟩ = some (.slice M nm cm) ∧ wr.drew.cell? ⟨(ad.add (k * 4)).block, (ad.add (k * 4)).off + 3, none⟩ = some (.slice E ne ce) ∧ wr.drew.cell? (td.add k) = some (.int .i64 s) := ⟨q0, p1, p2, p3, hcs⟩
        have hB0 : True := trivial
        have HHH := Lib.hid hh; clear hh
        have HXA := Lib.hid hxa; clear hxa
        have HX2 := Lib.hid hx; clear hx
        have HTS := Lib.hid hts; clear hts
        have HRR := Lib.hid hr; clear hr
        clear haR
        go_wp2
        refine wp_region_U (fun W => W.cell? (ad.add (k * 4)) = some (.slice A' na ca) ∧ W.cell? ⟨(ad.add (k * 4)).block, (ad.add (k * 4)).off + 1, none⟩ = some (.int .i64 a.st) ∧ W.cell? ⟨(ad.add (k * 4)).block, (ad.add (k * 4)).off + 2, none⟩ = some (.slice M nm cm) ∧ W.cell? ⟨(ad.add (k * 4)).block, (ad.add (k * 4)).off + 3, none⟩ = some (.slice E ne ce) ∧ W.cell? (td.add k) = some (.int .i64 s)) (fun _ => True) 19 (by kernel_rfl) ?_
        change anyU _ _ _ _ _ _ _ 20 _ _ _
        clear q0 p1 p2 p3 hcs HO hbel hsz
        generalize hwd : wr.drew = wd at hA0 HOd hbeld hadb htdb HAR ⊢
        have HWD := Lib.hid hwd; clear hwd
        ((refine uTake (i := 0) (v := ?_) rfl (by kernel_rfl) (fun _ _ _ h => h) (by rfl) (fun W hA hB => ?_) ⟨hA0, fun _ => hB0⟩ ?_; rotate_left; (· (clear hB; (try dsimp only at hA); go_simp; try with_reducible rfl)); (try simp only [Act.put, List.setIfInBounds_toArray, List.set_cons_zero, List.set_cons_succ])); (refine uTake (i := 1) (v := ?_) rfl (by kernel_rfl) (fun _ _ _ h => h) (by rfl) (fun W hA hB => ?_) ⟨hA0, fun _ => hB0⟩ ?_; rotate_left; (· (clear hB; (try dsimp only at hA); go_simp; try with_reducible rfl)); (try simp only [Act.put, List.setIfInBounds_toArray, List.set_cons_zero, List.set_cons_succ])); (refine uTake (i := 2) (v := ?_) rfl (by kernel_rfl) (fun _ _ _ h => h) (by rfl) (fun W hA hB => ?_) ⟨hA0, fun _ => hB0⟩ ?_; rotate_left; (· (clear hB; (try dsimp only at hA); go_simp; try with_reducible rfl)); (try simp only [Act.put, List.setIfInBounds_toArray, List.set_cons_zero, List.set_cons_succ])); (refine uTake (i := 3) (v := ?_) rfl (by kernel_rfl) (fun _ _ _ h => h) (by rfl) (fun W hA hB => ?_) ⟨hA0, fun _ => hB0⟩ ?_; rotate_left; (· (clear hB; (try dsimp only at hA); go_simp; try with_reducible rfl)); (try simp only [Act.put, List.setIfInBounds_toArray, List.set_cons_zero, List.set_cons_succ])); (refine uTake (i := 4) (v := ?_) rfl (by kernel_rfl) (fun _ _ _ h => h) (by rfl) (fun W hA hB => ?_) ⟨hA0, fun _ => hB0⟩ ?_; rotate_left; (· (clear hB; (try dsimp only at hA); go_simp; try with_reducible rfl)); (try simp only [Act.put, List.setIfInBounds_toArray, List.set_cons_zero, List.set_cons_succ])); (refine uTake (i := 5) (v := ?_) rfl (by kernel_rfl) (fun _ _ _ h => h) (by rfl) (fun W hA hB => ?_) ⟨hA0, fun _ => hB0⟩ ?_; rotate_left; (· (clear hB; (try dsimp only at hA); go_simp; try with_reducible rfl)); (try simp only [Act.put, List.setIfInBounds_toArray, List.set_cons_zero, List.set_cons_succ])))
        refine uOne (i := 6) rfl (by kernel_rfl) (fun K hK => ?_)
        go_simp
        go_at_call 58
        refine (ref_Contains A' ca na a.al v true wd HLA.out HHH.out HAR.out.ra hac hcA).mono ?_
        rintro e wB ⟨rfl, rfl⟩
        (refine hK _ _ ⟨hA0, fun _ => hB0⟩ ?_; clear hK K; (try simp only [Act.put, List.setIfInBounds_toArray, List.set_cons_zero, List.set_cons_succ]))
        ((refine uTake (i := 7) (v := ?_) rfl (by kernel_rfl) (fun _ _ _ h => h) (by rfl) (fun W hA hB => ?_) ⟨hA0, fun _ => hB0⟩ ?_; rotate_left; (· (clear hB; (try dsimp only at hA); go_simp; try with_reducible rfl)); (try simp only [Act.put, List.setIfInBounds_toArray, List.set_cons_zero, List.set_cons_succ])); (refine uTake (i := 8) (v := ?_) rfl (by kernel_rfl) (fun _ _ _ h => h) (by rfl) (fun W hA hB => ?_) ⟨hA0, fun _ => hB0⟩ ?_; rotate_left; (· (clear hB; (try dsimp only at hA); go_simp; try with_reducible rfl)); (try simp only [Act.put, List.setIfInBounds_toArray, List.set_cons_zero, List.set_cons_succ])); (refine uTake (i := 9) (v := ?_) rfl (by kernel_rfl) (fun _ _ _ h => h) (by rfl) (fun W hA hB => ?_) ⟨hA0, fun _ => hB0⟩ ?_; rotate_left; (· (clear hB; (try dsimp only at hA); go_simp; try with_reducible rfl)); (try simp only [Act.put, List.setIfInBounds_toArray, List.set_cons_zero, List.set_cons_succ])); (refine uTake (i := 10) (v := ?_) rfl (by kernel_rfl) (fun _ _ _ h => h) (by rfl) (fun W hA hB => ?_) ⟨hA0, fun _ => hB0⟩ ?_; rotate_left; (· (clear hB; (try dsimp only at hA); go_simp; try with_reducible rfl)); (try simp only [Act.put, List.setIfInBounds_toArray, List.set_cons_zero, List.set_cons_succ])); (refine uTake (i := 11) (v := ?_) rfl (by kernel_rfl) (fun _ _ _ h => h) (by rfl) (fun W hA hB => ?_) ⟨hA0, fun _ => hB0⟩ ?_; rotate_left; (· (clear hB; (try dsimp only at hA); go_simp; try with_reducible rfl)); (try simp only [Act.put, List.setIfInBounds_toArray, List.set_cons_zero, List.set_cons_succ])); (refine uTake (i := 12) (v := ?_) rfl (by kernel_rfl) (fun _ _ _ h => h) (by rfl) (fun W hA hB => ?_) ⟨hA0, fun _ => hB0⟩ ?_; rotate_left; (· (clear hB; (try dsimp only at hA); go_simp; try with_reducible rfl)); (try simp only [Act.put, List.setIfInBounds_toArray, List.set_cons_zero, List.set_cons_succ])); (refine uTake (i := 13) (v := ?_) rfl (by kernel_rfl) (fun _ _ _ h => h) (by rfl) (fun W hA hB => ?_) ⟨hA0, fun _ => hB0⟩ ?_; rotate_left; (· (clear hB; (try dsimp only at hA); go_simp; try with_reducible rfl)); (try simp only [Act.put, List.setIfInBounds_toArray, List.set_cons_zero, List.set_cons_succ])); (refine uTake (i := 14) (v := ?_) rfl (by kernel_rfl) (fun _ _ _ h => h) (by rfl) (fun W hA hB => ?_) ⟨hA0, fun _ => hB0⟩ ?_; rotate_left; (· (clear hB; (try dsimp only at hA); go_simp; try with_reducible rfl)); (try simp only [Act.put, List.setIfInBounds_toArray, List.set_cons_zero, List.set_cons_succ])); (refine uTake (i := 15) (v := ?_) rfl (by kernel_rfl) (fun _ _ _ h => h) (by rfl) (fun W hA hB => ?_) ⟨hA0, fun _ => hB0⟩ ?_; rotate_left; (· (clear hB; (try dsimp only at hA); go_simp; try with_reducible rfl)); (try simp only [Act.put, List.setIfInBounds_toArray, List.set_cons_zero, List.set_cons_succ])); (refine uTake (i := 16) (v := ?_) rfl (by kernel_rfl) (fun _ _ _ h => h) (by rfl) (fun W hA hB => ?_) ⟨hA0, fun _ => hB0⟩ ?_; rotate_left; (· (clear hB; (try dsimp only at hA); go_simp; try with_reducible rfl)); (try simp only [Act.put, List.setIfInBounds_toArray, List.set_cons_zero, List.set_cons_succ])))
        refine uOne (i := 17) rfl (by kernel_rfl) (fun K hK => ?_)
        go_simp
        go_at_call 59
        refine (ref_Next6 A' na ca M nm cm E ne ce a s v wd HAR.out).mono ?_
        rw [HRR.out]
        rintro e w5 ⟨rfl, hb5⟩
        have hA5 : w5.cell? (ad.add (k * 4)) = some (.slice A' na ca) ∧ w5.cell? ⟨(ad.add (k * 4)).block, (ad.add (k * 4)).off + 1, none⟩ = some (.int .i64 a.st) ∧ w5.cell? ⟨(ad.add (k * 4)).block, (ad.add (k * 4)).off + 2, none⟩ = some (.slice M nm cm) ∧ w5.cell? ⟨(ad.add (k * 4)).block, (ad.add (k * 4)).off + 3, none⟩ = some (.slice E ne ce) ∧ w5.cell? (td.add k) = some (.int .i64 s) :=
          ⟨(hb5.cell hadb).trans hA0.1, (hb5.cell (p := ⟨(ad.add (k * 4)).block, (ad.add (k * 4)).off + 1, none⟩) hadb).trans hA0.2.1, (hb5.cell (p := ⟨(ad.add (k * 4)).block, (ad.add (k * 4)).off + 2, none⟩) hadb).trans hA0.2.2.1, (hb5.cell (p := ⟨(ad.add (k * 4)).block, (ad.add (k * 4)).off + 3, none⟩) hadb).trans hA0.2.2.2.1, (hb5.cell htdb).trans hA0.2.2.2.2⟩
        have HO5 := Lib.hid (own_below HOd.out hb5)
        have hbel5 := hbeld.trans (hb5.mono hbeld.size)
        have hsz5 := hbel5.size
        clear hA0 HOd hbeld hadb htdb HAR hb5
        (refine hK _ _ ⟨hA5, fun _ => hB0⟩ ?_; clear hK K; (try simp only [Act.put, List.setIfInBounds_toArray, List.set_cons_zero, List.set_cons_succ]))
        refine uOne (i := 18) rfl (by kernel_rfl) (fun K hK => ?_)
        go_simp
        (refine hK _ _ ⟨hA5, fun _ => hB0⟩ ?_; clear hK K; (try simp only [Act.put, List.setIfInBounds_toArray, List.set_cons_zero, List.set_cons_succ]))
        by_cases hr0 : r < 0
        · have e1 : decide (r < 0) = true := decide_eq_true hr0
          have HX3 := Lib.hid (show R = (acc ++ [(k : Int)]) ++ rfsG ((xs.map AV.a).drop (k + 1)) (t.drop (k + 1)) v ((k + 1 : Nat) : Int) by
            rw [HX.out]; exact rfsG_hit HXA.out HTS.out (by unfold rf; rw [HHH.out, HRR.out, e1]; rfl) acc)
          clear hr0
          refine uOne (i := 19) rfl (by kernel_rfl) (fun K hK => ?_)
          go_simp
          (refine hK _ _ ⟨hA5, fun _ => hB0⟩ ?_; clear hK K; (try simp only [Act.put, List.setIfInBounds_toArray, List.set_cons_zero, List.set_cons_succ]))
          refine anyU_done (by kernel_rfl) ?_ _
          clear hA5
          go_wp2_with (at_builtin; refine wpList_push w5 (.int .i64 (k : Int)) rfl (.tmp 35) (.tmp 37) 26 rfl w.heap.size 3 (.int .i64 0) 8 Tryd.underlying26 int_info rfl u7 m _ rfl HO5.out rfl rfl (by omega) (by omega) hsz5 ?_; intro v' w' ho' hg' hb1')
          go_roundw
          case rel => exact ⟨k + 1, m + 1, acc ++ [(k : Int)], by go_num, by omega, by omega, Lib.hid (by rw [List.length_append, HM.out]; rfl), HX3, Lib.hid (by rw [iv_append]; exact ho'), own_below_of HO5.out hbel5 hg' hsz5⟩
          case measure => simp [intOf]; omega
        · have e1 : decide (r < 0) = false := decide_eq_false hr0
          have HX3 := Lib.hid (show R = acc ++ rfsG ((xs.map AV.a).drop (k + 1)) (t.drop (k + 1)) v ((k + 1 : Nat) : Int) by
            rw [HX.out, rfsG_go HXA.out HTS.out (by unfold rf; rw [HHH.out, HRR.out, e1]; rfl)])
          clear hr0
          refine uOne (i := 19) rfl (by kernel_rfl) (fun K hK => ?_)
          go_simp
          (refine hK _ _ ⟨hA5, fun _ => hB0⟩ ?_; clear hK K; (try simp only [Act.put, List.setIfInBounds_toArray, List.set_cons_zero, List.set_cons_succ]))
          refine anyU_done (by kernel_rfl) ?_ _
          clear hA5
          go_wp2
          go_roundw
          case rel => exact ⟨k + 1, m, acc, by go_num, by omega, by omega, HM, HX3, HO5, hbel5⟩
          case measure => simp [intOf]; omega
      | false =>
        have HX3 := Lib.hid (show R = acc ++ rfsG ((xs.map AV.a).drop (k + 1)) (t.drop (k + 1)) v ((k + 1 : Nat) : Int) by
          rw [HX.out, rfsG_go hxa hts (by unfold rf; rw [hh]; rfl)])
        have HOd : Hid (wr.drew.ownsRow w.heap.size 3 1 u7 m (iv acc)) := HO
        have hbeld : Below w.heap.size w wr.drew := hbel.trans ((below_dr wr).mono hsz)
        have hA0 : wr.drew.cell? (ad.add (k * 4)) = some (.slice A' na ca) ∧ wr.drew.cell? ⟨(ad.add (k * 4)).block, (ad.add (k * 4)).off + 1, none⟩ = some (.int .i64 a.st) ∧ wr.drew.cell? ⟨(ad.add (k * 4)).block, (ad.add (k * 4)).off + 2, none⟩ = some (.slice M nm cm) ∧ wr.drew.cell? ⟨(ad.add (k * 4)).block, (ad.add (k * 4)).off + 3, none⟩ = some (.slice E ne ce) ∧ wr.drew.cell? (td.add k) = some (.int .i64 s) := ⟨q0, p1, p2, p3, hcs⟩
        have hB0 : True := trivial
        have HHH := Lib.hid hh; clear hh
        have HXA := Lib.hid hxa; clear hxa
        have HX2 := Lib.hid hx; clear hx
        have HTS := Lib.hid hts; clear hts
        clear haR
        go_wp2
        refine wp_region_U (fun W => W.cell? (ad.add (k * 4)) = some (.slice A' na ca) ∧ W.cell? ⟨(ad.add (k * 4)).block, (ad.add (k * 4)).off + 1, none⟩ = some (.int .i64 a.st) ∧ W.cell? ⟨(ad.add (k * 4)).block, (ad.add (k * 4)).off + 2, none⟩ = some (.slice M nm cm) ∧ W.cell? ⟨(ad.add (k * 4)).block, (ad.add (k * 4)).off + 3, none⟩ = some (.slice E ne ce) ∧ W.cell? (td.add k) = some (.int .i64 s)) (fun _ => True) 19 (by kernel_rfl) ?_
        change anyU _ _ _ _ _ _ _ 20 _ _ _
        clear q0 p1 p2 p3 hcs HO hbel hsz
        generalize hwd : wr.drew = wd at hA0 HOd hbeld HAR ⊢
        have HWD := Lib.hid hwd; clear hwd
        ((refine uTake (i := 0) (v := ?_) rfl (by kernel_rfl) (fun _ _ _ h => h) (by rfl) (fun W hA hB => ?_) ⟨hA0, fun _ => hB0⟩ ?_; rotate_left; (· (clear hB; (try dsimp only at hA); go_simp; try with_reducible rfl)); (try simp only [Act.put, List.setIfInBounds_toArray, List.set_cons_zero, List.set_cons_succ])); (refine uTake (i := 1) (v := ?_) rfl (by kernel_rfl) (fun _ _ _ h => h) (by rfl) (fun W hA hB => ?_) ⟨hA0, fun _ => hB0⟩ ?_; rotate_left; (· (clear hB; (try dsimp only at hA); go_simp; try with_reducible rfl)); (try simp only [Act.put, List.setIfInBounds_toArray, List.set_cons_zero, List.set_cons_succ])); (refine uTake (i := 2) (v := ?_) rfl (by kernel_rfl) (fun _ _ _ h => h) (by rfl) (fun W hA hB => ?_) ⟨hA0, fun _ => hB0⟩ ?_; rotate_left; (· (clear hB; (try dsimp only at hA); go_simp; try with_reducible rfl)); (try simp only [Act.put, List.setIfInBounds_toArray, List.set_cons_zero, List.set_cons_succ])); (refine uTake (i := 3) (v := ?_) rfl (by kernel_rfl) (fun _ _ _ h => h) (by rfl) (fun W hA hB => ?_) ⟨hA0, fun _ => hB0⟩ ?_; rotate_left; (· (clear hB; (try dsimp only at hA); go_simp; try with_reducible rfl)); (try simp only [Act.put, List.setIfInBounds_toArray, List.set_cons_zero, List.set_cons_succ])); (refine uTake (i := 4) (v := ?_) rfl (by kernel_rfl) (fun _ _ _ h => h) (by rfl) (fun W hA hB => ?_) ⟨hA0, fun _ => hB0⟩ ?_; rotate_left; (· (clear hB; (try dsimp only at hA); go_simp; try with_reducible rfl)); (try simp only [Act.put, List.setIfInBounds_toArray, List.set_cons_zero, List.set_cons_succ])); (refine uTake (i := 5) (v := ?_) rfl (by kernel_rfl) (fun _ _ _ h => h) (by rfl) (fun W hA hB => ?_) ⟨hA0, fun _ => hB0⟩ ?_; rotate_left; (· (clear hB; (try dsimp only at hA); go_simp; try with_reducible rfl)); (try simp only [Act.put, List.setIfInBounds_toArray, List.set_cons_zero, List.set_cons_succ])))
        refine uOne (i := 6) rfl (by kernel_rfl) (fun K hK => ?_)
        go_simp
        go_at_call 58
        refine (ref_Contains A' ca na a.al v false wd HLA.out HHH.out HAR.out.ra hac hcA).mono ?_
        rintro e wB ⟨rfl, rfl⟩
        (refine hK _ _ ⟨hA0, fun _ => hB0⟩ ?_; clear hK K; (try simp only [Act.put, List.setIfInBounds_toArray, List.set_cons_zero, List.set_cons_succ]))
        ((refine uTake (i := 7) (v := ?_) rfl (by kernel_rfl) (fun _ _ _ h => h) (by rfl) (fun W hA hB => ?_) ⟨hA0, fun _ => hB0⟩ ?_; rotate_left; (· (clear hB; (try dsimp only at hA); go_simp; try with_reducible rfl)); (try simp only [Act.put, List.setIfInBounds_toArray, List.set_cons_zero, List.set_cons_succ])))
        ((refine uSkip (i := 8) rfl (by kernel_rfl) (fun _ _ _ h => h) (by rfl) ⟨hA0, fun _ => hB0⟩ ?_; (try simp only [Act.put, List.setIfInBounds_toArray, List.set_cons_zero, List.set_cons_succ])); (refine uSkip (i := 9) rfl (by kernel_rfl) (fun _ _ _ h => h) (by rfl) ⟨hA0, fun _ => hB0⟩ ?_; (try simp only [Act.put, List.setIfInBounds_toArray, List.set_cons_zero, List.set_cons_succ])); (refine uSkip (i := 10) rfl (by kernel_rfl) (fun _ _ _ h => h) (by rfl) ⟨hA0, fun _ => hB0⟩ ?_; (try simp only [Act.put, List.setIfInBounds_toArray, List.set_cons_zero, List.set_cons_succ])); (refine uSkip (i := 11) rfl (by kernel_rfl) (fun _ _ _ h => h) (by rfl) ⟨hA0, fun _ => hB0⟩ ?_; (try simp only [Act.put, List.setIfInBounds_toArray, List.set_cons_zero, List.set_cons_succ])); (refine uSkip (i := 12) rfl (by kernel_rfl) (fun _ _ _ h => h) (by rfl) ⟨hA0, fun _ => hB0⟩ ?_; (try simp only [Act.put, List.setIfInBounds_toArray, List.set_cons_zero, List.set_cons_succ])); (refine uSkip (i := 13) rfl (by kernel_rfl) (fun _ _ _ h => h) (by rfl) ⟨hA0, fun _ => hB0⟩ ?_; (try simp only [Act.put, List.setIfInBounds_toArray, List.set_cons_zero, List.set_cons_succ])); (refine uSkip (i := 14) rfl (by kernel_rfl) (fun _ _ _ h => h) (by rfl) ⟨hA0, fun _ => hB0⟩ ?_; (try simp only [Act.put, List.setIfInBounds_toArray, List.set_cons_zero, List.set_cons_succ])); (refine uSkip (i := 15) rfl (by kernel_rfl) (fun _ _ _ h => h) (by rfl) ⟨hA0, fun _ => hB0⟩ ?_; (try simp only [Act.put, List.setIfInBounds_toArray, List.set_cons_zero, List.set_cons_succ])); (refine uSkip (i := 16) rfl (by kernel_rfl) (fun _ _ _ h => h) (by rfl) ⟨hA0, fun _ => hB0⟩ ?_; (try simp only [Act.put, List.setIfInBounds_toArray, List.set_cons_zero, List.set_cons_succ])); (refine uSkip (i := 17) rfl (by kernel_rfl) (fun _ _ _ h => h) (by rfl) ⟨hA0, fun _ => hB0⟩ ?_; (try simp only [Act.put, List.setIfInBounds_toArray, List.set_cons_zero, List.set_cons_succ])); (refine uSkip (i := 18) rfl (by kernel_rfl) (fun _ _ _ h => h) (by rfl) ⟨hA0, fun _ => hB0⟩ ?_; (try simp only [Act.put, List.setIfInBounds_toArray, List.set_cons_zero, List.set_cons_succ])))
        refine uOne (i := 19) rfl (by kernel_rfl) (fun K hK => ?_)
        go_simp
        (refine hK _ _ ⟨hA0, fun _ => hB0⟩ ?_; clear hK K; (try simp only [Act.put, List.setIfInBounds_toArray, List.set_cons_zero, List.set_cons_succ]))
        refine anyU_done (by kernel_rfl) ?_ _
        clear hA0
        go_wp2
        go_roundw
        case rel => exact ⟨k + 1, m, acc, by go_num, by omega, by omega, HM, HX3, HOd, hbeld⟩
        case measure => simp [intOf]; omega
    · have hf : R = acc := by rw [HX.out, rfsG_end (by rw [List.length_map]; have := HL.out; omega), List.append_nil]
      have HF := Lib.hid hf; clear hf
      go_wp2
      go_ret
      rw [HF.out]
      exact ⟨_, rfl, by rw [HM.out]; exact HO.out, hbel⟩
end Go.Proofs.YtbdliebjalghmaaDoor
