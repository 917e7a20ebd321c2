/- The law ProductRuns: product.Run; its walk. -/
import Derived.Test.YtbdliebjalghmaaDoorOc
import Derived.Test.YtbdliebjalghmaaDoorTu
import Derived.Test.YtbdliebjalghmaaDoorOa
import Derived.Test.YtbdliebjalghmaaDoorGf
import Derived.Test.YtbdliebjalghmaaDoorRe
import Derived.Test.YtbdliebjalghmaaDoorMn
namespace Go.Proofs.YtbdliebjalghmaaDoor
open Go.RowKit Go Go.Maps

/-- as far as a word goes: where it ends, and how many of its events are done -/
def runL (st : List Int → Int → Option (List Int)) : List Int → List Int → List Int × Nat
  | t, [] => (t, 0)
  | t, v :: ws => match st t v with
    | none => (t, 0)
    | some u => ((runL st u ws).1, (runL st u ws).2 + 1)
theorem runL_end {st : List Int → Int → Option (List Int)} {t ws : List Int} {k : Nat} (h : ¬ k < ws.length) : runL st t (ws.drop k) = (t, 0) := by rw [List.drop_eq_nil_of_le (by omega)]; rfl
theorem runL_stop {st : List Int → Int → Option (List Int)} {t ws : List Int} {k : Nat} {v : Int} (h : ws[k]? = some v) (hs : st t v = none) : runL st t (ws.drop k) = (t, 0) := by rw [drop_cons' h, runL, hs]
theorem runL_go {st : List Int → Int → Option (List Int)} {t u ws : List Int} {k : Nat} {v : Int} (h : ws[k]? = some v) (hs : st t v = some u) : runL st t (ws.drop k) = ((runL st u (ws.drop (k + 1))).1, (runL st u (ws.drop (k + 1))).2 + 1) := by rw [drop_cons' h, runL, hs]
/-- are all events of the word known? -/
def knw (l : List Aut) (ws : List Int) : Bool := ws.all (fun v => hasB (evs l) v)
theorem knw_no {l : List Aut} {ws : List Int} {k : Nat} {v : Int} (h : ws[k]? = some v) (hv : hasB (evs l) v = false) : knw l ws = false := by
  cases hk : knw l ws with
  | false => rfl
  | true => have := List.all_eq_true.1 hk v (List.mem_of_getElem? h); rw [hv] at this; cases this
theorem knw_at {l : List Aut} {ws : List Int} {k : Nat} {v : Int} (hk : knw l ws = true) (h : ws[k]? = some v) : hasB (evs l) v = true := List.all_eq_true.1 hk v (List.mem_of_getElem? h)
theorem knw_step {l : List Aut} {ws : List Int} {k : Nat} {v : Int} (hk : knw l (ws.take k) = true) (h : ws[k]? = some v) (hv : hasB (evs l) v = true) : knw l (ws.take (k + 1)) = true := by
  rw [take_snoc' h]; unfold knw at *; rw [List.all_append, hk]; simp [hv]


set_option maxRecDepth 100000 in
set_option maxHeartbeats 3200000 in
theorem run_empty (L : Option Addr) (c n : Nat) (xs : List AV) (T : Option Addr) (ct nt : Nat) (t : List Int) (w : World) (hl : xs.length = n) (h : RdL w w.heap.size L xs) (hc1 : n ≤ c) (hc2 : c ≤ 9223372036854775807) (hT : RdI w w.heap.size T t) (ht : t.length = nt) (hz : chkL (xs.map AV.a) = 0) (hns : noSt (xs.map AV.a) = true) :
    Calls Tryd.prog 24 #[.slice L n c, .slice T nt ct] w fun e w' => e = .returned (.tuple #[.slice none 0 0, .int .i64 0, .int .i64 12]) ∧ Below w.heap.size w w' := by
  have HC := Lib.hid (product_Check L c n xs w hl h hc1 hc2)
  rw [hz] at HC
  obtain ⟨hn, hw⟩ := chkL_wf hz
  rw [List.length_map, hl] at hn
  have HL := Lib.hid hl; clear hl
  have HW := Lib.hid hw; clear hw
  have HTL := Lib.hid ht; clear ht
  have HNS := Lib.hid hns; clear hns
  go_enter Tryd.func24, Tryd.ntmps24
  go_wp2_with fail
  refine HC.out.mono ?_
  rintro e w1 ⟨rfl, hb1⟩
  have hRL := (h.below hb1).more hb1.size
  have HOP := Lib.hid (product_open L c n xs w1 w1.heap.size HL.out hRL (Nat.le_refl _) hc1 hc2 hn HW.out)
  have HB1 := Lib.hid hb1; clear hb1
  clear hRL HC
  go_wp2_with fail
  refine HOP.out.mono ?_
  rintro e w2 ⟨V, nv, cv, G, cg, rfl, hMF, hb2⟩
  have hB02 := HB1.out.trans (hb2.mono HB1.out.size)
  have hMR := hMF.mach hb2.size
  have hTb := (hT.below hB02).more hB02.size
  have hbm := box_below w2 (.cells #[.slice L n c, .slice V nv cv, .slice G n cg] 91)
  have HIN := Lib.hid (mach_initial L n c V nv cv G cg xs (w2.alloc (.cells #[.slice L n c, .slice V nv cv, .slice G n cg] 91)) ((hMR.after hbm (Nat.le_refl _)).more hbm.size) hn)
  rw [HNS.out] at HIN
  rw [if_pos rfl, show (!true) = false from rfl] at HIN
  clear HOP HB1 hMF hb2 h hT
  have HB02 := Lib.hid hB02; clear hB02
  have HMR := Lib.hid hMR; clear hMR
  have HTB := Lib.hid hTb; clear hTb
  have HBM := Lib.hid hbm; clear hbm
  go_wp2_with fail
  refine HIN.out.mono ?_
  rintro e w3 ⟨v3, rfl, ho3, hb3⟩
  obtain ⟨A3, c3, rfl⟩ := own_shape ho3
  have hB3 := HB02.out.trans ((HBM.out.trans (hb3.mono HBM.out.size)).mono HB02.out.size)
  have HB3 := Lib.hid hB3; clear hB3
  clear ho3 hb3 HIN
  go_wp2
  refine bodyPost_ret (v := .tuple #[.slice none 0 0, .int .i64 0, .int .i64 12]) (by simp [results, Tryd.results24, go_sem]) rfl ?_
  exact ⟨rfl, HB3.out⟩

set_option maxRecDepth 100000 in
set_option maxHeartbeats 3200000 in
theorem run_unknown (L : Option Addr) (c n : Nat) (xs : List AV) (T : Option Addr) (ct nt : Nat) (t : List Int) (w : World) (hl : xs.length = n) (h : RdL w w.heap.size L xs) (hc1 : n ≤ c) (hc2 : c ≤ 9223372036854775807) (hT : RdI w w.heap.size T t) (ht : t.length = nt) (hct : nt ≤ ct) (hct2 : ct ≤ 9223372036854775807) (hz : chkL (xs.map AV.a) = 0) (hns : noSt (xs.map AV.a) = false) (hk : knw (xs.map AV.a) t = false) :
    Calls Tryd.prog 24 #[.slice L n c, .slice T nt ct] w fun e w' => e = .returned (.tuple #[.slice none 0 0, .int .i64 0, .int .i64 9]) ∧ Below w.heap.size w w' := by
  have HKN := Lib.hid hk; clear hk
  have HC := Lib.hid (product_Check L c n xs w hl h hc1 hc2)
  rw [hz] at HC
  obtain ⟨hn, hw⟩ := chkL_wf hz
  rw [List.length_map, hl] at hn
  have HL := Lib.hid hl; clear hl
  have HW := Lib.hid hw; clear hw
  have HTL := Lib.hid ht; clear ht
  have HNS := Lib.hid hns; clear hns
  go_enter Tryd.func24, Tryd.ntmps24
  go_wp2_with fail
  refine HC.out.mono ?_
  rintro e w1 ⟨rfl, hb1⟩
  have hRL := (h.below hb1).more hb1.size
  have HOP := Lib.hid (product_open L c n xs w1 w1.heap.size HL.out hRL (Nat.le_refl _) hc1 hc2 hn HW.out)
  have HB1 := Lib.hid hb1; clear hb1
  clear hRL HC
  go_wp2_with fail
  refine HOP.out.mono ?_
  rintro e w2 ⟨V, nv, cv, G, cg, rfl, hMF, hb2⟩
  have hB02 := HB1.out.trans (hb2.mono HB1.out.size)
  have hMR := hMF.mach hb2.size
  have hTb := (hT.below hB02).more hB02.size
  have hbm := box_below w2 (.cells #[.slice L n c, .slice V nv cv, .slice G n cg] 91)
  have HIN := Lib.hid (mach_initial L n c V nv cv G cg xs (w2.alloc (.cells #[.slice L n c, .slice V nv cv, .slice G n cg] 91)) ((hMR.after hbm (Nat.le_refl _)).more hbm.size) hn)
  rw [HNS.out] at HIN
  rw [if_neg (by decide), show (!false) = true from rfl] at HIN
  clear HOP HB1 hMF hb2 h hT
  have HB02 := Lib.hid hB02; clear hB02
  have HMR := Lib.hid hMR; clear hMR
  have HTB := Lib.hid hTb; clear hTb
  have HBM := Lib.hid hbm; clear hbm
  go_wp2_with fail
  refine HIN.out.mono ?_
  rintro e w3 ⟨v3, rfl, ho3, hb3⟩
  obtain ⟨A3, c3, rfl⟩ := own_shape ho3
  have hBL := HBM.out.trans (hb3.mono HBM.out.size)
  have hl3 : w2.heap.size < w3.heap.size := by have := hb3.size; simp at this; omega
  have hp : ∀ j, w3.cell? ⟨w2.heap.size, j, none⟩ = (w2.alloc (.cells #[.slice L n c, .slice V nv cv, .slice G n cg] 91)).cell? ⟨w2.heap.size, j, none⟩ := fun j => hb3.cell (p := ⟨w2.heap.size, j, none⟩) (by simp)
  have c0 : w3.cell? ⟨w2.heap.size, 0, none⟩ = some (.slice L n c) := (hp 0).trans (box_cells (us := [_, _, _]) (Below.refl _ _) rfl)
  have c1 : w3.cell? ⟨w2.heap.size, 1, none⟩ = some (.slice V nv cv) := (hp 1).trans (box_cells (us := [_, _, _]) (Below.refl _ _) rfl)
  have c2 : w3.cell? ⟨w2.heap.size, 2, none⟩ = some (.slice G n cg) := (hp 2).trans (box_cells (us := [_, _, _]) (Below.refl _ _) rfl)
  have HM3 := Lib.hid ((HMR.out.after hBL (Nat.le_refl _)).more hBL.size)
  have HT3 := Lib.hid ((HTB.out.below hBL).more hBL.size)
  have HAI := Lib.hid (evs_inc fun a ha => (HW.out a ha).inc)
  have hnv : nv ≤ 32 := by rw [← HMR.out.lv]; exact evs_le HW.out
  have hil : (ini (xs.map AV.a)).length = n := by simp [ini, HL.out]
  rw [hil] at ho3
  rw [hil]
  have HO3 := Lib.hid ho3
  have HBL := Lib.hid hBL; clear hBL
  clear hp hb3 HIN ho3 HMR HTB
  go_wp2
  go_loopw [30] (fun s30 wr => ∃ (k : Nat), s30 = .int .i64 k ∧ k ≤ nt ∧ Hid (knw (xs.map AV.a) (t.take k) = true) ∧ wr = w3) (fun s30 _ => nt - (intOf s30).toNat)
  case atStart => exact ⟨0, rfl, Nat.zero_le _, Lib.hid rfl, rfl⟩
  case round =>
    obtain ⟨k, rfl, hk, HK, rfl⟩ := hrel
    by_cases hlt : k < nt
    · obtain ⟨td, x, rfl, _, hts, hcs⟩ := HT3.out.at_ (k := k) (by have := HTL.out; omega)
      have b1 : (k : Int) < (nt : Int) := by omega
      have HCO := Lib.hid (fun q hq => alphabet_Contains_n V cv nv (evs (xs.map AV.a)) x q wr HM3.out.lv hq HM3.out.rv (by omega) HAI.out)
      cases hh : hasB (evs (xs.map AV.a)) x with
      | true =>
        have HCX := Lib.hid (HCO.out true hh)
        have HST := Lib.hid (knw_step HK.out hts hh)
        have HTS := Lib.hid hts; clear hts
        clear HCO hh
        go_wp2_with fail
        refine HCX.out.mono ?_
        rintro e w' ⟨rfl, rfl⟩
        go_wp2
        go_roundw
        case rel => exact ⟨k + 1, by go_num, by omega, HST, by first | trivial | rfl⟩
        case measure => simp [intOf]; omega
      | false =>
        have HCX := Lib.hid (HCO.out false hh)
        have HTS := Lib.hid hts; clear hts
        clear HCO hh
        go_wp2_with fail
        refine HCX.out.mono ?_
        rintro e w' ⟨rfl, rfl⟩
        go_wp2
        refine bodyPost_ret (v := .tuple #[.slice none 0 0, .int .i64 0, .int .i64 9]) (by simp [results, Tryd.results24, go_sem]) rfl ?_
        exact ⟨rfl, HB02.out.trans (HBL.out.mono HB02.out.size)⟩
    · exfalso
      have h1 := HK.out
      rw [List.take_of_length_le (by have := HTL.out; omega), HKN.out] at h1
      cases h1

set_option maxRecDepth 100000 in
set_option maxHeartbeats 3200000 in
theorem run_ok (L : Option Addr) (c n : Nat) (xs : List AV) (T : Option Addr) (ct nt : Nat) (t : List Int) (w : World) (hl : xs.length = n) (h : RdL w w.heap.size L xs) (hc1 : n ≤ c) (hc2 : c ≤ 9223372036854775807) (hT : RdI w w.heap.size T t) (ht : t.length = nt) (hct : nt ≤ ct) (hct2 : ct ≤ 9223372036854775807) (hz : chkL (xs.map AV.a) = 0) (hns : noSt (xs.map AV.a) = false) (hk : knw (xs.map AV.a) t = true) :
    Calls Tryd.prog 24 #[.slice L n c, .slice T nt ct] w fun e w' => ∃ u, e = .returned (.tuple #[u, .int .i64 ((runL (stp (xs.map AV.a)) (ini (xs.map AV.a)) t).2 : Nat), .int .i64 0]) ∧ w'.ownsRow w.heap.size 3 1 u n (iv (runL (stp (xs.map AV.a)) (ini (xs.map AV.a)) t).1) ∧ Below w.heap.size w w' := by
  have htu := ini_tup (chkL_wf hz).2 hns
  obtain ⟨R, hR⟩ : ∃ R, runL (stp (xs.map AV.a)) (ini (xs.map AV.a)) t = R := ⟨_, rfl⟩
  rw [hR]
  have HKN := Lib.hid hk; clear hk
  have HTU := Lib.hid htu; clear htu
  have HR := Lib.hid hR; clear hR
  have HC := Lib.hid (product_Check L c n xs w hl h hc1 hc2)
  rw [hz] at HC
  obtain ⟨hn, hw⟩ := chkL_wf hz
  rw [List.length_map, hl] at hn
  have HL := Lib.hid hl; clear hl
  have HW := Lib.hid hw; clear hw
  have HTL := Lib.hid ht; clear ht
  have HNS := Lib.hid hns; clear hns
  go_enter Tryd.func24, Tryd.ntmps24
  go_wp2_with fail
  refine HC.out.mono ?_
  rintro e w1 ⟨rfl, hb1⟩
  have hRL := (h.below hb1).more hb1.size
  have HOP := Lib.hid (product_open L c n xs w1 w1.heap.size HL.out hRL (Nat.le_refl _) hc1 hc2 hn HW.out)
  have HB1 := Lib.hid hb1; clear hb1
  clear hRL HC
  go_wp2_with fail
  refine HOP.out.mono ?_
  rintro e w2 ⟨V, nv, cv, G, cg, rfl, hMF, hb2⟩
  have hB02 := HB1.out.trans (hb2.mono HB1.out.size)
  have hMR := hMF.mach hb2.size
  have hTb := (hT.below hB02).more hB02.size
  have hbm := box_below w2 (.cells #[.slice L n c, .slice V nv cv, .slice G n cg] 91)
  have HIN := Lib.hid (mach_initial L n c V nv cv G cg xs (w2.alloc (.cells #[.slice L n c, .slice V nv cv, .slice G n cg] 91)) ((hMR.after hbm (Nat.le_refl _)).more hbm.size) hn)
  rw [HNS.out] at HIN
  rw [if_neg (by decide), show (!false) = true from rfl] at HIN
  clear HOP HB1 hMF hb2 h hT
  have HB02 := Lib.hid hB02; clear hB02
  have HMR := Lib.hid hMR; clear hMR
  have HTB := Lib.hid hTb; clear hTb
  have HBM := Lib.hid hbm; clear hbm
  go_wp2_with fail
  refine HIN.out.mono ?_
  rintro e w3 ⟨v3, rfl, ho3, hb3⟩
  obtain ⟨A3, c3, rfl⟩ := own_shape ho3
  have hBL := HBM.out.trans (hb3.mono HBM.out.size)
  have hl3 : w2.heap.size < w3.heap.size := by have := hb3.size; simp at this; omega
  have hp : ∀ j, w3.cell? ⟨w2.heap.size, j, none⟩ = (w2.alloc (.cells #[.slice L n c, .slice V nv cv, .slice G n cg] 91)).cell? ⟨w2.heap.size, j, none⟩ := fun j => hb3.cell (p := ⟨w2.heap.size, j, none⟩) (by simp)
  have c0 : w3.cell? ⟨w2.heap.size, 0, none⟩ = some (.slice L n c) := (hp 0).trans (box_cells (us := [_, _, _]) (Below.refl _ _) rfl)
  have c1 : w3.cell? ⟨w2.heap.size, 1, none⟩ = some (.slice V nv cv) := (hp 1).trans (box_cells (us := [_, _, _]) (Below.refl _ _) rfl)
  have c2 : w3.cell? ⟨w2.heap.size, 2, none⟩ = some (.slice G n cg) := (hp 2).trans (box_cells (us := [_, _, _]) (Below.refl _ _) rfl)
  have HM3 := Lib.hid ((HMR.out.after hBL (Nat.le_refl _)).more hBL.size)
  have HT3 := Lib.hid ((HTB.out.below hBL).more hBL.size)
  have HAI := Lib.hid (evs_inc fun a ha => (HW.out a ha).inc)
  have hnv : nv ≤ 32 := by rw [← HMR.out.lv]; exact evs_le HW.out
  have hil : (ini (xs.map AV.a)).length = n := by simp [ini, HL.out]
  rw [hil] at ho3
  rw [hil]
  have HO3 := Lib.hid ho3
  have HBL := Lib.hid hBL; clear hBL
  clear hp hb3 HIN ho3 HMR HTB
  go_wp2
  go_loopw [4, 5, 30] (fun s4 s5 s30 wr => ∃ (k : Nat), s30 = .int .i64 k ∧ k ≤ nt ∧ s4 = .slice A3 n c3 ∧ s5 = .int .i64 0 ∧ wr = w3) (fun _ _ s30 _ => nt - (intOf s30).toNat)
  case atStart => exact ⟨0, rfl, Nat.zero_le _, rfl, rfl, rfl⟩
  case round =>
    obtain ⟨k, rfl, hk, rfl, rfl, hw⟩ := hrel
    obtain rfl := hw.symm
    by_cases hlt : k < nt
    · obtain ⟨td, x, rfl, _, hts, hcs⟩ := HT3.out.at_ (k := k) (by have := HTL.out; omega)
      have b1 : (k : Int) < (nt : Int) := by omega
      have HCX := Lib.hid (alphabet_Contains_n V cv nv (evs (xs.map AV.a)) x true w3 HM3.out.lv (knw_at HKN.out hts) HM3.out.rv (by omega) HAI.out)
      have HTS := Lib.hid hts; clear hts
      go_wp2_with fail
      refine HCX.out.mono ?_
      rintro e w' ⟨rfl, rfl⟩
      go_wp2
      go_roundw
      case rel => exact ⟨k + 1, by go_num, by omega, rfl, rfl, by first | trivial | rfl⟩
      case measure => simp [intOf]; omega
    · have C0 := Lib.hid c0
      have C1 := Lib.hid c1
      have C2 := Lib.hid c2
      clear c0 c1 c2
      go_wp2
      have HR0 := Lib.hid (show (runL (stp (xs.map AV.a)) (ini (xs.map AV.a)) (t.drop 0)).1 = R.1 ∧ (runL (stp (xs.map AV.a)) (ini (xs.map AV.a)) (t.drop 0)).2 + 0 = R.2 by rw [List.drop_zero, HR.out]; exact ⟨rfl, rfl⟩)
      have hsz3 : w2.heap.size + 1 ≤ w3.heap.size := hl3
      have HO3b := Lib.hid (own_base HO3.out (show w2.heap.size + 1 ≤ (w2.alloc (.cells #[.slice L n c, .slice V nv cv, .slice G n cg] 91)).heap.size by simp))
      clear HO3 HR
      go_loopw [4, 5] (fun s4 s5 wr => ∃ (k : Nat) (tv : Value) (tk : List Int), s5 = .int .i64 k ∧ s4 = tv ∧ k ≤ nt ∧ Hid (Tup (xs.map AV.a) tk) ∧ Hid (wr.ownsRow (w2.heap.size + 1) 3 1 tv n (iv tk)) ∧ Hid ((runL (stp (xs.map AV.a)) tk (t.drop k)).1 = R.1 ∧ (runL (stp (xs.map AV.a)) tk (t.drop k)).2 + k = R.2) ∧ Below w3.heap.size w3 wr) (fun _ s5 _ => nt - (intOf s5).toNat)
      case atStart => exact ⟨0, _, ini (xs.map AV.a), rfl, rfl, Nat.zero_le _, HTU, HO3b, HR0, Below.refl _ _⟩
      case round =>
        obtain ⟨k, tv, tk, rfl, rfl, hk, HT, HO, HRN, hbel⟩ := hrel
        clear HO3b HR0 HTU
        obtain ⟨A4, c4, rfl⟩ := own_shape HO.out
        have hszq : w2.heap.size + 1 ≤ wr.heap.size := Nat.le_trans hsz3 hbel.size
        have hBW := HBL.out.trans (hbel.mono HBL.out.size)
        by_cases hlt : k < nt
        · obtain ⟨td, x, rfl, htb, hts, hcs⟩ := ((HT3.out.below hbel).more hbel.size).at_ (k := k) (by have := HTL.out; omega)
          have b1 : (k : Int) < (nt : Int) := by omega
          have htd : td.block < wr.heap.size := htb
          have hAr : wr.cell? ⟨w2.heap.size, 0, none⟩ = some (.slice L n c) ∧ wr.cell? ⟨w2.heap.size, 1, none⟩ = some (.slice V nv cv) ∧ wr.cell? ⟨w2.heap.size, 2, none⟩ = some (.slice G n cg) ∧ wr.cell? (td.add k) = some (.int .i64 x) := ⟨(hbel.cell (p := ⟨w2.heap.size, 0, none⟩) hl3).trans C0.out, (hbel.cell (p := ⟨w2.heap.size, 1, none⟩) hl3).trans C1.out, (hbel.cell (p := ⟨w2.heap.size, 2, none⟩) hl3).trans C2.out, hcs⟩
          go_wp2
          refine wp_region_U (fun W => W.cell? ⟨w2.heap.size, 0, none⟩ = some (.slice L n c) ∧ W.cell? ⟨w2.heap.size, 1, none⟩ = some (.slice V nv cv) ∧ W.cell? ⟨w2.heap.size, 2, none⟩ = some (.slice G n cg) ∧ W.cell? (td.add k) = some (.int .i64 x)) (fun _ => True) 11 (by kernel_rfl) ?_
          change anyU _ _ _ _ _ _ _ 12 _ _ _
          have hA0 : wr.drew.cell? ⟨w2.heap.size, 0, none⟩ = some (.slice L n c) ∧ wr.drew.cell? ⟨w2.heap.size, 1, none⟩ = some (.slice V nv cv) ∧ wr.drew.cell? ⟨w2.heap.size, 2, none⟩ = some (.slice G n cg) ∧ wr.drew.cell? (td.add k) = some (.int .i64 x) := hAr
          have hB0 : True := trivial
          have hbd := below_dr wr
          have HMD := Lib.hid ((HM3.out.after (hbel.trans (hbd.mono hbel.size)) (Nat.le_refl _)).more (hbel.trans (hbd.mono hbel.size)).size)
          have HOD := Lib.hid (own_below HO.out hbd)
          have hszd : w2.heap.size + 1 ≤ wr.drew.heap.size := hszq
          have htdd : td.block < wr.drew.heap.size := htb
          have hbel' := hbel.trans (hbd.mono hbel.size)
          have hl4 : w2.heap.size < wr.drew.heap.size := by omega
          have HTS := Lib.hid hts; clear hts
          clear hAr hcs hbd HO hbel hszq
          generalize hwd : wr.drew = wd at hA0 HMD HOD hszd htdd hbel' hl4 ⊢
          have HWD := Lib.hid hwd; clear hwd
          have HST := Lib.hid (fun r hr => mach_step L n c V nv cv G cg xs A4 c4 tk x r wd HMD.out hn (RdI.of_own HOD.out) (own_cap' HOD.out).1 HW.out HT.out hr)
          ((refine uTake (i := 0) (v := ?_) rfl (by kernel_rfl) (fun _ _ _ h => h) (by rfl) (fun W hA hB => ?_) ⟨hA0, fun _ => hB0⟩ ?_; rotate_left; (· (clear hB; (try dsimp only at hA); go_simp; try with_reducible rfl)); (try simp only [Act.put, List.setIfInBounds_toArray, List.set_cons_zero, List.set_cons_succ])); (refine uTake (i := 1) (v := ?_) rfl (by kernel_rfl) (fun _ _ _ h => h) (by rfl) (fun W hA hB => ?_) ⟨hA0, fun _ => hB0⟩ ?_; rotate_left; (· (clear hB; (try dsimp only at hA); go_simp; try with_reducible rfl)); (try simp only [Act.put, List.setIfInBounds_toArray, List.set_cons_zero, List.set_cons_succ])); (refine uTake (i := 2) (v := ?_) rfl (by kernel_rfl) (fun _ _ _ h => h) (by rfl) (fun W hA hB => ?_) ⟨hA0, fun _ => hB0⟩ ?_; rotate_left; (· (clear hB; (try dsimp only at hA); go_simp; try with_reducible rfl)); (try simp only [Act.put, List.setIfInBounds_toArray, List.set_cons_zero, List.set_cons_succ])); (refine uTake (i := 3) (v := ?_) rfl (by kernel_rfl) (fun _ _ _ h => h) (by rfl) (fun W hA hB => ?_) ⟨hA0, fun _ => hB0⟩ ?_; rotate_left; (· (clear hB; (try dsimp only at hA); go_simp; try with_reducible rfl)); (try simp only [Act.put, List.setIfInBounds_toArray, List.set_cons_zero, List.set_cons_succ])); (refine uTake (i := 4) (v := ?_) rfl (by kernel_rfl) (fun _ _ _ h => h) (by rfl) (fun W hA hB => ?_) ⟨hA0, fun _ => hB0⟩ ?_; rotate_left; (· (clear hB; (try dsimp only at hA); go_simp; try with_reducible rfl)); (try simp only [Act.put, List.setIfInBounds_toArray, List.set_cons_zero, List.set_cons_succ])); (refine uTake (i := 5) (v := ?_) rfl (by kernel_rfl) (fun _ _ _ h => h) (by rfl) (fun W hA hB => ?_) ⟨hA0, fun _ => hB0⟩ ?_; rotate_left; (· (clear hB; (try dsimp only at hA); go_simp; try with_reducible rfl)); (try simp only [Act.put, List.setIfInBounds_toArray, List.set_cons_zero, List.set_cons_succ])))
          cases hq : stp (xs.map AV.a) tk x with
          | none =>
            have HS := Lib.hid (HST.out none hq)
            have HFI := Lib.hid (runL_stop HTS.out hq)
            clear HST hq
            · refine uOne (i := 6) rfl (by kernel_rfl) (fun K hK => ?_)
              go_simp
              go_at_call 50
              refine HS.out.mono ?_
              rintro e w5 ⟨v5, rfl, ho5, hb5⟩
              obtain ⟨A5, c5, rfl⟩ := own_shape ho5
              have hA5 : w5.cell? ⟨w2.heap.size, 0, none⟩ = some (.slice L n c) ∧ w5.cell? ⟨w2.heap.size, 1, none⟩ = some (.slice V nv cv) ∧ w5.cell? ⟨w2.heap.size, 2, none⟩ = some (.slice G n cg) ∧ w5.cell? (td.add k) = some (.int .i64 x) := ⟨(hb5.cell (p := ⟨w2.heap.size, 0, none⟩) hl4).trans hA0.1, (hb5.cell (p := ⟨w2.heap.size, 1, none⟩) hl4).trans hA0.2.1, (hb5.cell (p := ⟨w2.heap.size, 2, none⟩) hl4).trans hA0.2.2.1, (hb5.cell (p := td.add k) (by rw [block_of_add]; exact htdd)).trans hA0.2.2.2⟩
              have HO5 := Lib.hid (own_below HOD.out hb5)
              have hbel5 := hbel'.trans (hb5.mono hbel'.size)
              have HN5 := Lib.hid (own_base ho5 hszd)
              clear hA0 HOD hb5 hbel' hl4 htdd hszd HMD ho5
              (refine hK _ _ ⟨hA5, fun _ => hB0⟩ ?_; clear hK K; (try simp only [Act.put, List.setIfInBounds_toArray, List.set_cons_zero, List.set_cons_succ]))
              have hA0 := hA5
              ((refine uTake (i := 7) (v := ?_) rfl (by kernel_rfl) (fun _ _ _ h => h) (by rfl) (fun W hA hB => ?_) ⟨hA0, fun _ => hB0⟩ ?_; rotate_left; (· (clear hB; (try dsimp only at hA); go_simp; try with_reducible rfl)); (try simp only [Act.put, List.setIfInBounds_toArray, List.set_cons_zero, List.set_cons_succ])); (refine uTake (i := 8) (v := ?_) rfl (by kernel_rfl) (fun _ _ _ h => h) (by rfl) (fun W hA hB => ?_) ⟨hA0, fun _ => hB0⟩ ?_; rotate_left; (· (clear hB; (try dsimp only at hA); go_simp; try with_reducible rfl)); (try simp only [Act.put, List.setIfInBounds_toArray, List.set_cons_zero, List.set_cons_succ])); (refine uTake (i := 9) (v := ?_) rfl (by kernel_rfl) (fun _ _ _ h => h) (by rfl) (fun W hA hB => ?_) ⟨hA0, fun _ => hB0⟩ ?_; rotate_left; (· (clear hB; (try dsimp only at hA); go_simp; try with_reducible rfl)); (try simp only [Act.put, List.setIfInBounds_toArray, List.set_cons_zero, List.set_cons_succ])))
              refine uOne (i := 10) rfl (by kernel_rfl) (fun K hK => ?_)
              go_simp
              (refine hK _ _ ⟨hA5, fun _ => hB0⟩ ?_; clear hK K; (try simp only [Act.put, List.setIfInBounds_toArray, List.set_cons_zero, List.set_cons_succ]))
              refine uOne (i := 11) rfl (by kernel_rfl) (fun K hK => ?_)
              go_simp
              (refine hK _ _ ⟨hA5, fun _ => hB0⟩ ?_; clear hK K; (try simp only [Act.put, List.setIfInBounds_toArray, List.set_cons_zero, List.set_cons_succ]))
              refine anyU_done (by kernel_rfl) ?_ _
              clear hA0 hA5
              go_wp2
              have h1 := HRN.out
              rw [HFI.out] at h1
              have h2 : k = R.2 := by have := h1.2; simpa using this
              have h3 : tk = R.1 := h1.1
              refine bodyPost_ret (v := .tuple #[.slice A4 n c4, .int .i64 (k : Int), .int .i64 0]) (by simp [results, Tryd.results24, go_sem]) rfl ?_
              exact ⟨_, by rw [h2], by rw [← h3]; exact own_base HO5.out (Nat.le_succ_of_le HB02.out.size), HB02.out.trans ((HBL.out.trans (hbel5.mono HBL.out.size)).mono HB02.out.size)⟩
          | some u =>
            have HS := Lib.hid (HST.out (some u) hq)
            have HFI := Lib.hid (runL_go HTS.out hq)
            have HTU2 := Lib.hid (stp_tup HW.out HT.out hq)
            have hun : u.length = n := by rw [HTU2.out.len, List.length_map, HL.out]
            clear HST hq
            · refine uOne (i := 6) rfl (by kernel_rfl) (fun K hK => ?_)
              go_simp
              go_at_call 50
              refine HS.out.mono ?_
              rintro e w5 ⟨v5, rfl, ho5, hb5⟩
              simp only [Option.getD_some, hun] at ho5
              obtain ⟨A5, c5, rfl⟩ := own_shape ho5
              clear hun
              have hA5 : w5.cell? ⟨w2.heap.size, 0, none⟩ = some (.slice L n c) ∧ w5.cell? ⟨w2.heap.size, 1, none⟩ = some (.slice V nv cv) ∧ w5.cell? ⟨w2.heap.size, 2, none⟩ = some (.slice G n cg) ∧ w5.cell? (td.add k) = some (.int .i64 x) := ⟨(hb5.cell (p := ⟨w2.heap.size, 0, none⟩) hl4).trans hA0.1, (hb5.cell (p := ⟨w2.heap.size, 1, none⟩) hl4).trans hA0.2.1, (hb5.cell (p := ⟨w2.heap.size, 2, none⟩) hl4).trans hA0.2.2.1, (hb5.cell (p := td.add k) (by rw [block_of_add]; exact htdd)).trans hA0.2.2.2⟩
              have HO5 := Lib.hid (own_below HOD.out hb5)
              have hbel5 := hbel'.trans (hb5.mono hbel'.size)
              have HN5 := Lib.hid (own_base ho5 hszd)
              clear hA0 HOD hb5 hbel' hl4 htdd hszd HMD ho5
              (refine hK _ _ ⟨hA5, fun _ => hB0⟩ ?_; clear hK K; (try simp only [Act.put, List.setIfInBounds_toArray, List.set_cons_zero, List.set_cons_succ]))
              have hA0 := hA5
              ((refine uTake (i := 7) (v := ?_) rfl (by kernel_rfl) (fun _ _ _ h => h) (by rfl) (fun W hA hB => ?_) ⟨hA0, fun _ => hB0⟩ ?_; rotate_left; (· (clear hB; (try dsimp only at hA); go_simp; try with_reducible rfl)); (try simp only [Act.put, List.setIfInBounds_toArray, List.set_cons_zero, List.set_cons_succ])); (refine uTake (i := 8) (v := ?_) rfl (by kernel_rfl) (fun _ _ _ h => h) (by rfl) (fun W hA hB => ?_) ⟨hA0, fun _ => hB0⟩ ?_; rotate_left; (· (clear hB; (try dsimp only at hA); go_simp; try with_reducible rfl)); (try simp only [Act.put, List.setIfInBounds_toArray, List.set_cons_zero, List.set_cons_succ])); (refine uTake (i := 9) (v := ?_) rfl (by kernel_rfl) (fun _ _ _ h => h) (by rfl) (fun W hA hB => ?_) ⟨hA0, fun _ => hB0⟩ ?_; rotate_left; (· (clear hB; (try dsimp only at hA); go_simp; try with_reducible rfl)); (try simp only [Act.put, List.setIfInBounds_toArray, List.set_cons_zero, List.set_cons_succ])))
              refine uOne (i := 10) rfl (by kernel_rfl) (fun K hK => ?_)
              go_simp
              (refine hK _ _ ⟨hA5, fun _ => hB0⟩ ?_; clear hK K; (try simp only [Act.put, List.setIfInBounds_toArray, List.set_cons_zero, List.set_cons_succ]))
              refine uOne (i := 11) rfl (by kernel_rfl) (fun K hK => ?_)
              go_simp
              (refine hK _ _ ⟨hA5, fun _ => hB0⟩ ?_; clear hK K; (try simp only [Act.put, List.setIfInBounds_toArray, List.set_cons_zero, List.set_cons_succ]))
              refine anyU_done (by kernel_rfl) ?_ _
              clear hA0 hA5
              go_wp2
              go_roundw
              case rel =>
                refine ⟨k + 1, _, u, by go_num, rfl, by omega, HTU2, HN5, Lib.hid ?_, hbel5⟩
                have h1 := HRN.out
                rw [HFI.out] at h1
                exact ⟨h1.1, by have := h1.2; simp only at this; omega⟩
              case measure => simp [intOf]; omega
        · have HFI := Lib.hid (runL_end (st := stp (xs.map AV.a)) (t := tk) (ws := t) (k := k) (by have := HTL.out; omega))
          go_wp2
          have h1 := HRN.out
          rw [HFI.out] at h1
          have h2 : k = R.2 := by have := h1.2; simpa using this
          have h3 : tk = R.1 := h1.1
          refine bodyPost_ret (v := .tuple #[.slice A4 n c4, .int .i64 (k : Int), .int .i64 0]) (by simp [results, Tryd.results24, go_sem]) rfl ?_
          exact ⟨_, by rw [h2], by rw [← h3]; exact own_base HO.out (Nat.le_succ_of_le HB02.out.size), HB02.out.trans ((HBL.out.trans (hbel.mono HBL.out.size)).mono HB02.out.size)⟩

theorem hasB_succ {l : List Int} {k : Nat} {x v : Int} (h : l[k]? = some x) : hasB (l.take (k + 1)) v = (hasB (l.take k) v || (x == v)) := by
  rw [take_snoc' h, Bool.eq_iff_iff, Bool.or_eq_true, hasB_mem, hasB_mem, List.mem_append, List.mem_singleton, beq_iff_eq]
  exact ⟨fun h => h.imp id Eq.symm, fun h => h.imp id Eq.symm⟩
def nine (q : Bool) : Int := if q then 0 else 9



set_option maxRecDepth 100000 in
set_option maxHeartbeats 6400000 in
theorem runs_long (L : Option Addr) (c n : Nat) (ps : List Pt) (T : Option Addr) (ct nt : Nat) (t : List Int) (w : World) (hl : ps.length = n) (h : RdP w w.heap.size L ps) (ht : t.length = nt) (hT : RdI w w.heap.size T t) (hn : 10 < nt) :
    Calls Tryd.prog 8 #[.slice L n c, .slice T nt ct] w fun e w' => e = .returned (.bool true) ∧ Below w.heap.size w w' := by
  have b4 : (10 : Int) < (nt : Int) := by omega
  have HK := Lib.hid (law_known w)
  have HL := Lib.hid hl; clear hl
  have HX := Lib.hid h; clear h
  have HT := Lib.hid hT; clear hT
  have HTL := Lib.hid ht; clear ht
  go_enter Tryd.func8, Tryd.ntmps8
  go_wp2_with fail
  refine HK.out.mono ?_
  rintro e w1 ⟨rfl, hb1⟩
  have HK2 := Lib.hid (law_known w1)
  have HB1 := Lib.hid hb1; clear hb1
  clear HK
  go_wp2_with fail
  refine HK2.out.mono ?_
  rintro e w2 ⟨rfl, hb2⟩
  go_wp2
  go_ret
  exact ⟨rfl, HB1.out.trans (hb2.mono HB1.out.size)⟩

set_option maxRecDepth 100000 in
set_option maxHeartbeats 6400000 in
theorem runs_walk (L : Option Addr) (c n : Nat) (ps : List Pt) (T : Option Addr) (ct nt : Nat) (t : List Int) (w : World) (hl : ps.length = n) (h : RdP w w.heap.size L ps) (ht : t.length = nt) (hT : RdI w w.heap.size T t) (hct : nt ≤ ct) (hct2 : ct ≤ 9223372036854775807) (hn : ¬ 10 < nt) :
    Calls Tryd.prog 8 #[.slice L n c, .slice T nt ct] w fun e w' => e = .returned (.bool true) ∧ Below w.heap.size w w' := by
  have HK := Lib.hid (law_known w)
  have HL := Lib.hid hl; clear hl
  have HX := Lib.hid h; clear h
  have HT := Lib.hid hT; clear hT
  have HTL := Lib.hid ht; clear ht
  go_enter Tryd.func8, Tryd.ntmps8
  go_wp2_with fail
  refine HK.out.mono ?_
  rintro e w1 ⟨rfl, hb1⟩
  have HLI := Lib.hid (law_List L c n ps w1 HL.out ⟨(HX.out.1.below hb1).more hb1.size, HX.out.2⟩)
  have b4 : decide ((10 : Int) < (nt : Int)) = false := decide_eq_false (by omega)
  have HB1 := Lib.hid hb1; clear hb1
  clear HK
  go_wp2_with fail
  refine HLI.out.mono ?_
  rintro e w2 ⟨A2, n2, c2, xs, rfl, hm2, hl2, hc1, hc2, hr2, hb2⟩
  have HF := Lib.hid (show FewL (xs.map AV.a) by rw [hm2]; exact lst_few HX.out.2)
  have hB2 := HB1.out.trans (hb2.mono HB1.out.size)
  have HT2 := Lib.hid ((HT.out.below hB2).more hB2.size)
  have HL2 := Lib.hid hl2; clear hl2
  have HR2 := Lib.hid hr2; clear hr2
  have HB2 := Lib.hid hB2; clear hB2
  clear hb2 HLI HB1 hm2 HL HX HT b4
  have HZ := HF.out.chk
  cases hns : noSt (xs.map AV.a) with
  | true =>
    have HRU := Lib.hid (run_empty A2 c2 n2 xs T ct nt t w2 HL2.out HR2.out hc1 hc2 HT2.out HTL.out HZ hns)
    have HNS := Lib.hid hns; clear hns
    go_wp2_with fail
    refine HRU.out.mono ?_
    rintro e w4 ⟨rfl, hB4⟩
    have HI := Lib.hid (ref_Initial A2 c2 n2 xs w4 HL2.out ((HR2.out.below hB4).more hB4.size) hc1 hc2 (by have := HF.out.len; rw [List.length_map, HL2.out] at this; omega))
    rw [HNS.out] at HI
    rw [if_pos rfl, show (!true) = false from rfl] at HI
    have HB4 := Lib.hid hB4
    clear hB4
    go_wp2_with fail
    refine HI.out.mono ?_
    rintro e w5 ⟨v5, rfl, ho5, hb5⟩
    obtain ⟨A5, c5, rfl⟩ := own_shape ho5
    have hB5 := HB4.out.trans (hb5.mono HB4.out.size)
    have HAL := Lib.hid (ref_Alphabet6 A2 c2 n2 xs w5 HL2.out ((HR2.out.below hB5).more hB5.size) hc1 hc2 HF.out.wf)
    clear hb5 ho5
    have HB5 := Lib.hid hB5
    clear hB5
    go_wp2_with fail
    refine HAL.out.mono ?_
    rintro e w6 ⟨v6, rfl, ho6, hb6⟩
    obtain ⟨A6, c6, rfl⟩ := own_shape ho6
    have hB6 := HB5.out.trans (hb6.mono HB5.out.size)
    obtain ⟨VV, hVV⟩ : ∃ VV, evs (xs.map AV.a) = VV := ⟨_, rfl⟩
    rw [hVV] at ho6
    obtain ⟨nv, hnv⟩ : ∃ nv, VV.length = nv := ⟨_, rfl⟩
    have hle : nv ≤ 32 := by rw [← hnv, ← hVV]; exact evs_le HF.out.wf
    rw [hVV, hnv]
    rw [hnv] at ho6
    have HRV := Lib.hid (RdI.of_own ho6)
    have HTW := Lib.hid ((HT2.out.below hB6).more hB6.size)
    have HVV := Lib.hid hVV; clear hVV
    have HNV := Lib.hid hnv; clear hnv
    have HB6 := Lib.hid hB6; clear hB6
    clear HAL
    clear ho6 hb6
    go_wp2
    go_loopw [11, 13] (fun s11 s13 wr => s11 = .int .i64 12 ∧ s13 = .int .i64 0 ∧ wr = w6) (fun _ _ _ => 0)
    case atStart => exact ⟨rfl, rfl, rfl⟩
    case round =>
      obtain ⟨rfl, rfl, rfl⟩ := hrel
      have hfin := HB2.out.trans (HB6.out.mono HB2.out.size)
      have HFI := Lib.hid hfin; clear hfin
      by_cases hlt : 0 < nt
      · have b1 : (0 : Int) < (nt : Int) := by omega
        go_wp2
        go_ret
        exact ⟨rfl, HFI.out⟩
      · have b1 : decide ((0 : Int) < (nt : Int)) = false := decide_eq_false (by omega)
        go_wp2
        go_ret
        exact ⟨rfl, HFI.out⟩
  | false =>
    cases hkn : knw (xs.map AV.a) t with
    | false =>
      have HRU := Lib.hid (run_unknown A2 c2 n2 xs T ct nt t w2 HL2.out HR2.out hc1 hc2 HT2.out HTL.out hct hct2 HZ hns hkn)
      have HNS := Lib.hid hns; clear hns
      have HKN := Lib.hid hkn; clear hkn
      go_wp2_with fail
      refine HRU.out.mono ?_
      rintro e w4 ⟨rfl, hB4⟩
      have HI := Lib.hid (ref_Initial A2 c2 n2 xs w4 HL2.out ((HR2.out.below hB4).more hB4.size) hc1 hc2 (by have := HF.out.len; rw [List.length_map, HL2.out] at this; omega))
      rw [HNS.out] at HI
      rw [if_neg (by decide), show (!false) = true from rfl] at HI
      have HB4 := Lib.hid hB4
      clear hB4
      go_wp2_with fail
      refine HI.out.mono ?_
      rintro e w5 ⟨v5, rfl, ho5, hb5⟩
      obtain ⟨A5, c5, rfl⟩ := own_shape ho5
      have hB5 := HB4.out.trans (hb5.mono HB4.out.size)
      have HAL := Lib.hid (ref_Alphabet6 A2 c2 n2 xs w5 HL2.out ((HR2.out.below hB5).more hB5.size) hc1 hc2 HF.out.wf)
      clear hb5 ho5
      have HB5 := Lib.hid hB5
      clear hB5
      go_wp2_with fail
      refine HAL.out.mono ?_
      rintro e w6 ⟨v6, rfl, ho6, hb6⟩
      obtain ⟨A6, c6, rfl⟩ := own_shape ho6
      have hB6 := HB5.out.trans (hb6.mono HB5.out.size)
      obtain ⟨VV, hVV⟩ : ∃ VV, evs (xs.map AV.a) = VV := ⟨_, rfl⟩
      rw [hVV] at ho6
      obtain ⟨nv, hnv⟩ : ∃ nv, VV.length = nv := ⟨_, rfl⟩
      have hle : nv ≤ 32 := by rw [← hnv, ← hVV]; exact evs_le HF.out.wf
      rw [hVV, hnv]
      rw [hnv] at ho6
      have HRV := Lib.hid (RdI.of_own ho6)
      have HTW := Lib.hid ((HT2.out.below hB6).more hB6.size)
      have HVV := Lib.hid hVV; clear hVV
      have HNV := Lib.hid hnv; clear hnv
      have HB6 := Lib.hid hB6; clear hB6
      clear HAL
      clear ho6 hb6
      go_wp2
      go_loopw [11, 13] (fun s11 s13 wr => ∃ (k : Nat) (q : Bool), s13 = .int .i64 k ∧ s11 = .int .i64 (nine q) ∧ k ≤ nt ∧ Hid ((q = true ∧ knw (xs.map AV.a) (t.take k) = true) ∨ (q = false ∧ knw (xs.map AV.a) t = false)) ∧ Below w6.heap.size w6 wr) (fun _ s13 _ => nt - (intOf s13).toNat)
      case atStart => exact ⟨0, true, rfl, rfl, Nat.zero_le _, Lib.hid (.inl ⟨rfl, rfl⟩), Below.refl _ _⟩
      case round =>
        obtain ⟨k, q, rfl, rfl, hk, HQ, hbel⟩ := hrel
        cases q with
        | true =>
          rw [show nine true = 0 from rfl]
          have HK := Lib.hid (show knw (xs.map AV.a) (t.take k) = true by
            rcases HQ.out with ⟨_, h1⟩ | ⟨h1, _⟩
            · exact h1
            · cases h1)
          clear HQ
          by_cases hlt : k < nt
          · obtain ⟨td, x, rfl, htb, hts, hcs⟩ := HTW.out.at_ (k := k) (by have := HTL.out; omega)
            have b1 : (k : Int) < (nt : Int) := by omega
            have HTS := Lib.hid hts; clear hts
            go_wp2
            go_loopw [11, 14] (fun s11 s14 wr => ∃ (j : Nat), s14 = .int .i64 j ∧ j ≤ nv ∧ s11 = .int .i64 (nine (hasB (VV.take j) x)) ∧ Below w6.heap.size w6 wr) (fun _ s14 _ => nv - (intOf s14).toNat)
            case atStart => exact ⟨0, rfl, Nat.zero_le _, rfl, hbel⟩
            case round =>
              obtain ⟨j, rfl, hj, rfl, hbel2⟩ := hrel
              by_cases hlt2 : j < nv
              · obtain ⟨vd, y, rfl, hvb, hve, hvc⟩ := HRV.out.at_ (k := j) (by have := HNV.out; omega)
                have b2 : (j : Int) < (nv : Int) := by omega
                have hc1' : wr.cell? (td.add k) = some (.int .i64 x) := (hbel2.cell (p := td.add k) (by rw [block_of_add]; exact htb)).trans hcs
                have hc2' : wr.cell? (vd.add j) = some (.int .i64 y) := (hbel2.cell (p := vd.add j) (by rw [block_of_add]; exact hvb)).trans hvc
                have hsu := hasB_succ (v := x) hve
                have HVE := Lib.hid hve; clear hve
                clear hcs hvc
                cases hyx : (y == x) with
                | true =>
                  have HSU := Lib.hid (show hasB (VV.take (j + 1)) x = true by rw [hsu, hyx, Bool.or_true])
                  clear hsu
                  go_wp2
                  go_quiet (fail)
                  go_wp2
                  go_roundw
                  case rel => exact ⟨j + 1, by go_num, by omega, by rw [HSU.out]; rfl, below_drewN hbel2 _⟩
                  case measure => simp [intOf]; omega
                | false =>
                  have HSU := Lib.hid (show hasB (VV.take (j + 1)) x = hasB (VV.take j) x by rw [hsu, hyx, Bool.or_false])
                  clear hsu
                  go_wp2
                  go_quiet (fail)
                  go_wp2
                  go_roundw
                  case rel => exact ⟨j + 1, by go_num, by omega, by rw [HSU.out], below_drewN hbel2 _⟩
                  case measure => simp [intOf]; omega
              · have hfin : hasB (VV.take j) x = hasB VV x := by rw [List.take_of_length_le (by have := HNV.out; omega)]
                rw [hfin]
                clear hfin
                obtain ⟨q, hq⟩ : ∃ q, hasB VV x = q := ⟨_, rfl⟩
                rw [hq]
                have HQ := Lib.hid (show (q = true ∧ knw (xs.map AV.a) (t.take (k + 1)) = true) ∨ (q = false ∧ knw (xs.map AV.a) t = false) by
                  cases q with
                  | true => exact .inl ⟨rfl, knw_step HK.out HTS.out (by rw [HVV.out]; exact hq)⟩
                  | false => exact .inr ⟨rfl, knw_no HTS.out (by rw [HVV.out]; exact hq)⟩)
                clear hq
                go_wp2
                go_roundw
                case rel => exact ⟨k + 1, q, by go_num, rfl, by omega, HQ, hbel2⟩
                case measure => simp [intOf]; omega
          · have hkt : knw (xs.map AV.a) t = true := by have h1 := HK.out; rwa [List.take_of_length_le (by have := HTL.out; omega)] at h1
            have b1 : decide ((k : Int) < (nt : Int)) = false := decide_eq_false (by omega)
            exact absurd (hkt.symm.trans HKN.out) (by decide)
        | false =>
          rw [show nine false = 9 from rfl]
          have hkt : knw (xs.map AV.a) t = false := by
            rcases HQ.out with ⟨h1, _⟩ | ⟨_, h1⟩
            · cases h1
            · exact h1
          clear HQ
          have hfin := HB2.out.trans ((HB6.out.trans (hbel.mono HB6.out.size)).mono HB2.out.size)
          have HFI := Lib.hid hfin; clear hfin
          clear hkt hbel
          by_cases hlt : k < nt
          · have b1 : (k : Int) < (nt : Int) := by omega
            go_wp2
            go_ret
            exact ⟨rfl, HFI.out⟩
          · have b1 : decide ((k : Int) < (nt : Int)) = false := decide_eq_false (by omega)
            go_wp2
            go_ret
            exact ⟨rfl, HFI.out⟩
    | true =>
      have HRU := Lib.hid (run_ok A2 c2 n2 xs T ct nt t w2 HL2.out HR2.out hc1 hc2 HT2.out HTL.out hct hct2 HZ hns hkn)
      obtain ⟨R, hR⟩ : ∃ R, runL (stp (xs.map AV.a)) (ini (xs.map AV.a)) t = R := ⟨_, rfl⟩
      rw [hR] at HRU
      have hn3 : n2 ≤ 1000000 := by have := HF.out.len; rw [List.length_map, HL2.out] at this; omega
      have HR := Lib.hid hR; clear hR
      have HNS := Lib.hid hns; clear hns
      have HKN := Lib.hid hkn; clear hkn
      go_wp2_with fail
      refine HRU.out.mono ?_
      rintro e w4 ⟨u4, rfl, ho4, hB4⟩
      obtain ⟨A4, c4, rfl⟩ := own_shape ho4
      have HI := Lib.hid (ref_Initial A2 c2 n2 xs w4 HL2.out ((HR2.out.below hB4).more hB4.size) hc1 hc2 (by have := HF.out.len; rw [List.length_map, HL2.out] at this; omega))
      rw [HNS.out] at HI
      rw [if_neg (by decide), show (!false) = true from rfl] at HI
      have HB4 := Lib.hid hB4
      clear hB4
      go_wp2_with fail
      refine HI.out.mono ?_
      rintro e w5 ⟨v5, rfl, ho5, hb5⟩
      obtain ⟨A5, c5, rfl⟩ := own_shape ho5
      have hB5 := HB4.out.trans (hb5.mono HB4.out.size)
      have HAL := Lib.hid (ref_Alphabet6 A2 c2 n2 xs w5 HL2.out ((HR2.out.below hB5).more hB5.size) hc1 hc2 HF.out.wf)
      have HIL := Lib.hid (show (ini (xs.map AV.a)).length = n2 by simp [ini, HL2.out])
      rw [HIL.out] at ho5 ⊢
      have ho5b := own_base ho5 HB4.out.size
      have hcap4 := own_cap' ho4
      have hr4 := RdI.of_own ho4
      have HC4 := Lib.hid hcap4; clear hcap4
      have HB5 := Lib.hid hB5
      clear hB5
      go_wp2_with fail
      refine HAL.out.mono ?_
      rintro e w6 ⟨v6, rfl, ho6, hb6⟩
      obtain ⟨A6, c6, rfl⟩ := own_shape ho6
      have hB6 := HB5.out.trans (hb6.mono HB5.out.size)
      obtain ⟨VV, hVV⟩ : ∃ VV, evs (xs.map AV.a) = VV := ⟨_, rfl⟩
      rw [hVV] at ho6
      obtain ⟨nv, hnv⟩ : ∃ nv, VV.length = nv := ⟨_, rfl⟩
      have hle : nv ≤ 32 := by rw [← hnv, ← hVV]; exact evs_le HF.out.wf
      rw [hVV, hnv]
      rw [hnv] at ho6
      have HRV := Lib.hid (RdI.of_own ho6)
      have HTW := Lib.hid ((HT2.out.below hB6).more hB6.size)
      have HVV := Lib.hid hVV; clear hVV
      have HNV := Lib.hid hnv; clear hnv
      have HB6 := Lib.hid hB6; clear hB6
      clear HAL
      have HO6 := Lib.hid (own_below ho5b hb6)
      have hb46 := hb5.trans (hb6.mono hb5.size)
      have HO4 := Lib.hid ((hr4.below hb46).more hb46.size)
      clear ho6 hb6 ho5 ho5b hb5 hb46 hr4 ho4
      go_wp2
      go_loopw [11, 13] (fun s11 s13 wr => ∃ (k : Nat) (q : Bool), s13 = .int .i64 k ∧ s11 = .int .i64 (nine q) ∧ k ≤ nt ∧ Hid ((q = true ∧ knw (xs.map AV.a) (t.take k) = true) ∨ (q = false ∧ knw (xs.map AV.a) t = false)) ∧ Below w6.heap.size w6 wr) (fun _ s13 _ => nt - (intOf s13).toNat)
      case atStart => exact ⟨0, true, rfl, rfl, Nat.zero_le _, Lib.hid (.inl ⟨rfl, rfl⟩), Below.refl _ _⟩
      case round =>
        obtain ⟨k, q, rfl, rfl, hk, HQ, hbel⟩ := hrel
        cases q with
        | true =>
          rw [show nine true = 0 from rfl]
          have HK := Lib.hid (show knw (xs.map AV.a) (t.take k) = true by
            rcases HQ.out with ⟨_, h1⟩ | ⟨h1, _⟩
            · exact h1
            · cases h1)
          clear HQ
          by_cases hlt : k < nt
          · obtain ⟨td, x, rfl, htb, hts, hcs⟩ := HTW.out.at_ (k := k) (by have := HTL.out; omega)
            have b1 : (k : Int) < (nt : Int) := by omega
            have HTS := Lib.hid hts; clear hts
            go_wp2
            go_loopw [11, 14] (fun s11 s14 wr => ∃ (j : Nat), s14 = .int .i64 j ∧ j ≤ nv ∧ s11 = .int .i64 (nine (hasB (VV.take j) x)) ∧ Below w6.heap.size w6 wr) (fun _ s14 _ => nv - (intOf s14).toNat)
            case atStart => exact ⟨0, rfl, Nat.zero_le _, rfl, hbel⟩
            case round =>
              obtain ⟨j, rfl, hj, rfl, hbel2⟩ := hrel
              by_cases hlt2 : j < nv
              · obtain ⟨vd, y, rfl, hvb, hve, hvc⟩ := HRV.out.at_ (k := j) (by have := HNV.out; omega)
                have b2 : (j : Int) < (nv : Int) := by omega
                have hc1' : wr.cell? (td.add k) = some (.int .i64 x) := (hbel2.cell (p := td.add k) (by rw [block_of_add]; exact htb)).trans hcs
                have hc2' : wr.cell? (vd.add j) = some (.int .i64 y) := (hbel2.cell (p := vd.add j) (by rw [block_of_add]; exact hvb)).trans hvc
                have hsu := hasB_succ (v := x) hve
                have HVE := Lib.hid hve; clear hve
                clear hcs hvc
                cases hyx : (y == x) with
                | true =>
                  have HSU := Lib.hid (show hasB (VV.take (j + 1)) x = true by rw [hsu, hyx, Bool.or_true])
                  clear hsu
                  go_wp2
                  go_quiet (fail)
                  go_wp2
                  go_roundw
                  case rel => exact ⟨j + 1, by go_num, by omega, by rw [HSU.out]; rfl, below_drewN hbel2 _⟩
                  case measure => simp [intOf]; omega
                | false =>
                  have HSU := Lib.hid (show hasB (VV.take (j + 1)) x = hasB (VV.take j) x by rw [hsu, hyx, Bool.or_false])
                  clear hsu
                  go_wp2
                  go_quiet (fail)
                  go_wp2
                  go_roundw
                  case rel => exact ⟨j + 1, by go_num, by omega, by rw [HSU.out], below_drewN hbel2 _⟩
                  case measure => simp [intOf]; omega
              · have hfin : hasB (VV.take j) x = hasB VV x := by rw [List.take_of_length_le (by have := HNV.out; omega)]
                rw [hfin]
                clear hfin
                obtain ⟨q, hq⟩ : ∃ q, hasB VV x = q := ⟨_, rfl⟩
                rw [hq]
                have HQ := Lib.hid (show (q = true ∧ knw (xs.map AV.a) (t.take (k + 1)) = true) ∨ (q = false ∧ knw (xs.map AV.a) t = false) by
                  cases q with
                  | true => exact .inl ⟨rfl, knw_step HK.out HTS.out (by rw [HVV.out]; exact hq)⟩
                  | false => exact .inr ⟨rfl, knw_no HTS.out (by rw [HVV.out]; exact hq)⟩)
                clear hq
                go_wp2
                go_roundw
                case rel => exact ⟨k + 1, q, by go_num, rfl, by omega, HQ, hbel2⟩
                case measure => simp [intOf]; omega
          · have hkt : knw (xs.map AV.a) t = true := by have h1 := HK.out; rwa [List.take_of_length_le (by have := HTL.out; omega)] at h1
            have b1 : decide ((k : Int) < (nt : Int)) = false := decide_eq_false (by omega)
            clear hkt
            go_wp2
            go_loopw [9, 15] (fun s9 s15 wr => ∃ (k : Nat) (tv : Value) (tk : List Int), s15 = .int .i64 k ∧ s9 = tv ∧ k ≤ nt ∧ Hid (tk.length = n2) ∧ Hid (wr.ownsRow w2.heap.size 3 1 tv n2 (iv tk)) ∧ Hid ((runL (stp (xs.map AV.a)) tk (t.drop k)).1 = R.1 ∧ (runL (stp (xs.map AV.a)) tk (t.drop k)).2 + k = R.2) ∧ Below w6.heap.size w6 wr) (fun _ s15 _ => nt - (intOf s15).toNat)
            case atStart => exact ⟨0, _, ini (xs.map AV.a), rfl, rfl, Nat.zero_le _, HIL, Lib.hid (own_below HO6.out hbel), Lib.hid (by rw [List.drop_zero, HR.out]; exact ⟨rfl, rfl⟩), hbel⟩
            case round =>
              clear hbel
              obtain ⟨k, tv, tk, rfl, rfl, hk, HTK, HO, HRN, hbel⟩ := hrel
              obtain ⟨A9, c9, rfl⟩ := own_shape HO.out
              have hBr := HB6.out.trans (hbel.mono HB6.out.size)
              by_cases hlt : k < nt
              · obtain ⟨td, x, rfl, htb, hts, hcs⟩ := HTW.out.at_ (k := k) (by have := HTL.out; omega)
                have b1 : (k : Int) < (nt : Int) := by omega
                have hcs' : wr.cell? (td.add k) = some (.int .i64 x) := (hbel.cell (p := td.add k) (by rw [block_of_add]; exact htb)).trans hcs
                have HS := Lib.hid (ref_Step6 A2 c2 n2 xs A9 c9 tk x wr HL2.out ((HR2.out.below hBr).more hBr.size) hn3 HTK.out (RdI.of_own HO.out) (own_cap' HO.out).1 (own_cap' HO.out).2)
                have HTS := Lib.hid hts; clear hts
                clear hcs
                cases hq : stp (xs.map AV.a) tk x with
                | none =>
                  have HFR := Lib.hid (runL_stop HTS.out hq)
                  rw [hq] at HS
                  clear hq
                  go_wp2_with fail
                  refine HS.out.mono ?_
                  rintro e w9 ⟨v9, rfl, ho9, hb9⟩
                  obtain ⟨AX, cx, rfl⟩ := own_shape ho9
                  have hb69 := hbel.trans (hb9.mono hbel.size)
                  have HO9 := Lib.hid (own_below HO.out hb9)
                  clear ho9 hcs' hb9
                  have h1 := HRN.out
                  rw [HFR.out] at h1
                  have h2 : k = R.2 := by have := h1.2; simpa using this
                  have h3 : R.1 = tk := h1.1.symm
                  have hkb : ((R.2 : Int) == (k : Int)) = true := by rw [h2]; simp
                  have HSM := Lib.hid (law_same_n A4 A9 c4 c9 n2 n2 R.1 tk true w9 (by rw [h3]; exact HTK.out) HTK.out (eqB_of h3) ((HO4.out.below hb69).more hb69.size) HC4.out.1 HC4.out.2 (RdI.of_own HO9.out))
                  have hfin := HB2.out.trans ((HB6.out.trans (hb69.mono HB6.out.size)).mono HB2.out.size)
                  have HFI := Lib.hid hfin; clear hfin
                  clear h1 h2 h3
                  go_wp2_with fail
                  refine HSM.out.mono ?_
                  rintro e wz ⟨rfl, m, rfl⟩
                  go_wp2
                  go_ret
                  exact ⟨rfl, below_drewN HFI.out _⟩
                | some u =>
                  have HFR := Lib.hid (runL_go HTS.out hq)
                  have hul : u.length = n2 := by
                    unfold stp at hq
                    split at hq
                    · cases hq
                    · injection hq with hq
                      rw [← hq, mvs_len, HTK.out, List.length_map, HL2.out, Nat.min_self]
                  rw [hq] at HS
                  clear hq
                  have HUL := Lib.hid hul; clear hul
                  go_wp2_with fail
                  refine HS.out.mono ?_
                  rintro e w9 ⟨v9, rfl, ho9, hb9⟩
                  simp only [Option.getD_some, HUL.out] at ho9
                  obtain ⟨AX, cx, rfl⟩ := own_shape ho9
                  have hb69 := hbel.trans (hb9.mono hbel.size)
                  have HO9 := Lib.hid (own_base ho9 hBr.size)
                  clear ho9 hcs' hb9 HO
                  go_wp2
                  go_roundw
                  case rel =>
                    refine ⟨k + 1, _, u, by go_num, rfl, by omega, HUL, HO9, Lib.hid ?_, hb69⟩
                    have h1 := HRN.out
                    rw [HFR.out] at h1
                    exact ⟨h1.1, by have := h1.2; simp only at this; omega⟩
                  case measure => simp [intOf]; omega
              · have HFR := Lib.hid (runL_end (st := stp (xs.map AV.a)) (t := tk) (ws := t) (k := k) (by have := HTL.out; omega))
                have h1 := HRN.out
                rw [HFR.out] at h1
                have h2 : k = R.2 := by have := h1.2; simpa using this
                have h3 : R.1 = tk := h1.1.symm
                have hkb : ((R.2 : Int) == (k : Int)) = true := by rw [h2]; simp
                have HSM := Lib.hid (law_same_n A4 A9 c4 c9 n2 n2 R.1 tk true wr (by rw [h3]; exact HTK.out) HTK.out (eqB_of h3) ((HO4.out.below hbel).more hbel.size) HC4.out.1 HC4.out.2 (RdI.of_own HO.out))
                have hfin := HB2.out.trans ((HB6.out.trans (hbel.mono HB6.out.size)).mono HB2.out.size)
                have HFI := Lib.hid hfin; clear hfin
                clear h1 h2 h3
                go_wp2_with fail
                refine HSM.out.mono ?_
                rintro e wz ⟨rfl, m, rfl⟩
                go_wp2
                go_ret
                exact ⟨rfl, below_drewN HFI.out _⟩
        | false =>
          rw [show nine false = 9 from rfl]
          have hkt : knw (xs.map AV.a) t = false := by
            rcases HQ.out with ⟨h1, _⟩ | ⟨_, h1⟩
            · cases h1
            · exact h1
          clear HQ
          exact absurd (hkt.symm.trans HKN.out) (by decide)
theorem runs_all (L : Option Addr) (c n : Nat) (ps : List Pt) (T : Option Addr) (ct nt : Nat) (t : List Int) (w : World) (hl : ps.length = n) (h : RdP w w.heap.size L ps) (ht : t.length = nt) (hT : RdI w w.heap.size T t) (hct : nt ≤ ct) (hct2 : ct ≤ 9223372036854775807) :
    Calls Tryd.prog 8 #[.slice L n c, .slice T nt ct] w fun e w' => e = .returned (.bool true) ∧ Below w.heap.size w w' := by
  by_cases hn : 10 < nt
  · exact runs_long L c n ps T ct nt t w hl h ht hT hn
  · exact runs_walk L c n ps T ct nt t w hl h ht hT hct hct2 hn
end Go.Proofs.YtbdliebjalghmaaDoor
