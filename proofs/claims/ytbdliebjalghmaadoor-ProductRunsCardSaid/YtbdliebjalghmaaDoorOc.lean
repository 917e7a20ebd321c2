/- Walks: product.Marked, Step, Enabled where nothing is amiss. -/
import Derived.Test.YtbdliebjalghmaaDoorGi
import Derived.Test.YtbdliebjalghmaaDoorMd
import Derived.Test.YtbdliebjalghmaaDoorMc
namespace Go.Proofs.YtbdliebjalghmaaDoor
open Go.RowKit Go Go.Maps

theorem chkT_ok {l : List Aut} {t : List Int} (h : chkT l t = 0) : chkL l = 0 ∧ l.length ≤ 12 ∧ (∀ a ∈ l, WF a) ∧ t.length = l.length ∧ Tup l t := by
  have hz2 : chkL l = 0 := by
    by_cases h1 : chkL l = 0
    · exact h1
    · unfold chkT at h; rw [if_pos h1] at h; exact absurd h h1
  obtain ⟨hn, hw⟩ := chkL_wf hz2
  unfold chkT at h
  rw [if_neg (by simpa using hz2)] at h
  by_cases h1 : t.length = l.length
  · rw [if_neg (by simpa using h1)] at h
    exact ⟨hz2, hn, hw, h1, tupG_tup h h1⟩
  · rw [if_pos h1] at h; cases h
theorem chkV_ok {l : List Aut} {t : List Int} {v : Int} (h : chkV l t v = 0) : chkT l t = 0 ∧ hasB (evs l) v = true := by
  have hz1 : chkT l t = 0 := by
    by_cases h1 : chkT l t = 0
    · exact h1
    · unfold chkV at h; rw [if_pos h1] at h; exact absurd h h1
  refine ⟨hz1, ?_⟩
  unfold chkV at h
  rw [if_neg (by simpa using hz1)] at h
  by_cases h1 : hasB (evs l) v = true
  · exact h1
  · rw [if_neg h1] at h; cases h


set_option maxRecDepth 100000 in
set_option maxHeartbeats 3200000 in
theorem marked_ok (L : Option Addr) (c n : Nat) (xs : List AV) (T : Option Addr) (ct nt : Nat) (t : List Int) (w : World) (hl : xs.length = n) (h : RdL w w.heap.size L xs) (hc1 : n ≤ c) (hc2 : c ≤ 9223372036854775807) (hT : RdI w w.heap.size T t) (ht : t.length = nt) (hct : nt ≤ ct) (hz : chkT (xs.map AV.a) t = 0) :
    Calls Tryd.prog 29 #[.slice L n c, .slice T nt ct] w (fun e w' => e = .returned (.tuple #[.bool (mkT (xs.map AV.a) t), .int .i64 0]) ∧ Below w.heap.size w w') := by
  have HC := Lib.hid (product_checkTuple L c n xs T ct nt t w hl h hc1 hc2 hT ht)
  rw [hz] at HC
  obtain ⟨hz2, hn, hw, hnt, htup⟩ := chkT_ok hz
  rw [List.length_map, hl] at hn
  have hntn : nt = n := by rw [← ht, hnt, List.length_map, hl]
  subst hntn
  obtain ⟨q, hq⟩ : ∃ q, mkT (xs.map AV.a) t = q := ⟨_, rfl⟩
  rw [hq]
  clear hz hz2 htup
  have HL := Lib.hid hl; clear hl
  have HW := Lib.hid hw; clear hw
  have HTL := Lib.hid ht; clear ht
  have HQ := Lib.hid hq; clear hq
  clear hnt
  go_enter Tryd.func29, Tryd.ntmps29
  go_wp2_with fail
  refine HC.out.mono ?_
  rintro e w1 ⟨rfl, hb1⟩
  have hRL := (h.below hb1).more hb1.size
  have HOP := Lib.hid (product_open L c nt xs w1 w1.heap.size HL.out hRL (Nat.le_refl _) hc1 hc2 hn HW.out)
  have HB1 := Lib.hid hb1; clear hb1
  clear hRL HC
  go_wp2_with fail
  refine HOP.out.mono ?_
  rintro e w2 ⟨V, nv, cv, G, cg, rfl, hMF, hb2⟩
  have hB02 := HB1.out.trans (hb2.mono HB1.out.size)
  have hMR := hMF.mach hb2.size
  have hTb := (hT.below hB02).more hB02.size
  clear HOP HB1 hMF hb2 h hT
  have HM := Lib.hid (mach_marked L nt c V nv cv G cg xs T ct t q w2 hMR HTL.out hTb hct HW.out HQ.out)
  have HB02 := Lib.hid hB02; clear hB02
  clear hMR hTb
  go_wp2_with fail
  refine HM.out.mono ?_
  rintro e w3 ⟨rfl, hb3⟩
  go_wp2
  go_ret2
  exact ⟨rfl, HB02.out.trans (hb3.mono HB02.out.size)⟩

set_option maxRecDepth 100000 in
set_option maxHeartbeats 3200000 in
theorem step_ok (L : Option Addr) (c n : Nat) (xs : List AV) (T : Option Addr) (ct nt : Nat) (t : List Int) (v : Int) (w : World) (hl : xs.length = n) (h : RdL w w.heap.size L xs) (hc1 : n ≤ c) (hc2 : c ≤ 9223372036854775807) (hT : RdI w w.heap.size T t) (ht : t.length = nt) (hct : nt ≤ ct) (hz : chkV (xs.map AV.a) t v = 0) :
    Calls Tryd.prog 32 #[.slice L n c, .slice T nt ct, .int .i64 v] w (fun e w' => ∃ u, e = .returned (.tuple #[u, .bool (stp (xs.map AV.a) t v).isSome, .int .i64 0]) ∧ w'.ownsRow w.heap.size 3 1 u ((stp (xs.map AV.a) t v).getD []).length (iv ((stp (xs.map AV.a) t v).getD [])) ∧ Below w.heap.size w w') := by
  have HC := Lib.hid (product_checkEvent L c n xs T ct nt t v w hl h hc1 hc2 hT ht)
  rw [hz] at HC
  obtain ⟨hz2, hn, hw, hnt, htup⟩ := chkT_ok (chkV_ok hz).1
  rw [List.length_map, hl] at hn
  have hntn : nt = n := by rw [← ht, hnt, List.length_map, hl]
  subst hntn
  obtain ⟨r, hr⟩ : ∃ r, stp (xs.map AV.a) t v = r := ⟨_, rfl⟩
  rw [hr]
  clear hz hz2
  have HL := Lib.hid hl; clear hl
  have HW := Lib.hid hw; clear hw
  have HTL := Lib.hid ht; clear ht
  have HR := Lib.hid hr; clear hr
  have HTU := Lib.hid htup; clear htup
  clear hnt
  go_enter Tryd.func32, Tryd.ntmps32
  go_wp2_with fail
  refine HC.out.mono ?_
  rintro e w1 ⟨rfl, hb1⟩
  have hRL := (h.below hb1).more hb1.size
  have HOP := Lib.hid (product_open L c nt xs w1 w1.heap.size HL.out hRL (Nat.le_refl _) hc1 hc2 hn HW.out)
  have HB1 := Lib.hid hb1; clear hb1
  clear hRL HC
  go_wp2_with fail
  refine HOP.out.mono ?_
  rintro e w2 ⟨V, nv, cv, G, cg, rfl, hMF, hb2⟩
  have hB02 := HB1.out.trans (hb2.mono HB1.out.size)
  have hMR := hMF.mach hb2.size
  have hTb := (hT.below hB02).more hB02.size
  clear HOP HB1 hMF hb2 h hT
  have HM := Lib.hid (mach_step L nt c V nv cv G cg xs T ct t v r w2 hMR hn hTb hct HW.out HTU.out HR.out)
  have HB02 := Lib.hid hB02; clear hB02
  clear hMR hTb
  go_wp2_with fail
  refine HM.out.mono ?_
  rintro e w3 ⟨u, rfl, ho3, hb3⟩
  have hsz := HB02.out.size
  have HO3 := Lib.hid ho3; clear ho3
  go_wp2
  refine bodyPost_ret (v := .tuple #[u, .bool r.isSome, .int .i64 0]) (by simp [results, Tryd.results32, go_sem]) rfl ?_
  exact ⟨_, rfl, own_base HO3.out hsz, HB02.out.trans (hb3.mono hsz)⟩

set_option maxRecDepth 100000 in
set_option maxHeartbeats 3200000 in
theorem enabled_ok (L : Option Addr) (c n : Nat) (xs : List AV) (T : Option Addr) (ct nt : Nat) (t : List Int) (w : World) (hl : xs.length = n) (h : RdL w w.heap.size L xs) (hc1 : n ≤ c) (hc2 : c ≤ 9223372036854775807) (hT : RdI w w.heap.size T t) (ht : t.length = nt) (hct : nt ≤ ct) (hz : chkT (xs.map AV.a) t = 0) :
    Calls Tryd.prog 28 #[.slice L n c, .slice T nt ct] w (RetLE (enaL (xs.map AV.a) t (evs (xs.map AV.a))) 0 w) := by
  have HC := Lib.hid (product_checkTuple L c n xs T ct nt t w hl h hc1 hc2 hT ht)
  rw [hz] at HC
  obtain ⟨hz2, hn, hw, hnt, htup⟩ := chkT_ok hz
  rw [List.length_map, hl] at hn
  have hntn : nt = n := by rw [← ht, hnt, List.length_map, hl]
  subst hntn
  have hle := evs_le hw
  clear hz hz2
  have HL := Lib.hid hl; clear hl
  have HW := Lib.hid hw; clear hw
  have HTL := Lib.hid ht; clear ht
  have HTU := Lib.hid htup; clear htup
  clear hnt
  go_enter Tryd.func28, Tryd.ntmps28
  go_wp2_with fail
  refine HC.out.mono ?_
  rintro e w1 ⟨rfl, hb1⟩
  have hRL := (h.below hb1).more hb1.size
  have HOP := Lib.hid (product_open L c nt xs w1 w1.heap.size HL.out hRL (Nat.le_refl _) hc1 hc2 hn HW.out)
  have HB1 := Lib.hid hb1; clear hb1
  clear hRL HC
  go_wp2_with fail
  refine HOP.out.mono ?_
  rintro e w2 ⟨V, nv, cv, G, cg, rfl, hMF, hb2⟩
  have hB02 := HB1.out.trans (hb2.mono HB1.out.size)
  have hMR := hMF.mach hb2.size
  have hTb := (hT.below hB02).more hB02.size
  clear HOP HB1 hMF hb2 h hT
  have hs02 := hB02.size
  have hlv := hMR.lv
  obtain ⟨VV, hVV⟩ : ∃ VV, evs (xs.map AV.a) = VV := ⟨_, rfl⟩
  have hRV := hMR.rv
  rw [hVV] at hle hlv hRV ⊢
  rw [hlv] at hle
  have HB02 := Lib.hid hB02; clear hB02
  have HMR := Lib.hid hMR; clear hMR
  have HTB := Lib.hid hTb; clear hTb
  have HLV := Lib.hid hlv; clear hlv
  have HRV := Lib.hid hRV; clear hRV
  have HVV := Lib.hid hVV; clear hVV
  go_wp2
  go_loopw [8, 24] (fun s8 s24 wr => ∃ (k m : Nat), s24 = .int .i64 k ∧ k ≤ nv ∧ m ≤ k ∧ Hid ((enaL (xs.map AV.a) t (VV.take k)).length = m) ∧ Hid (wr.ownsRow (w2.heap.size + 1) 3 1 s8 m (iv (enaL (xs.map AV.a) t (VV.take k)))) ∧ Below (w2.heap.size + 1) (w2.alloc (.cells #[.slice L nt c, .slice V nv cv, .slice G nt cg] 91)) wr) (fun _ s24 _ => nv - (intOf s24).toNat)
  case atStart => exact ⟨0, 0, rfl, Nat.zero_le _, Nat.le_refl _, Lib.hid rfl, Lib.hid (World.ownsRow_nil _ _ _ _), Below.refl _ _⟩
  case round =>
    obtain ⟨k, m, rfl, hk, hm, HAL, HO, hbel⟩ := hrel
    have hsz1 : w2.heap.size + 1 ≤ wr.heap.size := by have := hbel.size; simpa using this
    have hsz : w2.heap.size ≤ wr.heap.size := by omega
    have hsz2 : w2.heap.size < wr.heap.size := by omega
    have hbl := (box_below w2 (.cells #[.slice L nt c, .slice V nv cv, .slice G nt cg] 91)).trans (hbel.mono (Nat.le_succ _))
    by_cases hlt : k < nv
    · have c0 : wr.cell? ⟨w2.heap.size, 0, none⟩ = some (.slice L nt c) := box_cells (us := [_, _, _]) hbel rfl
      have c1 : wr.cell? ⟨w2.heap.size, 1, none⟩ = some (.slice V nv cv) := box_cells (us := [_, _, _]) hbel rfl
      have c2 : wr.cell? ⟨w2.heap.size, 2, none⟩ = some (.slice G nt cg) := box_cells (us := [_, _, _]) hbel rfl
      obtain ⟨vd, v, rfl, hvb, hve, hvc⟩ := ((HRV.out.below hbl).more hsz).at_ (k := k) (by have := HLV.out; omega)
      have b1 : (k : Int) < (nv : Int) := by omega
      have HST := Lib.hid (fun r hr => mach_step L nt c (some vd) nv cv G cg xs T ct t v r wr ((HMR.out.after hbl (Nat.le_refl _)).more hsz) hn ((HTB.out.below hbl).more hsz) hct HW.out HTU.out hr)
      cases hq : rfB (xs.map AV.a) t v with
      | true =>
        have HE := Lib.hid (enaL_no hve hq)
        have HS := Lib.hid (HST.out none (stp_none hq))
        have HVE := Lib.hid hve; clear hve
        clear HST hq
        go_wp2_with fail
        refine HS.out.mono ?_
        rintro e w3 ⟨u, rfl, ho3, hb3⟩
        obtain ⟨U3, cu3, rfl⟩ := own_shape ho3
        have HO2 := Lib.hid (own_below HO.out (hb3.mono (Nat.le_refl _)))
        have hbel2 := hbel.trans (hb3.mono hsz1)
        clear ho3 c0 c1 c2
        go_wp2
        go_roundw
        case rel => exact ⟨k + 1, m, by go_num, by omega, by omega, by rw [HE.out]; exact HAL, by rw [HE.out]; exact HO2, hbel2⟩
        case measure => simp [intOf]; omega
      | false =>
        have HE := Lib.hid (enaL_yes hve hq)
        have HS := Lib.hid (HST.out (some _) (stp_some hq))
        have HVE := Lib.hid hve; clear hve
        clear HST hq
        go_wp2_with fail
        refine HS.out.mono ?_
        rintro e w3 ⟨u, rfl, ho3, hb3⟩
        obtain ⟨U3, cu3, rfl⟩ := own_shape ho3
        have HO2 := Lib.hid (own_below HO.out (hb3.mono (Nat.le_refl _)))
        have hbel2 := hbel.trans (hb3.mono hsz1)
        have hsz3 : w2.heap.size + 1 ≤ w3.heap.size := Nat.le_trans hsz1 hb3.size
        clear ho3 c0 c1 c2
        go_wp2_with (at_builtin; refine wpList_push w3 (.int .i64 v) rfl (.tmp 36) (.tmp 38) 26 rfl (w2.heap.size + 1) 3 (.int .i64 0) 8 Tryd.underlying26 int_info rfl u8 m _ rfl HO2.out rfl rfl (by omega) (by omega) hsz3 ?_; intro v' w' ho' hg' hb1')
        go_roundw
        case rel => exact ⟨k + 1, m + 1, by go_num, by omega, by omega, Lib.hid (by rw [HE.out, List.length_append, HAL.out]; rfl), Lib.hid (by rw [HE.out, iv_append]; exact ho'), own_below_of HO2.out hbel2 hg' hsz3⟩
        case measure => simp [intOf]; omega
    · obtain rfl : k = nv := by omega
      have hfin : enaL (xs.map AV.a) t VV = enaL (xs.map AV.a) t (VV.take k) := by rw [List.take_of_length_le (by rw [HLV.out]; exact Nat.le_refl _)]
      have HF := Lib.hid hfin; clear hfin
      go_wp2
      go_ret2
      rw [HVV.out, HF.out]
      exact ⟨_, rfl, by rw [HAL.out]; exact own_base HO.out (by omega), HB02.out.trans (hbl.mono hs02)⟩
end Go.Proofs.YtbdliebjalghmaaDoor
