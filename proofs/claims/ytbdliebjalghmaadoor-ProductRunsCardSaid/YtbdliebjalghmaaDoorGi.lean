/- Walks: ref06.Step, Enabled. -/
import Derived.Test.YtbdliebjalghmaaDoorGh
import Derived.Test.YtbdliebjalghmaaDoorRg
namespace Go.Proofs.YtbdliebjalghmaaDoor
open Go.RowKit Go

theorem stp_none {l : List Aut} {t : List Int} {v : Int} (h : rfB l t v = true) : stp l t v = none := if_pos h
theorem stp_some {l : List Aut} {t : List Int} {v : Int} (h : rfB l t v = false) : stp l t v = some (mvs l t v) := if_neg (by rw [h]; simp)

set_option maxRecDepth 100000 in
set_option maxHeartbeats 3200000 in
theorem ref_Step6 (L : Option Addr) (c n : Nat) (xs : List AV) (T : Option Addr) (ct : Nat) (t : List Int) (v : Int) (w : World) (hl : xs.length = n) (h : RdL w w.heap.size L xs) (hn : n ≤ 1000000) (ht : t.length = n) (hT : RdI w w.heap.size T t) (hct : n ≤ ct) (hct2 : ct ≤ 9223372036854775807) :
    Calls Tryd.prog 27 #[.slice L n c, .slice T n ct, .int .i64 v] w (RetOB ((stp (xs.map AV.a) t v).getD []) (stp (xs.map AV.a) t v).isSome w) := by
  have HRF := Lib.hid (ref_Refusers L c n xs T ct t v w hl h hn ht hT hct hct2)
  have hrn := rfsG_nil (l := xs.map AV.a) (t := t) (v := v) (i := 0)
  cases hq : rfB (xs.map AV.a) t v with
  | true =>
    have hne : rfsG (xs.map AV.a) t v 0 ≠ [] := fun e => by rw [hrn.1 e] at hq; cases hq
    rw [stp_none hq]
    generalize rfsG (xs.map AV.a) t v 0 = R at *
    have hpos : 0 < R.length := List.length_pos_iff.2 hne
    clear hne hrn hq
    go_enter Tryd.func27, Tryd.ntmps27
    go_wp2_with fail
    refine HRF.out.mono ?_
    rintro e w1 ⟨v1, rfl, ho1, hb1⟩
    obtain ⟨A1, c1, rfl⟩ := own_shape ho1
    have e1 : (0 : Int) < (R.length : Int) := by omega
    have HO1 := Lib.hid ho1; clear ho1
    go_wp2
    go_ret2
    exact ⟨_, rfl, World.ownsRow_nil _ _ _ _, hb1⟩
  | false =>
    rw [stp_some hq]
    rw [hrn.2 hq] at HRF
    have hml : (mvs (xs.map AV.a) t v).length = t.length := by rw [mvs_len, List.length_map, hl, ht]; omega
    have HL := Lib.hid hl; clear hl
    have HTL := Lib.hid ht; clear ht
    have HML := Lib.hid hml; clear hml
    clear hrn hq
    go_enter Tryd.func27, Tryd.ntmps27
    go_wp2_with fail
    refine HRF.out.mono ?_
    rintro e w1 ⟨v1, rfl, ho1, hb1⟩
    obtain ⟨A1, c1, rfl⟩ := own_shape ho1
    have hT1 := (hT.below hb1).more hb1.size
    have HT1 := Lib.hid hT1
    have HLIT := Lib.hid (own_lit w1 [] w.heap.size 3 hb1.size (by simp))
    have hz1 := hb1.size
    clear ho1 HRF hT1
    go_wp2_with (at_builtin; refine wpList_app _ rfl (.tmp 16) (.tmp 17) 26 rfl w.heap.size 3 (.int .i64 0) 8 Tryd.underlying26 int_info rfl (.slice (some ⟨w1.heap.size, 0, none⟩) 0 0) 0 _ rfl HLIT.out _ T n ct (iv t) (by rw [iv_length]; exact HTL.out) rfl (RdV.alloc HT1.out (Nat.le_refl _) _) (iv_one t) (by omega) (by omega) (by simp; omega) ?_; intro v' w' ho' hg' hb' hnn; rw [Nat.zero_add, List.nil_append] at ho'; obtain ⟨A8, c8, rfl⟩ := own_shape ho'; have HB' := Lib.hid ((hb1.alloc hz1 (.cells #[] 3)).trans hb'); have HO8 : Hid (w'.ownsRow w.heap.size 3 1 (.slice A8 n c8) n (iv (nxk (mvs (xs.map AV.a) t v) t 0))) := Lib.hid (by rw [show nxk (mvs (xs.map AV.a) t v) t 0 = t by simp [nxk]]; exact ho'); clear ho' hg' hb' hnn)
    go_loopw [9] (fun i wr => ∃ k : Nat, k ≤ n ∧ i = .int .i64 k ∧ Hid (wr.ownsRow w.heap.size 3 1 (.slice A8 n c8) n (iv (nxk (mvs (xs.map AV.a) t v) t k))) ∧ Below w.heap.size w wr) (fun i _ => n - (intOf i).toNat)
    case atStart => exact ⟨0, Nat.zero_le _, rfl, HO8, HB'.out⟩
    case round =>
      clear HO8 HB'
      obtain ⟨k, hk, rfl, HO, hbel⟩ := hrel
      by_cases hlt : k < n
      · skip
        obtain ⟨ad, A', na, ca, M, nm, cm, E, ne, ce, a, rfl, hbb, hx, q0, q1, q2, q3, haR⟩ := (h.below hbel).at_ (k := k) (by have := HL.out; omega)
        have b1 : (k : Int) < (n : Int) := by omega
        have p1 := st_cells (j := 0) q1
        have p2 := st_cells (j := 1) q2
        have p3 := st_cells (j := 2) q3
        simp only [Nat.zero_add, Nat.reduceAdd] at p1 p2 p3
        clear q1 q2 q3
        have hxa : (xs.map AV.a)[k]? = some a := by simp [hx]
        obtain ⟨td, s, rfl, hbt, hts, hcs⟩ := (hT.below hbel).at_ (k := k) (by have := HTL.out; omega)
        have hsz := hbel.size
        have d1 : (k : Int) < (ct : Int) := by omega
        have HAR := Lib.hid (haR.more hsz)
        have HLA := Lib.hid haR.la
        have hac := haR.ac
        have hcA := haR.cA
        have hmvk := mvs_at (v := v) hxa hts
        cases hh : hasB a.al v with
        | false =>
          have hmv : mv a s v = s := by simp [mv, hh]
          rw [hmv] at hmvk
          have HNK := Lib.hid (nxk_keep hmvk hts)
          have HHH := Lib.hid hh; clear hh
          have HXA := Lib.hid hxa; clear hxa
          have HX2 := Lib.hid hx; clear hx
          have HTS := Lib.hid hts; clear hts
          clear haR hmv hmvk
          go_wp2_with fail
          refine (ref_Contains A' ca na a.al v false _ HLA.out HHH.out HAR.out.ra hac hcA).mono ?_
          rintro e wB ⟨rfl, rfl⟩
          go_wp2
          go_roundw
          case rel => exact ⟨k + 1, by omega, by go_num, Lib.hid (by rw [HNK.out]; exact HO.out), hbel⟩
          case measure => simp [intOf]; omega
        | true =>
          have hmv : mv a s v = nxt a s v := by simp [mv, hh]
          rw [hmv] at hmvk
          obtain ⟨r, hr⟩ : ∃ r, nxt a s v = r := ⟨_, rfl⟩
          rw [hr] at hmvk
          have HNK := Lib.hid (nxk_set HML.out hmvk hts)
          obtain ⟨g, cap, he8, hgB, hglt⟩ := HO.out.form (by omega)
          injection he8 with he8 _ hcap
          subst he8 hcap
          have hgk : (iv (nxk (mvs (xs.map AV.a) t v) t k))[k]? = some (.int .i64 s) := by
            rw [iv_get]
            unfold nxk
            rw [List.getElem?_append_right (by rw [List.length_take]; omega), List.length_take, List.getElem?_drop]
            rw [show k + (k - min k (mvs (xs.map AV.a) t v).length) = k by have := HML.out; have := HTL.out; omega, hts]; rfl
          have hA0 : wr.drew.cell? (ad.add (k * 4)) = some (.slice A' na ca) ∧ wr.drew.cell? ⟨(ad.add (k * 4)).block, (ad.add (k * 4)).off + 1, none⟩ = some (.int .i64 a.st) ∧ wr.drew.cell? ⟨(ad.add (k * 4)).block, (ad.add (k * 4)).off + 2, none⟩ = some (.slice M nm cm) ∧ wr.drew.cell? ⟨(ad.add (k * 4)).block, (ad.add (k * 4)).off + 3, none⟩ = some (.slice E ne ce) ∧ wr.drew.cell? (td.add k) = some (.int .i64 s) := ⟨q0, p1, p2, p3, hcs⟩
          have hB0 : True := trivial
          have HOd : Hid (wr.drew.ownsRow w.heap.size 3 1 (.slice (some ⟨g, 0, none⟩) n c8) n (iv (nxk (mvs (xs.map AV.a) t v) t k))) := HO
          have hbeld : Below w.heap.size w wr.drew := hbel.trans ((below_dr wr).mono hsz)
          have HARd := Lib.hid (AutR.dr HAR.out)
          have hadb : (ad.add (k * 4)).block < wr.drew.heap.size := by rw [block_of_add]; exact Nat.lt_of_lt_of_le hbb hsz
          have htdb : (td.add k).block < wr.drew.heap.size := by rw [block_of_add]; exact Nat.lt_of_lt_of_le hbt hsz
          have HHH := Lib.hid hh; clear hh
          have HXA := Lib.hid hxa; clear hxa
          have HX2 := Lib.hid hx; clear hx
          have HTS := Lib.hid hts; clear hts
          have HRR := Lib.hid hr; clear hr
          have HGK := Lib.hid hgk; clear hgk
          clear haR hmv hmvk p1 p2 p3 hcs
          go_wp2_with fail
          refine (ref_Contains A' ca na a.al v true _ HLA.out HHH.out HAR.out.ra hac hcA).mono ?_
          rintro e wB ⟨rfl, rfl⟩
          go_wp2
          refine wp_region_U (fun W => W.cell? (ad.add (k * 4)) = some (.slice A' na ca) ∧ W.cell? ⟨(ad.add (k * 4)).block, (ad.add (k * 4)).off + 1, none⟩ = some (.int .i64 a.st) ∧ W.cell? ⟨(ad.add (k * 4)).block, (ad.add (k * 4)).off + 2, none⟩ = some (.slice M nm cm) ∧ W.cell? ⟨(ad.add (k * 4)).block, (ad.add (k * 4)).off + 3, none⟩ = some (.slice E ne ce) ∧ W.cell? (td.add k) = some (.int .i64 s)) (fun _ => True) 13 (by kernel_rfl) ?_
          change anyU _ _ _ _ _ _ _ 14 _ _ _
          clear q0 HO hbel HAR hsz
          generalize hwd : wr.drew = wd at hA0 HOd hbeld hadb htdb HARd ⊢
          have HWD := Lib.hid hwd; clear hwd
          ((refine uTake (i := 0) (v := ?_) rfl (by kernel_rfl) (fun _ _ _ h => h) (by rfl) (fun W hA hB => ?_) ⟨hA0, fun _ => hB0⟩ ?_; rotate_left; (· (clear hB; (try dsimp only at hA); go_simp; try with_reducible rfl)); (try simp only [Act.put, List.setIfInBounds_toArray, List.set_cons_zero, List.set_cons_succ])); (refine uTake (i := 1) (v := ?_) rfl (by kernel_rfl) (fun _ _ _ h => h) (by rfl) (fun W hA hB => ?_) ⟨hA0, fun _ => hB0⟩ ?_; rotate_left; (· (clear hB; (try dsimp only at hA); go_simp; try with_reducible rfl)); (try simp only [Act.put, List.setIfInBounds_toArray, List.set_cons_zero, List.set_cons_succ])); (refine uTake (i := 2) (v := ?_) rfl (by kernel_rfl) (fun _ _ _ h => h) (by rfl) (fun W hA hB => ?_) ⟨hA0, fun _ => hB0⟩ ?_; rotate_left; (· (clear hB; (try dsimp only at hA); go_simp; try with_reducible rfl)); (try simp only [Act.put, List.setIfInBounds_toArray, List.set_cons_zero, List.set_cons_succ])); (refine uTake (i := 3) (v := ?_) rfl (by kernel_rfl) (fun _ _ _ h => h) (by rfl) (fun W hA hB => ?_) ⟨hA0, fun _ => hB0⟩ ?_; rotate_left; (· (clear hB; (try dsimp only at hA); go_simp; try with_reducible rfl)); (try simp only [Act.put, List.setIfInBounds_toArray, List.set_cons_zero, List.set_cons_succ])); (refine uTake (i := 4) (v := ?_) rfl (by kernel_rfl) (fun _ _ _ h => h) (by rfl) (fun W hA hB => ?_) ⟨hA0, fun _ => hB0⟩ ?_; rotate_left; (· (clear hB; (try dsimp only at hA); go_simp; try with_reducible rfl)); (try simp only [Act.put, List.setIfInBounds_toArray, List.set_cons_zero, List.set_cons_succ])); (refine uTake (i := 5) (v := ?_) rfl (by kernel_rfl) (fun _ _ _ h => h) (by rfl) (fun W hA hB => ?_) ⟨hA0, fun _ => hB0⟩ ?_; rotate_left; (· (clear hB; (try dsimp only at hA); go_simp; try with_reducible rfl)); (try simp only [Act.put, List.setIfInBounds_toArray, List.set_cons_zero, List.set_cons_succ])); (refine uTake (i := 6) (v := ?_) rfl (by kernel_rfl) (fun _ _ _ h => h) (by rfl) (fun W hA hB => ?_) ⟨hA0, fun _ => hB0⟩ ?_; rotate_left; (· (clear hB; (try dsimp only at hA); go_simp; try with_reducible rfl)); (try simp only [Act.put, List.setIfInBounds_toArray, List.set_cons_zero, List.set_cons_succ])); (refine uTake (i := 7) (v := ?_) rfl (by kernel_rfl) (fun _ _ _ h => h) (by rfl) (fun W hA hB => ?_) ⟨hA0, fun _ => hB0⟩ ?_; rotate_left; (· (clear hB; (try dsimp only at hA); go_simp; try with_reducible rfl)); (try simp only [Act.put, List.setIfInBounds_toArray, List.set_cons_zero, List.set_cons_succ])); (refine uTake (i := 8) (v := ?_) rfl (by kernel_rfl) (fun _ _ _ h => h) (by rfl) (fun W hA hB => ?_) ⟨hA0, fun _ => hB0⟩ ?_; rotate_left; (· (clear hB; (try dsimp only at hA); go_simp; try with_reducible rfl)); (try simp only [Act.put, List.setIfInBounds_toArray, List.set_cons_zero, List.set_cons_succ])); (refine uTake (i := 9) (v := ?_) rfl (by kernel_rfl) (fun _ _ _ h => h) (by rfl) (fun W hA hB => ?_) ⟨hA0, fun _ => hB0⟩ ?_; rotate_left; (· (clear hB; (try dsimp only at hA); go_simp; try with_reducible rfl)); (try simp only [Act.put, List.setIfInBounds_toArray, List.set_cons_zero, List.set_cons_succ])); (refine uTake (i := 10) (v := ?_) rfl (by kernel_rfl) (fun _ _ _ h => h) (by rfl) (fun W hA hB => ?_) ⟨hA0, fun _ => hB0⟩ ?_; rotate_left; (· (clear hB; (try dsimp only at hA); go_simp; try with_reducible rfl)); (try simp only [Act.put, List.setIfInBounds_toArray, List.set_cons_zero, List.set_cons_succ])))
          refine uOne (i := 11) rfl (by kernel_rfl) (fun K hK => ?_)
          go_simp
          go_at_call 59
          refine (ref_Next6 A' na ca M nm cm E ne ce a s v wd HARd.out).mono ?_
          rw [HRR.out]
          rintro e w5 ⟨rfl, hb5⟩
          have hA5 : w5.cell? (ad.add (k * 4)) = some (.slice A' na ca) ∧ w5.cell? ⟨(ad.add (k * 4)).block, (ad.add (k * 4)).off + 1, none⟩ = some (.int .i64 a.st) ∧ w5.cell? ⟨(ad.add (k * 4)).block, (ad.add (k * 4)).off + 2, none⟩ = some (.slice M nm cm) ∧ w5.cell? ⟨(ad.add (k * 4)).block, (ad.add (k * 4)).off + 3, none⟩ = some (.slice E ne ce) ∧ w5.cell? (td.add k) = some (.int .i64 s) :=
            ⟨(hb5.cell hadb).trans hA0.1, (hb5.cell (p := ⟨(ad.add (k * 4)).block, (ad.add (k * 4)).off + 1, none⟩) hadb).trans hA0.2.1, (hb5.cell (p := ⟨(ad.add (k * 4)).block, (ad.add (k * 4)).off + 2, none⟩) hadb).trans hA0.2.2.1, (hb5.cell (p := ⟨(ad.add (k * 4)).block, (ad.add (k * 4)).off + 3, none⟩) hadb).trans hA0.2.2.2.1, (hb5.cell htdb).trans hA0.2.2.2.2⟩
          have HO5 := Lib.hid (own_below HOd.out hb5)
          have hbel5 := hbeld.trans (hb5.mono hbeld.size)
          have hsz5 := hbel5.size
          clear hA0 HOd hbeld hadb htdb HARd hb5
          (refine hK _ _ ⟨hA5, fun _ => hB0⟩ ?_; clear hK K; (try simp only [Act.put, List.setIfInBounds_toArray, List.set_cons_zero, List.set_cons_succ]))
          refine uOne (i := 12) rfl (by kernel_rfl) (fun K hK => ?_)
          go_simp
          (refine hK _ _ ⟨hA5, fun _ => hB0⟩ ?_; clear hK K; (try simp only [Act.put, List.setIfInBounds_toArray, List.set_cons_zero, List.set_cons_succ]))
          have ck : w5.cell? ⟨g, k, none⟩ = some (.int .i64 s) := by rw [HO5.out.cellAt k (by omega)]; exact HGK.out
          have fk : w5.frozen? ⟨g, k, none⟩ = false := HO5.out.frozenAt k
          have hbs := hbel5.setCell (p := ⟨g, k, none⟩) hgB (.int .i64 r)
          have hA6 : (w5.setCell ⟨g, k, none⟩ (.int .i64 r)).cell? (ad.add (k * 4)) = some (.slice A' na ca) ∧ (w5.setCell ⟨g, k, none⟩ (.int .i64 r)).cell? ⟨(ad.add (k * 4)).block, (ad.add (k * 4)).off + 1, none⟩ = some (.int .i64 a.st) ∧ (w5.setCell ⟨g, k, none⟩ (.int .i64 r)).cell? ⟨(ad.add (k * 4)).block, (ad.add (k * 4)).off + 2, none⟩ = some (.slice M nm cm) ∧ (w5.setCell ⟨g, k, none⟩ (.int .i64 r)).cell? ⟨(ad.add (k * 4)).block, (ad.add (k * 4)).off + 3, none⟩ = some (.slice E ne ce) ∧ (w5.setCell ⟨g, k, none⟩ (.int .i64 r)).cell? (td.add k) = some (.int .i64 s) := by
            have hfar : ∀ x : Addr, x.block < w.heap.size → (w5.setCell ⟨g, k, none⟩ (.int .i64 r)).cell? x = w5.cell? x := fun x hx => (hbs.cell hx).trans (hbel5.cell hx).symm
            exact ⟨(hfar _ (by rw [block_of_add]; exact hbb)).trans hA5.1, (hfar ⟨(ad.add (k * 4)).block, _, none⟩ (by show (ad.add (k * 4)).block < _; rw [block_of_add]; exact hbb)).trans hA5.2.1, (hfar ⟨(ad.add (k * 4)).block, _, none⟩ (by show (ad.add (k * 4)).block < _; rw [block_of_add]; exact hbb)).trans hA5.2.2.1, (hfar ⟨(ad.add (k * 4)).block, _, none⟩ (by show (ad.add (k * 4)).block < _; rw [block_of_add]; exact hbb)).trans hA5.2.2.2.1, (hfar _ (by rw [block_of_add]; exact hbt)).trans hA5.2.2.2.2⟩
          refine uOne (i := 13) rfl (by kernel_rfl) (fun K hK => ?_)
          go_simp
          (refine hK _ _ ⟨hA6, fun _ => hB0⟩ ?_; clear hK K; (try simp only [Act.put, List.setIfInBounds_toArray, List.set_cons_zero, List.set_cons_succ]))
          refine anyU_done (by kernel_rfl) ?_ _
          clear hA6 hA5 ck fk
          go_wp2
          go_roundw
          case rel =>
            refine ⟨k + 1, by omega, by go_num, ?_, hbs⟩
            rw [HNK.out, ← iv_set]
            exact Lib.hid (HO5.out.stored k (.int .i64 r)).1
          case measure => simp [intOf]; omega
      · have ho := HO.out
        rw [nxk_end HML.out (by rw [HTL.out]; omega)] at ho
        have hlen : (mvs (xs.map AV.a) t v).length = n := by rw [HML.out, HTL.out]
        have HOF := Lib.hid ho; clear ho
        have HLEN := Lib.hid hlen; clear hlen
        go_wp2
        go_ret2
        exact ⟨_, rfl, by rw [show ((some (mvs (xs.map AV.a) t v)).getD []) = mvs (xs.map AV.a) t v from rfl, HLEN.out]; exact HOF.out, hbel⟩

/-- the events that are possible -/
def enaL (l : List Aut) (t : List Int) (V : List Int) : List Int := V.filter (fun v => !rfB l t v)
theorem enaL_yes {l : List Aut} {t V : List Int} {k : Nat} {v : Int} (h : V[k]? = some v) (hr : rfB l t v = false) : enaL l t (V.take (k + 1)) = enaL l t (V.take k) ++ [v] := by
  unfold enaL; rw [take_snoc' h, List.filter_append]; simp [hr]
theorem enaL_no {l : List Aut} {t V : List Int} {k : Nat} {v : Int} (h : V[k]? = some v) (hr : rfB l t v = true) : enaL l t (V.take (k + 1)) = enaL l t (V.take k) := by
  unfold enaL; rw [take_snoc' h, List.filter_append]; simp [hr]
theorem enaL_le (l : List Aut) (t V : List Int) (k : Nat) : (enaL l t (V.take k)).length ≤ k := Nat.le_trans (List.length_filter_le _ _) (List.length_take_le _ _)

set_option maxRecDepth 100000 in
set_option maxHeartbeats 3200000 in
theorem ref_Enabled (L : Option Addr) (c n : Nat) (xs : List AV) (T : Option Addr) (ct : Nat) (t : List Int) (w : World) (hl : xs.length = n) (h : RdL w w.heap.size L xs) (hc1 : n ≤ c) (hc2 : c ≤ 9223372036854775807) (hn : n ≤ 1000000) (ht : t.length = n) (hT : RdI w w.heap.size T t) (hct : n ≤ ct) (hct2 : ct ≤ 9223372036854775807)
    (hw : ∀ a ∈ xs.map AV.a, WF a) :
    Calls Tryd.prog 30 #[.slice L n c, .slice T n ct] w (RetO 3 (enaL (xs.map AV.a) t (evs (xs.map AV.a))) w) := by
  have HAL := Lib.hid (ref_Alphabet6 L c n xs w hl h hc1 hc2 hw)
  have hle := evs_le hw
  obtain ⟨V, hV⟩ : ∃ V, evs (xs.map AV.a) = V := ⟨_, rfl⟩
  rw [hV] at HAL hle ⊢
  clear hV hw
  have HL := Lib.hid hl; clear hl
  have HTL := Lib.hid ht; clear ht
  go_enter Tryd.func30, Tryd.ntmps30
  go_wp2_with fail
  refine HAL.out.mono ?_
  rintro e w1 ⟨v1, rfl, ho1, hb1⟩
  obtain ⟨A1, c1, rfl⟩ := own_shape ho1
  obtain ⟨nv, hnv⟩ : ∃ nv, V.length = nv := ⟨_, rfl⟩
  rw [hnv] at ho1 hle ⊢
  have HV := Lib.hid ho1; clear ho1
  have HNV := Lib.hid hnv; clear hnv
  clear HAL
  go_wp2
  go_loopw [5, 7] (fun s5 s7 wr => ∃ (k m : Nat), s7 = .int .i64 k ∧ k ≤ nv ∧ m ≤ k ∧ Hid ((enaL (xs.map AV.a) t (V.take k)).length = m) ∧ Hid (wr.ownsRow w1.heap.size 3 1 s5 m (iv (enaL (xs.map AV.a) t (V.take k)))) ∧ Below w1.heap.size w1 wr) (fun _ s7 _ => nv - (intOf s7).toNat)
  case atStart => exact ⟨0, 0, rfl, Nat.zero_le _, by omega, Lib.hid rfl, Lib.hid (World.ownsRow_nil _ _ _ _), Below.refl _ _⟩
  case round =>
    obtain ⟨k, m, rfl, hk, hm, HM, HO, hbel⟩ := hrel
    have hbw := hb1.trans (hbel.mono hb1.size)
    have hsz := hbw.size
    by_cases hlt : k < nv
    · obtain ⟨vd, v, rfl, hvb, hve, hvc⟩ := (RdI.of_own (own_below HV.out hbel)).at_ (k := k) (by have := HNV.out; omega)
      have b1 : (k : Int) < (nv : Int) := by omega
      have HRF := Lib.hid (ref_Refusers L c n xs T ct t v wr HL.out ((h.below hbw).more hsz) hn HTL.out ((hT.below hbw).more hsz) hct hct2)
      have hrn := rfsG_nil (l := xs.map AV.a) (t := t) (v := v) (i := 0)
      cases hq : rfB (xs.map AV.a) t v with
      | true =>
        have hne : rfsG (xs.map AV.a) t v 0 ≠ [] := fun e => by rw [hrn.1 e] at hq; cases hq
        have HE := Lib.hid (enaL_no hve hq)
        generalize rfsG (xs.map AV.a) t v 0 = R at *
        have hpos : 0 < R.length := List.length_pos_iff.2 hne
        have HVE := Lib.hid hve; clear hve
        clear hne hrn hq
        go_wp2_with fail
        refine HRF.out.mono ?_
        rintro e w2 ⟨v2, rfl, ho2, hb2⟩
        obtain ⟨A2, c2, rfl⟩ := own_shape ho2
        have e1 : ((R.length : Int) == 0) = false := by rw [beq_eq_false_iff_ne]; omega
        have HO2 := Lib.hid (own_below HO.out hb2)
        have hbel2 := hbel.trans (hb2.mono hbel.size)
        clear ho2
        go_wp2
        go_roundw
        case rel => exact ⟨k + 1, m, by go_num, by omega, by omega, by rw [HE.out]; exact HM, by rw [HE.out]; exact HO2, hbel2⟩
        case measure => simp [intOf]; omega
      | false =>
        have HE := Lib.hid (enaL_yes hve hq)
        rw [hrn.2 hq] at HRF
        have HVE := Lib.hid hve; clear hve
        clear hrn hq
        go_wp2_with fail
        refine HRF.out.mono ?_
        rintro e w2 ⟨v2, rfl, ho2, hb2⟩
        obtain ⟨A2, c2, rfl⟩ := own_shape ho2
        have HO2 := Lib.hid (own_below HO.out hb2)
        have hbel2 := hbel.trans (hb2.mono hbel.size)
        have hsz2 : w1.heap.size ≤ w2.heap.size := hbel2.size
        have hvc2 : w2.cell? (vd.add k) = some (.int .i64 v) := (hb2.cell (p := vd.add k) (by rw [block_of_add]; exact hvb)).trans hvc
        clear ho2
        go_wp2_with (at_builtin; refine wpList_push w2 (.int .i64 v) rfl (.tmp 25) (.tmp 30) 26 rfl w1.heap.size 3 (.int .i64 0) 8 Tryd.underlying26 int_info rfl u5 m _ rfl HO2.out rfl rfl (by omega) (by omega) hsz2 ?_; intro v' w' ho' hg' hb1')
        go_roundw
        case rel => exact ⟨k + 1, m + 1, by go_num, by omega, by omega, Lib.hid (by rw [HE.out, List.length_append, HM.out]; rfl), Lib.hid (by rw [HE.out, iv_append]; exact ho'), own_below_of HO2.out hbel2 hg' hsz2⟩
        case measure => simp [intOf]; omega
    · obtain rfl : k = nv := by omega
      have hfin : enaL (xs.map AV.a) t V = enaL (xs.map AV.a) t (V.take k) := by rw [List.take_of_length_le (by rw [HNV.out]; exact Nat.le_refl _)]
      have HF := Lib.hid hfin; clear hfin
      go_wp2
      go_ret
      rw [HF.out]
      exact ⟨_, rfl, by rw [HM.out]; exact own_base HO.out hb1.size, hbw⟩
end Go.Proofs.YtbdliebjalghmaaDoor
