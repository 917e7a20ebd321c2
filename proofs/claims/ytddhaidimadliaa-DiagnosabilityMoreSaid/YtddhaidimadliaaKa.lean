/- Walks: slices.Clone at events; the law DiagnosabilityMore. -/
import Derived.Test.YtddhaidimadliaaJy
namespace Go.Proofs.Ytddhaidimadliaa
open Go.RowKit Go

theorem ev_one (l : List Ev) : ∀ u ∈ l.flatMap Ev.cells, u.oneCell' = true := by
  intro u hu
  obtain ⟨e, _, he⟩ := List.mem_flatMap.1 hu
  simp only [Ev.cells, List.mem_cons, List.not_mem_nil, or_false] at he
  rcases he with rfl | rfl | rfl | rfl | rfl <;> rfl
set_option maxRecDepth 100000 in
set_option maxHeartbeats 1600000 in
theorem slices_CloneE (ad : Addr) (c n : Nat) (l : List Ev) (w : World) (hl : l.length = n) (h : RdE w w.heap.size (some ad) l) (hn : n ≤ 100) :
    Calls Try.prog 25 #[.slice (some ad) n c] w fun e w' => ∃ v, e = .returned v ∧ w'.ownsRow w.heap.size 67 5 v n (l.flatMap Ev.cells) ∧ Below w.heap.size w w' := by
  have hnil := fun W => Lib.run_eql_slice_nil (P := Try.prog) W 35 67 (some ad) n c 0 0 Try.underlying35
  obtain ⟨ti, hi, hz, hs1, hby⟩ := info_parts evs_info
  have hlen : (l.flatMap Ev.cells).length = n * 5 := by rw [flat_len Ev.cells 5 l (fun _ _ => rfl), hl]
  have hcell : ∀ j u, (l.flatMap Ev.cells)[j]? = some u → (w.alloc (.cells #[] 67)).cell? (ad.add j) = some u := fun j u hu => by
    have hj : j < n * 5 := by rw [← hlen]; exact (List.getElem?_eq_some_iff.1 hu).1
    have hk : l[j / 5]? = some l[j / 5] := List.getElem?_eq_getElem (by omega)
    obtain ⟨ad', e1, e2, _, e3⟩ := h (j / 5) _ hk
    injection e1 with e1
    subst e1
    have hj5 : (Ev.cells l[j / 5])[j % 5]? = some u := by
      have hjl : j % 5 < (Ev.cells l[j / 5]).length := by show j % 5 < 5; omega
      obtain ⟨u', hu'⟩ : ∃ u', (Ev.cells l[j / 5])[j % 5]? = some u' := ⟨_, List.getElem?_eq_getElem hjl⟩
      have := flat_get Ev.cells 5 l (fun _ _ => rfl) (j / 5) _ (j % 5) u' hk hu'
      rw [show j / 5 * 5 + j % 5 = j by omega, hu] at this
      rw [hu']; exact this.symm
    have := e3 (j % 5) u hj5
    rw [show j / 5 * 5 + j % 5 = j by omega] at this
    exact (World.cell?_alloc_lt w _ _ (by rw [block_of_add]; exact e2)).trans this
  have hlit : (w.alloc (.cells #[] 67)).ownsRow w.heap.size 67 5 (.slice (some ⟨w.heap.size, 0, none⟩) 0 0) 0 [] := ⟨by simp, .inr ⟨w.heap.size, 0, #[], rfl, Nat.le_refl _, heap_alloc_new w _, Nat.le_refl _, by unfold maxLen; omega, by simp, by simp⟩⟩
  have HB0 := Lib.hid (box_below w (.cells #[] 67))
  have HCE := Lib.hid hcell; clear hcell
  have HLI := Lib.hid hlit; clear hlit
  have HLE := Lib.hid hlen; clear hlen
  clear h hl
  go_enter Try.func25, Try.ntmps25
  go_wp2_with (first
    | (at_builtin; refine wpList_append_own_at _ rfl (.tmp 5) (.tmp 6) 35 rfl w.heap.size 67 ti (.agg #[.string ByteArray.empty, .bool false, .bool false, .bool false, .int .i64 0]) 5 32 Try.underlying35 hi hz hs1 hby rfl (by decide) (.slice (some ⟨w.heap.size, 0, none⟩) 0 0) 0 [] rfl HLI.out ad n c (l.flatMap Ev.cells) rfl HLE.out HCE.out (ev_one l) (by unfold maxLen; omega) (by omega) (by simp) ?_; intro v' w' ho' hg' _ _)
    | fail)
  have ho : w'.ownsRow w.heap.size 67 5 v' n (l.flatMap Ev.cells) := by simpa using ho'
  have hb : Below w.heap.size w w' := HB0.out.grown hg' (by simp) (fun j hj => by simp [Value.ownBlock] at hj; omega)
  go_ret
  exact ⟨v', rfl, ho, hb⟩
theorem obs_cells {rest : List Value} : ∀ (l : List Ev) (k : Nat) (e : Ev), l[k]? = some e → (l.flatMap Ev.cells ++ rest).set (k * 5 + 2) (.bool true) = (obsL l k).flatMap Ev.cells ++ rest
  | [], _, _, h => by simp at h
  | y :: l, 0, e, _ => by
    rw [show obsL (y :: l) 0 = ⟨y.nm, y.c, true, y.f, y.fault⟩ :: l by unfold obsL; rfl, List.flatMap_cons, List.flatMap_cons]
    rfl
  | y :: l, k + 1, e, h => by
    have hk : l[k]? = some e := by simpa using h
    have hob : obsL (y :: l) (k + 1) = y :: obsL l k := by
      unfold obsL
      rw [List.getElem?_cons_succ, hk]; rfl
    rw [hob, List.flatMap_cons, List.flatMap_cons, List.append_assoc, List.append_assoc, List.set_append, if_neg (by show ¬ (k + 1) * 5 + 2 < 5; omega), show (k + 1) * 5 + 2 - (Ev.cells y).length = k * 5 + 2 by show (k + 1) * 5 + 2 - 5 = _; omega, obs_cells l k e hk]
theorem rdE_rest {w : World} {b : Nat} {t : TypeId} {l : List Ev} {rest : List Value} (hs : ∀ e ∈ l, e.nm.size ≤ 9223372036854775807) (h : Blk w b t (l.flatMap Ev.cells ++ rest)) : RdE w w.heap.size (some ⟨b, 0, none⟩) l := fun k e he =>
  ⟨_, rfl, h.lt, hs e (List.mem_of_getElem? he), fun j u hj => by
    rw [add_lit]
    have h1 := flat_get Ev.cells 5 l (fun _ _ => rfl) k e j u he hj
    exact h.cell (by rw [List.getElem?_append_left (List.getElem?_eq_some_iff.1 h1).1]; exact h1)⟩
theorem own_blkE {w : World} {base n c : Nat} {A : Option Addr} {l : List Ev} (h : w.ownsRow base 67 5 (.slice A n c) n (l.flatMap Ev.cells)) (hn : 0 < n) : ∃ (g : Nat) (rest : List Value), A = some ⟨g, 0, none⟩ ∧ base ≤ g ∧ Blk w g 67 (l.flatMap Ev.cells ++ rest) := by
  rcases h.2 with ⟨h1, h2⟩ | ⟨g, cap, cur, h1, h2, h3, _, _, _, h4⟩
  · omega
  · injection h1 with h1 _ _
    refine ⟨g, cur.toList.drop (n * 5), h1, h2, ?_⟩
    show w.heap[g]? = _
    rw [h3, ← h4, List.take_append_drop]
theorem obsL_small {l : List Ev} {k : Nat} (h : ∀ e ∈ l, e.nm.size ≤ 9223372036854775807) : ∀ e ∈ obsL l k, e.nm.size ≤ 9223372036854775807 := by
  intro e he
  unfold obsL at he
  split at he
  · rename_i y hy
    rcases List.mem_or_eq_of_mem_set he with he | rfl
    · exact h e he
    · exact h y (List.mem_of_getElem? hy)
  · exact h e he
/-- the class of a law -/
def clsU (c : Int) : Int := 1 + c % 4
theorem chkE_flt {l : List Ev} (h : chkE l = 0) : ∀ e ∈ l, 0 ≤ e.fault ∧ e.fault ≤ 4 := by
  have key : ∀ (l : List Ev) (pre : List ByteArray), chkG pre l = 0 → ∀ e ∈ l, 0 ≤ e.fault ∧ e.fault ≤ 4 := by
    intro l
    induction l with
    | nil => intro _ _ e he; cases he
    | cons y l ih =>
      intro pre hc e he
      rw [chkG] at hc
      by_cases h1 : evErr pre y ≠ 0
      · rw [if_pos h1] at hc; exact absurd hc h1
      · rw [if_neg h1] at hc
        rcases List.mem_cons.1 he with rfl | he
        · have h2 : evErr pre e = 0 := Classical.not_not.1 h1
          unfold evErr at h2
          split at h2
          · cases h2
          split at h2
          · cases h2
          split at h2
          · cases h2
          · omega
        · exact ih _ hc e he
  unfold chkE at h
  split at h
  · cases h
  · exact key l [] h
set_option maxRecDepth 100000 in
set_option maxHeartbeats 6400000 in
theorem more_walk (x : S4) (cl ev : Int) (w : World) (hx : x.ok) (hc : 0 ≤ cl ∧ cl ≤ 255) (hv : 0 ≤ ev ∧ ev ≤ 255) :
    Calls Try.prog 4 #[.agg (s4c x).toArray, .int .u8 cl, .int .u8 ev] w fun e w' => e = .returned (.bool true) ∧ Below w.heap.size w w' := by
  have hb1 := box_below w (.cells (s4c x).toArray 29)
  have ks := Blk.new w 29 (s4c x)
  obtain ⟨w1, hw1⟩ : ∃ W, W = w.alloc (.cells (s4c x).toArray 29) := ⟨_, rfl⟩
  rw [← hw1] at hb1 ks
  have HK := Lib.hid ks
  have HB1 := Lib.hid hb1
  have HX := Lib.hid hx
  have HSL := Lib.hid (s4_len hx)
  have HW1 := Lib.hid hw1; clear hw1
  clear ks hb1 hx
  go_enter Try.func4, Try.ntmps4
  go_wp2_with fail
  rw [← HW1.out]
  refine (known41 w1).mono ?_
  rintro _ w2 ⟨rfl, hb2⟩
  have HB2 := Lib.hid (HB1.out.trans (hb2.mono HB1.out.size))
  have hk2 := HK.out.below hb2 HK.out.lt
  have hrg : w2.rangeAt w.heap.size 0 (s4c x) := fun j v hv => by rw [Nat.zero_add]; exact hk2.cell hv
  clear hb2
  go_upto_region 3 with fail
  go_wp2_with (first
    | (refine wpList_load_mid rfl 29 (.tmp 3) rfl w.heap.size 0 rfl (s4c x) _ hrg Try.underlying29 rfl (by rw [HSL.out]; kernel_rfl) ?_)
    | fail)
  refine (law_Make41 x w2 HX.out).mono ?_
  rintro _ w3 ⟨z, rfl, hz, his, hb3⟩
  have HIS := Lib.hid his
  have HDM := Lib.hid (his.dm HX.out)
  have HST := Lib.hid (show z.x.a.st ≤ 40 by rw [his.a]; have := S4.st_le HX.out; omega)
  have HZ := Lib.hid hz
  have HB3 := Lib.hid (HB2.out.trans (hb3.mono HB2.out.size))
  have hnv := his.n
  clear hb3 his hz hrg hk2 HB2
  obtain ⟨⟨A, na, ca, M, nm, cm, E, ne, ce, a⟩, V, nv, cv, l⟩ := z
  unfold dvc
  dsimp only at hnv ⊢
  subst hnv
  obtain ⟨sv, hsv⟩ : ∃ s, a.st = s := ⟨_, rfl⟩
  rw [hsv]
  have HSV := Lib.hid hsv
  clear hsv
  have hbx := box_below w3 (.cells #[.slice A na ca, .int .i64 sv, .slice M nm cm, .slice E ne ce, .slice V 5 cv] 37)
  have kb : Blk (w3.alloc (.cells #[.slice A na ca, .int .i64 sv, .slice M nm cm, .slice E ne ce, .slice V 5 cv] 37)) w3.heap.size 37 [.slice A na ca, .int .i64 sv, .slice M nm cm, .slice E ne ce, .slice V 5 cv] := Blk.new _ _ [_, _, _, _, _]
  have HB4 := Lib.hid (HB3.out.trans (hbx.mono HB3.out.size))
  have HZ4 := Lib.hid ((HZ.out.below hbx).more hbx.size)
  clear hbx HZ HB3
  go_upto_region 4 with fail
  generalize w3.heap.size = bx at kb ⊢
  generalize w3.alloc (.cells #[.slice A na ca, .int .i64 sv, .slice M nm cm, .slice E ne ce, .slice V 5 cv] 37) = w4 at kb HB4 HZ4 ⊢
  obtain ⟨c, hcv⟩ : ∃ c : Int, 1 + cl % 4 = c := ⟨_, rfl⟩
  have hc1 : 1 ≤ c ∧ c ≤ 4 := by omega
  rw [hcv]
  have HKB := Lib.hid kb
  have HCL := Lib.hid (clsE_zero HDM.out hc1.1 hc1.2)
  clear hcv kb
  have a0 := HKB.out.cell (j := 0) rfl
  have a1 := HKB.out.cell (j := 1) rfl
  have a2 := HKB.out.cell (j := 2) rfl
  have a3 := HKB.out.cell (j := 3) rfl
  have a4 := HKB.out.cell (j := 4) rfl
  rcases stlE_or HCL.out with h0 | h25
  · obtain ⟨R, hR, hed⟩ := twin_any (m := DV.m ⟨⟨A, na, ca, M, nm, cm, E, ne, ce, a⟩, V, 5, cv, l⟩) (dmE_wf HDM.out) HST.out c
    have HC := Lib.hid (dm_Diagnosable_ok ⟨⟨A, na, ca, M, nm, cm, E, ne, ce, a⟩, V, 5, cv, l⟩ c w4 HZ4.out h0 HST.out R hR hed)
    unfold dvc at HC
    dsimp only at HC
    rw [HSV.out] at HC
    have HR := Lib.hid hR
    have HS0 := Lib.hid h0
    clear h0 hR hed
    obtain ⟨q, hq⟩ : ∃ b, (diaS R).isSome = b := ⟨_, rfl⟩
    obtain ⟨bn, hbn⟩ : ∃ b, bndS R = b := ⟨_, rfl⟩
    rw [hq, hbn] at HC
    have HQ := Lib.hid hq
    have HBN := Lib.hid hbn
    clear hq hbn
    go_wp2_with fail
    refine HC.out.mono ?_
    rintro _ w5 ⟨rfl, hb5⟩
    have HB5 := Lib.hid (HB4.out.trans (hb5.mono HB4.out.size))
    have HKB5 := Lib.hid (HKB.out.below hb5 HKB.out.lt)
    have HZ5 := Lib.hid ((HZ4.out.below hb5).more hb5.size)
    clear a0 a1 a2 a3 a4 HC hb5 HZ4 HKB HB4
    have a4 := HKB5.out.cell (j := 4) rfl
    cases q with
    | false =>
      go_wp2
      go_ret
      exact ⟨rfl, HB5.out⟩
    | true =>
      obtain ⟨k, hk⟩ : ∃ k : Nat, ev % 5 = (k : Int) := ⟨(ev % 5).toNat, by omega⟩
      have hk5 : k < 5 := by omega
      obtain ⟨e, he⟩ : ∃ e, l[k]? = some e := ⟨_, List.getElem?_eq_getElem (by have := HZ5.out.ll; dsimp only at this; omega)⟩
      obtain ⟨ad, hV, hab, hsm, hce⟩ := HZ5.out.rl k e he
      dsimp only at hV
      subst hV
      go_upto_region 6 with fail
      rw [hk]
      have b5 : (k : Int) < 5 := by omega
      have g4 : w5.cell? ⟨(ad.add (k * 5)).block, (ad.add (k * 5)).off + 4, none⟩ = some (.int .i64 e.fault) := ev_cells (j := 3) (hce 4 _ rfl)
      have HE := Lib.hid he
      obtain ⟨fv, hfv⟩ : ∃ f, e.fault = f := ⟨_, rfl⟩
      rw [hfv] at g4
      have HFV := Lib.hid hfv
      have hcl2 := (chkE_flt (dmE_ev HDM.out) e (List.mem_of_getElem? he))
      rw [hfv] at hcl2
      clear hk hab hsm hce he hfv
      by_cases hf : 0 < fv
      · go_wp2
        go_ret
        exact ⟨rfl, HB5.out⟩
      · obtain rfl : fv = 0 := by omega
        clear hf hcl2
        have a0 := HKB5.out.cell (j := 0) rfl
        have a1 := HKB5.out.cell (j := 1) rfl
        have a2 := HKB5.out.cell (j := 2) rfl
        have a3 := HKB5.out.cell (j := 3) rfl
        have hby := box_below w5 (.cells #[.slice A na ca, .int .i64 sv, .slice M nm cm, .slice E ne ce, .slice (some ad) 5 cv] 37)
        have ky : Blk (w5.alloc (.cells #[.slice A na ca, .int .i64 sv, .slice M nm cm, .slice E ne ce, .slice (some ad) 5 cv] 37)) w5.heap.size 37 [.slice A na ca, .int .i64 sv, .slice M nm cm, .slice E ne ce, .slice (some ad) 5 cv] := Blk.new _ _ [_, _, _, _, _]
        have HB6 := Lib.hid (HB5.out.trans (hby.mono HB5.out.size))
        have HZ6 := Lib.hid ((HZ5.out.below hby).more hby.size)
        have HKB6 := Lib.hid (HKB5.out.below hby HKB5.out.lt)
        have hw5 := HB5.out.size
        have HA5 := Lib.hid HZ5.out
        have HB56 := Lib.hid hby
        clear hby HZ5 HKB5 HB5
        go_upto_region 9 with fail
        clear g4
        have hyw : w.heap.size ≤ w5.heap.size := hw5
        generalize w5.heap.size = yx at ky hyw HA5 HB56 ⊢
        generalize w5.alloc (.cells #[.slice A na ca, .int .i64 sv, .slice M nm cm, .slice E ne ce, .slice (some ad) 5 cv] 37) = w6 at ky HB6 HZ6 HKB6 HB56 ⊢
        clear a0 a1 a2 a3 a4
        have a4 := HKB6.out.cell (j := 4) rfl
        have HCL6 := Lib.hid (slices_CloneE ad cv 5 l w6 HZ6.out.ll HZ6.out.rl (by omega))
        have HKY := Lib.hid ky
        clear ky
        go_wp2_with fail
        refine HCL6.out.mono ?_
        rintro _ w7 ⟨v7, rfl, ho7, hb7⟩
        obtain ⟨V7, c7, rfl⟩ := own_shape ho7
        obtain ⟨g, rest, rfl, hg, hk7⟩ := own_blkE ho7 (by omega)
        have hgl := hk7.lt
        have ky7 := HKY.out.below hb7 HKY.out.lt
        have hyl : yx < w6.heap.size := HKY.out.lt
        have HB7 := Lib.hid (HB6.out.trans (hb7.mono HB6.out.size))
        have HZ7 := Lib.hid ((HZ6.out.below hb7).more hb7.size)
        have hcap := own_capN ho7
        have f4 := ky7.free 4
        have e4 := ky7.cell (j := 4) rfl
        have l7 := ky7.lt
        have hg8 := grown_setCell w7 yx 4 (.slice (some ⟨g, 0, none⟩) 5 c7)
        have HY8 := Lib.hid (ky7.set (j := 4) (by simp) (.slice (some ⟨g, 0, none⟩) 5 c7))
        have HK8 := Lib.hid (hk7.kept hg8 (by intro e; injection e with e; omega))
        have HG8 := Lib.hid hg8
        clear HCL6 ho7 hk7 hg8 ky7 a4
        go_upto_region 10 with fail
        have hsz8 : (w7.setCell ⟨yx, 4, none⟩ (.slice (some ⟨g, 0, none⟩) 5 c7)).heap.size = w7.heap.size := by simp
        generalize w7.setCell ⟨yx, 4, none⟩ (.slice (some ⟨g, 0, none⟩) 5 c7) = w8 at HY8 HK8 HG8 hsz8 ⊢
        clear f4 e4 l7
        have e4 := HY8.out.cell (j := 4) rfl
        have hlen : (l.flatMap Ev.cells).length = 25 := by rw [flat_len Ev.cells 5 l (fun _ _ => rfl)]; have := HZ7.out.ll; dsimp only at this; rw [this]
        have ho2 : w8.cell? ⟨g, k * 5 + 2, none⟩ = some (.bool e.o) := HK8.out.cell (by
          have h1 := flat_get Ev.cells 5 l (fun _ _ => rfl) k e 2 (.bool e.o) HE.out rfl
          rw [List.getElem?_append_left (by omega)]; exact h1)
        have f2 := HK8.out.free (k * 5 + 2)
        have l2 := HK8.out.lt
        have hk9 := HK8.out.set (j := k * 5 + 2) (by rw [List.length_append]; omega) (.bool true)
        rw [obs_cells l k e HE.out] at hk9
        have HK9 := Lib.hid hk9
        have HG9 := Lib.hid (grown_setCell w8 g (k * 5 + 2) (.bool true))
        have HY9 := Lib.hid (HY8.out.kept HG9.out (by intro e; injection e with e; omega))
        clear hk9 hlen
        go_upto_region 11 with fail
        have hsz9 : (w8.setCell ⟨g, k * 5 + 2, none⟩ (.bool true)).heap.size = w8.heap.size := by simp
        generalize w8.setCell ⟨g, k * 5 + 2, none⟩ (.bool true) = w9 at HK9 HG9 HY9 hsz9 ⊢
        clear e4 ho2 f2 l2
        have a0 := HY9.out.cell (j := 0) rfl
        have a1 := HY9.out.cell (j := 1) rfl
        have a2 := HY9.out.cell (j := 2) rfl
        have a3 := HY9.out.cell (j := 3) rfl
        have a4 := HY9.out.cell (j := 4) rfl
        have hb59 : Below yx w5 w9 := ((HB56.out.trans (hb7.mono (by omega))).grown HG8.out (by omega) (fun j hj => by injection hj with hj; omega)).grown HG9.out (by omega) (fun j hj => by injection hj with hj; omega)
        have hbw9 : Below w.heap.size w w9 := (HB7.out.grown HG8.out (by omega) (fun j hj => by injection hj with hj; omega)).grown HG9.out (by omega) (fun j hj => by injection hj with hj; omega)
        have hz9 := (HA5.out.below hb59).more (show yx ≤ w9.heap.size by omega)
        have HOBS := Lib.hid (show ObsZ ⟨⟨A, na, ca, M, nm, cm, E, ne, ce, a⟩, some ad, 5, cv, l⟩ ⟨⟨A, na, ca, M, nm, cm, E, ne, ce, a⟩, some ⟨g, 0, none⟩, 5, c7, obsL l k⟩ k from ⟨rfl, rfl, rfl⟩)
        have hzy : DV.ok w9 w9.heap.size ⟨⟨A, na, ca, M, nm, cm, E, ne, ce, a⟩, some ⟨g, 0, none⟩, 5, c7, obsL l k⟩ := ⟨hz9.x, by show (obsL l k).length = 5; rw [obsL_len]; exact HZ7.out.ll, rdE_rest (obsL_small (fun y hy => by obtain ⟨j, hj⟩ := List.getElem?_of_mem hy; obtain ⟨_, _, _, h3, _⟩ := HZ7.out.rl j y hj; exact h3)) HK9.out, hcap.1, hcap.2⟩
        have hdy := HOBS.out.dm HE.out HFV.out HDM.out
        have hsy := HOBS.out.stl HE.out HFV.out HDM.out hc1.1 hc1.2 HZ7.out.ll HS0.out
        obtain ⟨R', hR', hed'⟩ := twin_any (m := DV.m ⟨⟨A, na, ca, M, nm, cm, E, ne, ce, a⟩, some ⟨g, 0, none⟩, 5, c7, obsL l k⟩) (dmE_wf hdy) HST.out c
        have hdi := HOBS.out.dia HE.out HFV.out HDM.out hc1.1 HST.out HR.out hR' HQ.out
        have HC9 := Lib.hid (dm_Diagnosable_ok ⟨⟨A, na, ca, M, nm, cm, E, ne, ce, a⟩, some ⟨g, 0, none⟩, 5, c7, obsL l k⟩ c w9 hzy hsy HST.out R' hR' hed')
        unfold dvc at HC9
        dsimp only at HC9
        rw [HSV.out, hdi.1] at HC9
        obtain ⟨b2, hb2⟩ : ∃ b, bndS R' = b := ⟨_, rfl⟩
        have hle : b2 ≤ bn := by rw [← hb2, ← HBN.out]; exact hdi.2
        rw [hb2] at HC9
        have HBW9 := Lib.hid hbw9
        clear hb59 hbw9 hz9 hzy hdy hsy hR' hed' hdi hb2 hb7
        go_wp2_with fail
        refine HC9.out.mono ?_
        rintro _ w10 ⟨rfl, hb10⟩
        have HB10 := Lib.hid (HBW9.out.trans (hb10.mono HBW9.out.size))
        clear a0 a1 a2 a3 a4 hb10 HC9
        go_wp2
        go_ret
        exact ⟨rfl, HB10.out⟩
  · have HC := Lib.hid (dm_Diagnosable_err ⟨⟨A, na, ca, M, nm, cm, E, ne, ce, a⟩, V, 5, cv, l⟩ c 25 w4 HZ4.out h25 (by decide))
    unfold dvc at HC
    dsimp only at HC
    rw [HSV.out] at HC
    clear h25
    go_wp2_with fail
    refine HC.out.mono ?_
    rintro _ w5 ⟨rfl, hb5⟩
    have HB5 := Lib.hid (HB4.out.trans (hb5.mono HB4.out.size))
    have HKB5 := Lib.hid (HKB.out.below hb5 HKB.out.lt)
    clear a0 a1 a2 a3 a4 HC hb5
    have a4 := HKB5.out.cell (j := 4) rfl
    go_wp2
    go_ret
    exact ⟨rfl, HB5.out⟩
end Go.Proofs.Ytddhaidimadliaa
