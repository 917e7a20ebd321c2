/- Walks: product.Refusers, and what it computes. -/
import Derived.Test.YtbdliebjalghmaaDoorMk
import Derived.Test.YtbdliebjalghmaaDoorMb
namespace Go.Proofs.YtbdliebjalghmaaDoor
open Go.RowKit Go Go.Maps

def rfsG : List Aut → List Int → Int → Int → List Int
  | a :: l, s :: t, v, i => if rf a s v = true then i :: rfsG l t v (i + 1) else rfsG l t v (i + 1)
  | _, _, _, _ => []
theorem rfsG_hit {l : List Aut} {t : List Int} {k : Nat} {a : Aut} {s v : Int} (ha : l[k]? = some a) (hs : t[k]? = some s) (h : rf a s v = true) (acc : List Int) : acc ++ rfsG (l.drop k) (t.drop k) v (k : Int) = (acc ++ [(k : Int)]) ++ rfsG (l.drop (k + 1)) (t.drop (k + 1)) v ((k + 1 : Nat) : Int) := by
  rw [drop_cons' ha, drop_cons' hs, rfsG, if_pos h, List.append_assoc]; rfl
theorem rfsG_go {l : List Aut} {t : List Int} {k : Nat} {a : Aut} {s v : Int} (ha : l[k]? = some a) (hs : t[k]? = some s) (h : rf a s v = false) : rfsG (l.drop k) (t.drop k) v (k : Int) = rfsG (l.drop (k + 1)) (t.drop (k + 1)) v ((k + 1 : Nat) : Int) := by
  rw [drop_cons' ha, drop_cons' hs, rfsG, if_neg (by rw [h]; simp)]; rfl
theorem rfsG_end {l : List Aut} {t : List Int} {k : Nat} {v i : Int} (h : ¬ k < l.length) : rfsG (l.drop k) (t.drop k) v i = [] := by
  rw [List.drop_of_length_le (by omega)]; rfl
/-- A list of ints of the call's own, and an error. -/
def RetLE (l : List Int) (er : Int) (w : World) (e : Ending) (w' : World) : Prop := ∃ v, e = .returned (.tuple #[v, .int .i64 er]) ∧ w'.ownsRow w.heap.size 3 1 v l.length (iv l) ∧ Below w.heap.size w w'

set_option maxRecDepth 100000 in
set_option maxHeartbeats 3200000 in
theorem refusers_err (L : Option Addr) (c n : Nat) (xs : List AV) (T : Option Addr) (ct nt : Nat) (t : List Int) (v : Int) (w : World) (hl : xs.length = n) (h : RdL w w.heap.size L xs) (hc1 : n ≤ c) (hc2 : c ≤ 9223372036854775807) (hT : RdI w w.heap.size T t) (ht : t.length = nt) (hz : chkV (xs.map AV.a) t v ≠ 0) :
    Calls Tryd.prog 33 #[.slice L n c, .slice T nt ct, .int .i64 v] w (RetLE [] (chkV (xs.map AV.a) t v) w) := by
  have HC := Lib.hid (product_checkEvent L c n xs T ct nt t v w hl h hc1 hc2 hT ht)
  generalize chkV (xs.map AV.a) t v = z at *
  have q1 : (z != 0) = true := by simpa using hz
  clear hz
  go_enter Tryd.func33, Tryd.ntmps33
  go_wp2_with fail
  refine HC.out.mono ?_
  rintro e w1 ⟨rfl, hb1⟩
  go_wp2
  go_ret2
  exact ⟨_, rfl, World.ownsRow_nil _ _ _ _, hb1⟩


set_option maxRecDepth 100000 in
set_option maxHeartbeats 3200000 in
theorem refusers_ok (L : Option Addr) (c n : Nat) (xs : List AV) (T : Option Addr) (ct nt : Nat) (t : List Int) (v : Int) (w : World) (hl : xs.length = n) (h : RdL w w.heap.size L xs) (hc1 : n ≤ c) (hc2 : c ≤ 9223372036854775807) (hT : RdI w w.heap.size T t) (ht : t.length = nt) (hz : chkV (xs.map AV.a) t v = 0) :
    Calls Tryd.prog 33 #[.slice L n c, .slice T nt ct, .int .i64 v] w (RetLE (rfsG (xs.map AV.a) t v 0) 0 w) := by
  have HC := Lib.hid (product_checkEvent L c n xs T ct nt t v w hl h hc1 hc2 hT ht)
  rw [hz] at HC
  have hz1 : chkT (xs.map AV.a) t = 0 := by
    by_cases h1 : chkT (xs.map AV.a) t = 0
    · exact h1
    · unfold chkV at hz; rw [if_pos h1] at hz; exact absurd hz h1
  have hev : hasB (evs (xs.map AV.a)) v = true := by
    unfold chkV at hz
    rw [if_neg (by simpa using hz1)] at hz
    by_cases h1 : hasB (evs (xs.map AV.a)) v = true
    · exact h1
    · rw [if_neg h1] at hz; cases hz
  have hz2 : chkL (xs.map AV.a) = 0 := by
    by_cases h1 : chkL (xs.map AV.a) = 0
    · exact h1
    · unfold chkT at hz1; rw [if_pos h1] at hz1; exact absurd hz1 h1
  obtain ⟨hn, hw⟩ := chkL_wf hz2
  rw [List.length_map, hl] at hn
  have hnt : t.length = (xs.map AV.a).length := by
    unfold chkT at hz1
    rw [if_neg (by simpa using hz2)] at hz1
    by_cases h1 : t.length = (xs.map AV.a).length
    · exact h1
    · rw [if_pos h1] at hz1; cases hz1
  have htup : Tup (xs.map AV.a) t := by
    unfold chkT at hz1
    rw [if_neg (by simpa using hz2), if_neg (by simpa using hnt)] at hz1
    exact tupG_tup hz1 hnt
  have hvr := evs_rng hw v (hasB_mem.1 hev)
  have hntn : nt = n := by rw [← ht, hnt, List.length_map, hl]
  subst hntn
  obtain ⟨R, hR⟩ : ∃ R, R = rfsG (xs.map AV.a) t v 0 := ⟨_, rfl⟩
  rw [← hR]
  have hR0 : R = [] ++ rfsG ((xs.map AV.a).drop 0) (t.drop 0) v ((0 : Nat) : Int) := hR
  have HR := Lib.hid hR0; clear hR0
  have HL := Lib.hid hl; clear hl
  have HW := Lib.hid hw; clear hw
  have HTU := Lib.hid htup; clear htup
  have HTL := Lib.hid ht; clear ht
  clear hz hz1 hz2 hev hnt hR
  go_enter Tryd.func33, Tryd.ntmps33
  go_wp2_with fail
  refine HC.out.mono ?_
  rintro e w1 ⟨rfl, hb1⟩
  have hRL := (h.below hb1).more hb1.size
  have HOP := Lib.hid (product_open L c nt xs w1 w1.heap.size HL.out hRL (Nat.le_refl _) hc1 hc2 hn HW.out)
  have HB1 := Lib.hid hb1; clear hb1
  clear hRL HC
  go_wp2_with fail
  refine HOP.out.mono ?_
  rintro e w2 ⟨V, nv, cv, G, cg, rfl, hMF, hb2⟩
  have hB02 := HB1.out.trans (hb2.mono HB1.out.size)
  have hMR := hMF.mach hb2.size
  have hTb := (hT.below hB02).more hB02.size
  have hgc := hMF.gc
  have hcG := hMF.cG
  have hs02 := hB02.size
  have HB02 := Lib.hid hB02; clear hB02
  clear HOP HB1 hMF hb2
  have HMR := Lib.hid hMR
  clear hMR
  have HTB := Lib.hid hTb
  clear hTb h hT
  go_wp2
  go_loopw [10, 26] (fun ov i wr => ∃ (k m : Nat) (acc : List Int), k ≤ nt ∧ m ≤ k ∧ i = .int .i64 k ∧ Hid (acc.length = m) ∧ Hid (R = acc ++ rfsG ((xs.map AV.a).drop k) (t.drop k) v (k : Int)) ∧ Hid (wr.ownsRow (w2.heap.size + 1) 3 1 ov m (iv acc)) ∧
    Below (w2.heap.size + 1) (w2.alloc (.cells #[.slice L nt c, .slice V nv cv, .slice G nt cg] 91)) wr) (fun _ i _ => nt - (intOf i).toNat)
  case atStart => exact ⟨0, 0, [], Nat.zero_le _, Nat.le_refl _, rfl, Lib.hid rfl, HR, Lib.hid (World.ownsRow_nil _ _ _ _), Below.refl _ _⟩
  case round =>
    obtain ⟨k, m, acc, hk, hm, rfl, HAL, HX, HO, hbel⟩ := hrel
    clear HR
    have hsz1 : w2.heap.size + 1 ≤ wr.heap.size := by have := hbel.size; simpa using this
    have hsz : w2.heap.size ≤ wr.heap.size := by omega
    have hsz2 : w2.heap.size < wr.heap.size := by omega
    have hbl := (box_below w2 (.cells #[.slice L nt c, .slice V nv cv, .slice G nt cg] 91)).trans (hbel.mono (Nat.le_succ _))
    have c2 : wr.cell? ⟨w2.heap.size, 2, none⟩ = some (.slice G nt cg) := box_cells (us := [_, _, _]) hbel rfl
    by_cases hlt : k < nt
    · obtain ⟨ad, A', na, ca, M, nm, cm, E, ne, ce, a, rfl, hbb, hx, q0, q1, q2, q3, haR⟩ := ((HMR.out.rl.below hbl).more hsz).at_ (k := k) (by have := HL.out; omega)
      have b1 : (k : Int) < (nt : Int) := by omega
      have p1 : wr.cell? ⟨(ad.add (k * 4)).block, (ad.add (k * 4)).off + 1, none⟩ = some (.int .i64 a.st) := st_cells (j := 0) q1
      have p2 : wr.cell? ⟨(ad.add (k * 4)).block, (ad.add (k * 4)).off + 2, none⟩ = some (.slice M nm cm) := st_cells (j := 1) q2
      have p3 : wr.cell? ⟨(ad.add (k * 4)).block, (ad.add (k * 4)).off + 3, none⟩ = some (.slice E ne ce) := st_cells (j := 2) q3
      clear q1 q2 q3
      have hxa : (xs.map AV.a)[k]? = some a := by simp [hx]
      have hBA := box_below wr (.cells #[.slice A' na ca, .int .i64 a.st, .slice M nm cm, .slice E ne ce] 29)
      have HRA := Lib.hid ((haR.ra.after hBA (Nat.le_refl _)).more hBA.size)
      have HLA := Lib.hid haR.la
      have hwa := HW.out a (List.mem_of_getElem? hxa)
      have HAI := Lib.hid hwa.inc
      have hal := hwa.al_le
      rw [HLA.out] at hal
      obtain ⟨td, s, rfl, hbt, hts, hcs⟩ := ((HTB.out.below hbl).more hsz).at_ (k := k) (by have := HTL.out; omega)
      have hcs' : (wr.alloc (.cells #[.slice A' na ca, .int .i64 a.st, .slice M nm cm, .slice E ne ce] 29)).cell? (td.add k) = some (.int .i64 s) := (World.cell?_alloc_lt wr _ _ (by rw [block_of_add]; exact hbt)).trans hcs
      have hsr := HTU.out.at_ hxa hts
      have hst1 := hwa.st1
      obtain ⟨gd, mb, mm, rfl, hgb, hmb, hgc1, htab⟩ := ((HMR.out.rg.below hbl).more hsz) k a hxa
      have hgc2 : (wr.alloc (.cells #[.slice A' na ca, .int .i64 a.st, .slice M nm cm, .slice E ne ce] 29)).cell? (gd.add k) = some (.map (some mb)) := (World.cell?_alloc_lt wr _ _ (by rw [block_of_add]; exact hgb)).trans hgc1
      have htab2 := TabI.alloc htab (.cells #[.slice A' na ca, .int .i64 a.st, .slice M nm cm, .slice E ne ce] 29)
      have hkey := pairKey wr s v (WalkArith.wf_i64 (by omega)) (WalkArith.wf_i64 (by omega))
      have hlk := lkE_of_nxt hwa (s := s) (v := v)
      have d3 : k < nt := hlt
      have HOA := Lib.hid (own_drewN (HO.out.alloc (.cells #[.slice A' na ca, .int .i64 a.st, .slice M nm cm, .slice E ne ce] 29)))
      clear hgc1 htab haR hcs
      by_cases hneg : nxt a s v < 0
      · rw [if_pos hneg] at hlk
        have hlook : ∀ p : Nat, (Instr.lookup 105 (.map (some mb)) (.agg #[.int .i64 s, .int .i64 v]) true).run Tryd.prog ((wr.alloc (.cells #[.slice A' na ca, .int .i64 a.st, .slice M nm cm, .slice E ne ce] 29)).drewN p) = .ok (.tuple #[.int .i64 0, .bool false]) ((wr.alloc (.cells #[.slice A' na ca, .int .i64 a.st, .slice M nm cm, .slice E ne ce] 29)).drewN p) := fun p =>
          tab_run_miss 105 pairLaw Tryd.underlying105 Tryd.underlying3 rfl (TabI.drewN htab2 p) (s, v) hkey hlk
        obtain ⟨q, hq⟩ : ∃ q, hasB a.al v = q := ⟨_, rfl⟩
        have hrf : rf a s v = q := by simp [rf, hq, hneg]
        have HQ := Lib.hid hq; clear hq
        have HRF := Lib.hid hrf; clear hrf
        have HXA := Lib.hid hxa; clear hxa
        have HX2 := Lib.hid hx; clear hx
        have HTS := Lib.hid hts; clear hts
        have HWA := Lib.hid hwa; clear hwa
        have HLK := Lib.hid hlk; clear hlk
        clear hkey htab2
        go_wp2
        go_quiet (fail)
        go_wp2_with fail
        refine (alphabet_Contains_n A' ca na a.al v q _ HLA.out HQ.out (by exact HRA.out) (by omega) HAI.out).mono ?_
        rintro e w' ⟨rfl, rfl⟩
        cases q with
        | true =>
          have hszA : w2.heap.size + 1 ≤ ((wr.alloc (.cells #[.slice A' na ca, .int .i64 a.st, .slice M nm cm, .slice E ne ce] 29)).drewN nq).heap.size := by simp [World.drewN]; omega
          have HXX := Lib.hid (show Value.slice (some ⟨wr.heap.size + 1, 0, none⟩) 1 1 = .slice (some ⟨((wr.alloc (.cells #[.slice A' na ca, .int .i64 a.st, .slice M nm cm, .slice E ne ce] 29)).drewN nq).heap.size, 0, none⟩) 1 1 by simp [World.drewN])
          go_wp2_with (at_builtin; refine wpList_push _ (.int .i64 (k : Int)) rfl (.tmp 54) (.tmp 56) 26 rfl (w2.heap.size + 1) 3 (.int .i64 0) 8 Tryd.underlying26 int_info rfl u10 m _ rfl (HOA.out nq) HXX.out rfl (by omega) (by omega) hszA ?_; intro v' w' ho' hg' hb1')
          go_roundw
          case rel =>
            refine ⟨k + 1, m + 1, acc ++ [(k : Int)], by omega, by omega, by go_num, Lib.hid (by rw [List.length_append, HAL.out]; rfl), Lib.hid (HX.out.trans (rfsG_hit HXA.out HTS.out HRF.out acc)), Lib.hid (by rw [iv_append]; exact ho'), ?_⟩
            exact own_below_of (HOA.out nq) (below_drewN (hbel.alloc hsz1 _) _) hg' hszA
          case measure => simp [intOf]; omega
        | false =>
          go_wp2
          go_roundw
          case rel => exact ⟨k + 1, m, acc, by omega, by omega, by go_num, HAL, Lib.hid (by rw [← rfsG_go HXA.out HTS.out HRF.out]; exact HX.out), Lib.hid (HOA.out nq), below_drewN (hbel.alloc hsz1 _) _⟩
          case measure => simp [intOf]; omega
      · rw [if_neg hneg] at hlk
        obtain ⟨y, hy⟩ : ∃ y, nxt a s v = y := ⟨_, rfl⟩
        have hrf : rf a s v = false := by simp [rf, hneg]
        rw [hy] at hlk
        have hlook : ∀ p : Nat, (Instr.lookup 105 (.map (some mb)) (.agg #[.int .i64 s, .int .i64 v]) true).run Tryd.prog ((wr.alloc (.cells #[.slice A' na ca, .int .i64 a.st, .slice M nm cm, .slice E ne ce] 29)).drewN p) = .ok (.tuple #[.int .i64 y, .bool true]) ((wr.alloc (.cells #[.slice A' na ca, .int .i64 a.st, .slice M nm cm, .slice E ne ce] 29)).drewN p) := fun p =>
          tab_run_hit 105 pairLaw Tryd.underlying105 Tryd.underlying3 rfl (TabI.drewN htab2 p) (s, v) hkey y hlk
        have HRF := Lib.hid hrf; clear hrf
        have HXA := Lib.hid hxa; clear hxa
        have HX2 := Lib.hid hx; clear hx
        have HTS := Lib.hid hts; clear hts
        have HWA := Lib.hid hwa; clear hwa
        have HLK := Lib.hid hlk; clear hlk
        clear hkey htab2 hy
        go_wp2
        go_quiet (fail)
        go_wp2
        go_roundw
        case rel => exact ⟨k + 1, m, acc, by omega, by omega, by go_num, HAL, Lib.hid (by rw [← rfsG_go HXA.out HTS.out HRF.out]; exact HX.out), Lib.hid (HOA.out _), below_drewN (hbel.alloc hsz1 _) _⟩
        case measure => simp [intOf]; omega
    · have hfin : R = acc := by rw [HX.out, rfsG_end (by rw [List.length_map, HL.out]; exact hlt), List.append_nil]
      have HFIN := Lib.hid hfin; clear hfin
      go_wp2
      go_ret2
      rw [HFIN.out]
      exact ⟨_, rfl, by rw [HAL.out]; exact own_base HO.out (by omega), HB02.out.trans (hbl.mono hs02)⟩
end Go.Proofs.YtbdliebjalghmaaDoor
