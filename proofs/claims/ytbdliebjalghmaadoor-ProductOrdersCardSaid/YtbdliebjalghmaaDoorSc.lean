/- Walks: automaton.checkEdges, automaton.Check. -/
import Derived.Test.YtbdliebjalghmaaDoorSb
namespace Go.Proofs.YtbdliebjalghmaaDoor
open Go.RowKit Go

theorem box_cells {w wr : World} {us : List Value} {t : TypeId} (hb : Below (w.heap.size + 1) (w.alloc (.cells us.toArray t)) wr) {j : Nat} {u : Value} (hj : us[j]? = some u) : wr.cell? ⟨w.heap.size, j, none⟩ = some u := by
  rw [hb.cell (p := ⟨w.heap.size, j, none⟩) (Nat.lt_succ_self _), cell_of_row _ _ _ _ t (0, 0) (heap_alloc_new w _)]
  simpa using hj
theorem box_below (w : World) (o : Obj) : Below w.heap.size w (w.alloc o) := (Below.refl _ _).alloc (Nat.le_refl _) _


set_option maxRecDepth 100000 in
set_option maxHeartbeats 1600000 in
theorem automaton_checkEdges (A : Option Addr) (na ca : Nat) (M : Option Addr) (nm cm : Nat) (E : Option Addr) (ne ce : Nat) (a : Aut) (r : Int) (w : World) (h : AutR w w.heap.size A na ca M nm cm E ne ce a) (hr : edErr a.st a.al a.ed = r) :
    Calls Tryd.prog 78 #[.agg #[.slice A na ca, .int .i64 a.st, .slice M nm cm, .slice E ne ce]] w fun e w' => e = .returned (.int .i64 r) ∧ Below w.heap.size w w' := by
  obtain ⟨hla, hac, hcA, hA, hlm, hmc, hcM, hM, hle, hec, hcE, hE⟩ := h
  obtain ⟨al, st, ma, ed⟩ := a
  simp only at hla hA hlm hM hle hE hr ⊢
  have hB0 := box_below w (.cells #[.slice A na ca, .int .i64 st, .slice M nm cm, .slice E ne ce] 29)
  have HNA := Lib.hid hla; clear hla
  have HNM := Lib.hid hlm; clear hlm
  have HNE := Lib.hid hle; clear hle
  have HR := Lib.hid hr; clear hr
  go_enter Tryd.func78, Tryd.ntmps78
  go_wp2
  go_loopw [9] (fun i wr => ∃ k : Nat, k ≤ ne ∧ i = .int .i64 k ∧ Hid (r = edG st al (ed.take k).getLast? (ed.drop k)) ∧ Below (w.heap.size + 1) (w.alloc (.cells #[.slice A na ca, .int .i64 st, .slice M nm cm, .slice E ne ce] 29)) wr) (fun i _ => ne - (intOf i).toNat)
  case atStart => exact ⟨0, Nat.zero_le _, rfl, Lib.hid HR.out.symm, Below.refl _ _⟩
  case round =>
    obtain ⟨k, hk, rfl, HX, hbel⟩ := hrel
    clear HR
    have hsz : w.heap.size + 1 ≤ wr.heap.size := by have := hbel.size; simpa using this
    have hsz1 : w.heap.size ≤ wr.heap.size := by omega
    have hsz2 : w.heap.size < wr.heap.size := by omega
    have hbl := hB0.trans (hbel.mono (Nat.le_succ _))
    have c0 : wr.cell? ⟨w.heap.size, 0, none⟩ = some (.slice A na ca) := box_cells (us := [_, _, _, _]) hbel rfl
    have c1 : wr.cell? ⟨w.heap.size, 1, none⟩ = some (.int .i64 st) := box_cells (us := [_, _, _, _]) hbel rfl
    have c3 : wr.cell? ⟨w.heap.size, 3, none⟩ = some (.slice E ne ce) := box_cells (us := [_, _, _, _]) hbel rfl
    by_cases hlt : k < ne
    · skip
      obtain ⟨ad, x, rfl, hbb, hx, q0, q1, q2⟩ := ((hE.below hbl).more hsz1).at_ (k := k) (by have := HNE.out; omega)
      have b1 : ((k : Nat) : Int) < (ne : Int) := by omega
      have p1 : wr.cell? ⟨(ad.add (k * 3)).block, (ad.add (k * 3)).off + 1, none⟩ = some (.int .i64 x.e) := st_cells (j := 0) q1
      have p2 : wr.cell? ⟨(ad.add (k * 3)).block, (ad.add (k * 3)).off + 2, none⟩ = some (.int .i64 x.t) := st_cells (j := 1) q2
      clear q1 q2
      have hal : RdI (wr.alloc (.cells #[.int .i64 x.f, .int .i64 x.e, .int .i64 x.t] 43)) (wr.alloc (.cells #[.int .i64 x.f, .int .i64 x.e, .int .i64 x.t] 43)).heap.size A al := ((hA.below hbl).after (box_below wr _) hsz1).more (by simp; omega)
      have HAL := Lib.hid hal
      clear hal
      have HGX := Lib.hid hx; clear hx
      by_cases ho : edOut st x
      · have HB := Lib.hid (show r = 2 by rw [HX.out, edG_out HGX.out ho])
        have HO := Lib.hid ho; clear ho
        go_wp2_with fail
        all_goals first
          | (go_ret; exact ⟨ret_int HB.out.symm, hbl.alloc hsz1 _⟩)
          | (exfalso; have := HO.out; unfold edOut at this; omega)
      have ho' : 0 ≤ x.f ∧ x.f < st ∧ 0 ≤ x.t ∧ x.t < st := by unfold edOut at ho; omega
      obtain ⟨o1, o2, o3, o4⟩ := ho'
      have HO := Lib.hid ho; clear ho
      cases hh : hasB al x.e with
      | false =>
        have HB := Lib.hid (show r = 9 by rw [HX.out, edG_unknown HGX.out HO.out hh])
        have HH := Lib.hid hh; clear hh
        go_wp2_with fail
        refine (slices_Contains A ca na al x.e false _ HNA.out HH.out HAL.out hac hcA).mono ?_
        rintro e w' ⟨rfl, rfl⟩
        go_wp2
        go_ret
        exact ⟨ret_int HB.out.symm, hbl.alloc hsz1 _⟩
      | true =>
        have HH := Lib.hid hh; clear hh
        cases k with
        | zero =>
          simp only [Nat.zero_mul, add_zero'] at q0 p1 p2
          have HS := Lib.hid (show r = edG st al (ed.take 1).getLast? (ed.drop 1) by rw [HX.out, take_snoc' HGX.out, List.getLast?_concat]; exact edG_first HGX.out HO.out HH.out)
          go_wp2_with fail
          refine (slices_Contains A ca na al x.e true _ HNA.out HH.out HAL.out hac hcA).mono ?_
          rintro e w' ⟨rfl, rfl⟩
          go_wp2
          go_roundw
          case rel => exact ⟨1, by omega, by go_num, HS, hbel.alloc hsz _⟩
          case measure => simp [intOf]; omega
        | succ j =>
          obtain ⟨ad', y, e, _, hy, g0, g1, g2⟩ := ((hE.below hbl).after (box_below wr (.cells #[.int .i64 x.f, .int .i64 x.e, .int .i64 x.t] 43)) hsz1).at_ (k := j) (by have := HNE.out; omega)
          obtain rfl : ad = ad' := by injection e
          have b2 : (j : Int) < (ne : Int) := by omega
          have r1 : (wr.alloc (.cells #[.int .i64 x.f, .int .i64 x.e, .int .i64 x.t] 43)).cell? ⟨(ad.add (j * 3)).block, (ad.add (j * 3)).off + 1, none⟩ = some (.int .i64 y.e) := st_cells (j := 0) g1
          have r2 : (wr.alloc (.cells #[.int .i64 x.f, .int .i64 x.e, .int .i64 x.t] 43)).cell? ⟨(ad.add (j * 3)).block, (ad.add (j * 3)).off + 2, none⟩ = some (.int .i64 y.t) := st_cells (j := 1) g2
          clear g1 g2
          have HY := Lib.hid hy; clear hy
          by_cases hl : edLe x y
          · have HB := Lib.hid (show r = 5 by rw [HX.out, take_snoc' HY.out, List.getLast?_concat]; exact edG_order HGX.out HO.out HH.out hl)
            have HLE := Lib.hid hl; clear hl
            go_wp2_with fail
            refine (slices_Contains A ca na al x.e true _ HNA.out HH.out HAL.out hac hcA).mono ?_
            rintro e w' ⟨rfl, rfl⟩
            go_wp2
            all_goals first
              | (exfalso; have := HLE.out; unfold edLe at this; omega)
              | (go_ret; exact ⟨ret_int HB.out.symm, (hbl.alloc hsz1 _).alloc (by simp; omega) _⟩)
          · have HS := Lib.hid (show r = edG st al (ed.take (j + 1 + 1)).getLast? (ed.drop (j + 1 + 1)) by rw [HX.out, take_snoc' HY.out, List.getLast?_concat, edG_next HGX.out HO.out HH.out hl, take_snoc' HGX.out, List.getLast?_concat])
            have HLE := Lib.hid hl; clear hl
            go_wp2_with fail
            refine (slices_Contains A ca na al x.e true _ HNA.out HH.out HAL.out hac hcA).mono ?_
            rintro e w' ⟨rfl, rfl⟩
            go_wp2
            all_goals first
              | (exfalso; have := HLE.out; unfold edLe at this; omega)
              | skip
            all_goals
              go_roundw
              case rel => exact ⟨j + 1 + 1, by omega, by go_num, HS, (hbel.alloc hsz _).alloc (by simp; omega) _⟩
              case measure => simp [intOf]; omega
    · have hf : r = 0 := by rw [HX.out, edG_end (by have := HNE.out; omega)]
      have HF := Lib.hid hf; clear hf
      go_wp2
      go_ret
      exact ⟨ret_int HF.out.symm, hbl⟩

theorem automaton_Check (A : Option Addr) (na ca : Nat) (M : Option Addr) (nm cm : Nat) (E : Option Addr) (ne ce : Nat) (a : Aut) (w : World) (h : AutR w w.heap.size A na ca M nm cm E ne ce a) :
    Calls Tryd.prog 62 #[.agg #[.slice A na ca, .int .i64 a.st, .slice M nm cm, .slice E ne ce]] w fun e w' => e = .returned (.int .i64 (chkA a)) ∧ Below w.heap.size w w' := by
  have hB0 := box_below w (.cells #[.slice A na ca, .int .i64 a.st, .slice M nm cm, .slice E ne ce] 29)
  have h1 : AutR (w.alloc (.cells #[.slice A na ca, .int .i64 a.st, .slice M nm cm, .slice E ne ce] 29)) (w.alloc (.cells #[.slice A na ca, .int .i64 a.st, .slice M nm cm, .slice E ne ce] 29)).heap.size A na ca M nm cm E ne ce a := (h.below hB0).more hB0.size
  have HE := Lib.hid (automaton_checkEdges A na ca M nm cm E ne ce a (edErr a.st a.al a.ed) _ h1 rfl)
  have HA := Lib.hid (automaton_checkSet A ca na a.al 32 (setErr a.al 32) _ h1.la rfl h1.ra h1.ac h1.cA)
  have HM := Lib.hid (automaton_checkSet M cm nm a.ma a.st (setErr a.ma a.st) _ h1.lm rfl h1.rm h1.mc h1.cM)
  clear h1 h
  obtain ⟨al, st, ma, ed⟩ := a
  simp only at HE HA HM ⊢
  by_cases c1 : setErr al 32 = 0
  · by_cases c2 : st < 0
    · have HR := Lib.hid (chkA_neg (a := ⟨al, st, ma, ed⟩) c1 c2)
      rw [c1] at HA
      clear c1 HE HM
      go_enter Tryd.func62, Tryd.ntmps62
      go_wp2_with fail
      refine HA.out.mono ?_
      rintro e w' ⟨rfl, rfl⟩
      go_wp2
      go_ret
      exact ⟨ret_int HR.out.symm, hB0⟩
    by_cases c3 : 4096 < st
    · have HR := Lib.hid (chkA_many (a := ⟨al, st, ma, ed⟩) c1 c2 c3)
      rw [c1] at HA
      clear c1 HE HM
      have c2' : 0 ≤ st := by omega
      go_enter Tryd.func62, Tryd.ntmps62
      go_wp2_with fail
      refine HA.out.mono ?_
      rintro e w' ⟨rfl, rfl⟩
      go_wp2
      go_ret
      exact ⟨ret_int HR.out.symm, hB0⟩
    have c2' : 0 ≤ st := by omega
    have c3' : st ≤ 4096 := by omega
    by_cases c4 : setErr ma st = 0
    · have HR := Lib.hid (chkA_ed (a := ⟨al, st, ma, ed⟩) c1 c2 c3 c4)
      rw [c1] at HA
      rw [c4] at HM
      clear c1 c2 c3 c4
      generalize edErr st al ed = r at *
      go_enter Tryd.func62, Tryd.ntmps62
      go_wp2_with fail
      refine HA.out.mono ?_
      rintro e w' ⟨rfl, rfl⟩
      go_wp2_with fail
      refine HM.out.mono ?_
      rintro e w' ⟨rfl, rfl⟩
      go_wp2_with fail
      refine HE.out.mono ?_
      rintro e w1 ⟨rfl, hb⟩
      go_wp2
      go_ret
      exact ⟨ret_int HR.out.symm, hB0.trans (hb.mono hB0.size)⟩
    · have HR := Lib.hid (chkA_mk (a := ⟨al, st, ma, ed⟩) c1 c2 c3 c4)
      rw [c1] at HA
      have q1 : (setErr ma st != 0) = true := by simpa using c4
      clear c1 c2 c3 c4 HE
      generalize setErr ma st = r at *
      go_enter Tryd.func62, Tryd.ntmps62
      go_wp2_with fail
      refine HA.out.mono ?_
      rintro e w' ⟨rfl, rfl⟩
      go_wp2_with fail
      refine HM.out.mono ?_
      rintro e w' ⟨rfl, rfl⟩
      go_wp2
      go_ret
      exact ⟨ret_int HR.out.symm, hB0⟩
  · have HR := Lib.hid (chkA_al (a := ⟨al, st, ma, ed⟩) c1)
    have q1 : (setErr al 32 != 0) = true := by simpa using c1
    clear c1 HE HM
    simp only at HR
    generalize setErr al 32 = r at *
    go_enter Tryd.func62, Tryd.ntmps62
    go_wp2_with fail
    refine HA.out.mono ?_
    rintro e w' ⟨rfl, rfl⟩
    go_wp2
    go_ret
    exact ⟨ret_int HR.out.symm, hB0⟩
end Go.Proofs.YtbdliebjalghmaaDoor
