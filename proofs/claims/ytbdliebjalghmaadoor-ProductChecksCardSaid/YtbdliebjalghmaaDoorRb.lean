/- Walks: ref03.Check. -/
import Derived.Test.YtbdliebjalghmaaDoorRa
namespace Go.Proofs.YtbdliebjalghmaaDoor
open Go.RowKit Go


set_option maxRecDepth 100000 in
set_option maxHeartbeats 3200000 in
theorem ref_Check3 (A : Option Addr) (na ca : Nat) (M : Option Addr) (nm cm : Nat) (E : Option Addr) (ne ce : Nat) (a : Aut) (w : World) (h : AutR w w.heap.size A na ca M nm cm E ne ce a) :
    Calls Tryd.prog 64 #[.agg #[.slice A na ca, .int .i64 a.st, .slice M nm cm, .slice E ne ce]] w fun e w' => e = .returned (.int .i64 (chkA a)) ∧ Below w.heap.size w w' := by
  have hB0 := box_below w (.cells #[.slice A na ca, .int .i64 a.st, .slice M nm cm, .slice E ne ce] 29)
  have h1 : AutR (w.alloc (.cells #[.slice A na ca, .int .i64 a.st, .slice M nm cm, .slice E ne ce] 29)) (w.alloc (.cells #[.slice A na ca, .int .i64 a.st, .slice M nm cm, .slice E ne ce] 29)).heap.size A na ca M nm cm E ne ce a := (h.below hB0).more hB0.size
  have HA := Lib.hid (ref_List A ca na a.al 32 (setErr a.al 32) _ h1.la rfl h1.ra h1.ac h1.cA)
  have HM := Lib.hid (fun p : Nat => ref_List M cm nm a.ma a.st (setErr a.ma a.st) ((w.alloc (.cells #[.slice A na ca, .int .i64 a.st, .slice M nm cm, .slice E ne ce] 29)).drewN p) h1.lm rfl (by exact h1.rm) h1.mc h1.cM)
  clear h1
  obtain ⟨hla, hac, hcA, hA, hlm, hmc, hcM, hM, hle, hec, hcE, hE⟩ := h
  obtain ⟨al, st, ma, ed⟩ := a
  simp only at HA HM hla hA hlm hM hle hE hB0 ⊢
  have HNA := Lib.hid hla; clear hla
  have HNM := Lib.hid hlm; clear hlm
  have HNE := Lib.hid hle; clear hle
  by_cases c1 : setErr al 32 = 0
  · by_cases c2 : st < 0
    · have HR := Lib.hid (chkA_neg (a := ⟨al, st, ma, ed⟩) c1 c2)
      rw [c1] at HA
      clear c1 HM
      go_enter Tryd.func64, Tryd.ntmps64
      go_wp2_with fail
      refine HA.out.mono ?_
      rintro e w' ⟨rfl, p1, rfl⟩
      go_wp2
      go_ret
      exact ⟨ret_int HR.out.symm, below_drewN hB0 _⟩
    by_cases c3 : 4096 < st
    · have HR := Lib.hid (chkA_many (a := ⟨al, st, ma, ed⟩) c1 c2 c3)
      rw [c1] at HA
      clear c1 HM
      have c2' : 0 ≤ st := by omega
      go_enter Tryd.func64, Tryd.ntmps64
      go_wp2_with fail
      refine HA.out.mono ?_
      rintro e w' ⟨rfl, p1, rfl⟩
      go_wp2
      go_ret
      exact ⟨ret_int HR.out.symm, below_drewN hB0 _⟩
    have c2' : 0 ≤ st := by omega
    have c3' : st ≤ 4096 := by omega
    by_cases c4 : setErr ma st = 0
    · obtain ⟨r, hr⟩ : ∃ r, edErr st al ed = r := ⟨_, rfl⟩
      have HC := Lib.hid ((chkA_ed (a := ⟨al, st, ma, ed⟩) c1 c2 c3 c4).trans hr)
      have HR := Lib.hid hr; clear hr
      rw [c1] at HA
      rw [c4] at HM
      clear c1 c2 c3 c4
      go_enter Tryd.func64, Tryd.ntmps64
      go_wp2_with fail
      refine HA.out.mono ?_
      rintro e w' ⟨rfl, p1, rfl⟩
      go_wp2_with fail
      refine (HM.out p1).mono ?_
      rintro e w' ⟨rfl, p2, rfl⟩
      clear HA HM
      go_wp2
      go_loopw [5] (fun i wr => ∃ k : Nat, k ≤ ne ∧ i = .int .i64 k ∧ Hid (r = edG st al (ed.take k).getLast? (ed.drop k)) ∧ Below (w.heap.size + 1) (w.alloc (.cells #[.slice A na ca, .int .i64 st, .slice M nm cm, .slice E ne ce] 29)) wr) (fun i _ => ne - (intOf i).toNat)
      case atStart => exact ⟨0, Nat.zero_le _, rfl, Lib.hid HR.out.symm, below_drewN (Below.refl _ _) _⟩
      case round =>
        obtain ⟨k, hk, rfl, HX, hbel⟩ := hrel
        clear HR
        have hsz : w.heap.size + 1 ≤ wr.heap.size := by have := hbel.size; simpa using this
        have hsz1 : w.heap.size ≤ wr.heap.size := by omega
        have hsz2 : w.heap.size < wr.heap.size := by omega
        have hbl := hB0.trans (hbel.mono (Nat.le_succ _))
        have c0 : wr.cell? ⟨w.heap.size, 0, none⟩ = some (.slice A na ca) := box_cells (us := [_, _, _, _]) hbel rfl
        have c1 : wr.cell? ⟨w.heap.size, 1, none⟩ = some (.int .i64 st) := box_cells (us := [_, _, _, _]) hbel rfl
        have c3 : wr.cell? ⟨w.heap.size, 3, none⟩ = some (.slice E ne ce) := box_cells (us := [_, _, _, _]) hbel rfl
        by_cases hlt : k < ne
        · skip
          obtain ⟨ad, x, rfl, hbb, hx, q0, q1, q2⟩ := ((hE.below hbl).more hsz1).at_ (k := k) (by have := HNE.out; omega)
          have b1 : ((k : Nat) : Int) < (ne : Int) := by omega
          have p1 : wr.cell? ⟨(ad.add (k * 3)).block, (ad.add (k * 3)).off + 1, none⟩ = some (.int .i64 x.e) := st_cells (j := 0) q1
          have p2 : wr.cell? ⟨(ad.add (k * 3)).block, (ad.add (k * 3)).off + 2, none⟩ = some (.int .i64 x.t) := st_cells (j := 1) q2
          clear q1 q2
          have hal : RdI (wr.alloc (.cells #[.int .i64 x.f, .int .i64 x.e, .int .i64 x.t] 43)) (wr.alloc (.cells #[.int .i64 x.f, .int .i64 x.e, .int .i64 x.t] 43)).heap.size A al := ((hA.below hbl).after (box_below wr _) hsz1).more (by simp; omega)
          have HAL := Lib.hid hal
          clear hal
          have HGX := Lib.hid hx; clear hx
          by_cases ho : edOut st x
          · have HB := Lib.hid (show r = 2 by rw [HX.out, edG_out HGX.out ho])
            have HO := Lib.hid ho; clear ho
            go_wp2_with fail
            all_goals first
              | (go_ret; exact ⟨ret_int (HC.out.trans HB.out).symm, hbl.alloc hsz1 _⟩)
              | (exfalso; have := HO.out; unfold edOut at this; omega)
          have ho' : 0 ≤ x.f ∧ x.f < st ∧ 0 ≤ x.t ∧ x.t < st := by unfold edOut at ho; omega
          obtain ⟨o1, o2, o3, o4⟩ := ho'
          have HO := Lib.hid ho; clear ho
          cases hh : hasB al x.e with
          | false =>
            have HB := Lib.hid (show r = 9 by rw [HX.out, edG_unknown HGX.out HO.out hh])
            have HH := Lib.hid hh; clear hh
            go_wp2_with fail
            refine (ref_has A ca na al x.e false _ HNA.out HH.out HAL.out hac hcA).mono ?_
            rintro e w' ⟨rfl, rfl⟩
            go_wp2
            go_ret
            exact ⟨ret_int (HC.out.trans HB.out).symm, hbl.alloc hsz1 _⟩
          | true =>
            have HH := Lib.hid hh; clear hh
            cases k with
            | zero =>
              simp only [Nat.zero_mul, add_zero'] at q0 p1 p2
              have HS := Lib.hid (show r = edG st al (ed.take 1).getLast? (ed.drop 1) by rw [HX.out, take_snoc' HGX.out, List.getLast?_concat]; exact edG_first HGX.out HO.out HH.out)
              go_wp2_with fail
              refine (ref_has A ca na al x.e true _ HNA.out HH.out HAL.out hac hcA).mono ?_
              rintro e w' ⟨rfl, rfl⟩
              go_wp2
              go_quiet (fail)
              go_wp2
              go_roundw
              case rel => exact ⟨1, by omega, by go_num, HS, below_drewN (hbel.alloc hsz _) _⟩
              case measure => simp [intOf]; omega
            | succ j =>
              obtain ⟨ad', y, e, _, hy, g0, g1, g2⟩ := ((hE.below hbl).after (box_below wr (.cells #[.int .i64 x.f, .int .i64 x.e, .int .i64 x.t] 43)) hsz1).at_ (k := j) (by have := HNE.out; omega)
              obtain rfl : ad = ad' := by injection e
              have b2 : (j : Int) < (ne : Int) := by omega
              have r1 : (wr.alloc (.cells #[.int .i64 x.f, .int .i64 x.e, .int .i64 x.t] 43)).cell? ⟨(ad.add (j * 3)).block, (ad.add (j * 3)).off + 1, none⟩ = some (.int .i64 y.e) := st_cells (j := 0) g1
              have r2 : (wr.alloc (.cells #[.int .i64 x.f, .int .i64 x.e, .int .i64 x.t] 43)).cell? ⟨(ad.add (j * 3)).block, (ad.add (j * 3)).off + 2, none⟩ = some (.int .i64 y.t) := st_cells (j := 1) g2
              clear g1 g2
              have HY := Lib.hid hy; clear hy
              by_cases hl1 : x.f < y.f
              · have HB := Lib.hid (show r = 5 by rw [HX.out, take_snoc' HY.out, List.getLast?_concat]; exact edG_order HGX.out HO.out HH.out (.inl hl1))
                go_wp2_with fail
                refine (ref_has A ca na al x.e true _ HNA.out HH.out HAL.out hac hcA).mono ?_
                rintro e w' ⟨rfl, rfl⟩
                go_wp2
                go_quiet (fail)
                go_wp2
                go_ret
                exact ⟨ret_int (HC.out.trans HB.out).symm, below_drewN (hbl.alloc hsz1 _) _⟩
              by_cases hl2 : x.f = y.f
              · have e2 : (x.f == y.f) = true := by simpa using hl2
                have e3 : decide (x.f < y.f) = false := decide_eq_false hl1
                have HL2 := Lib.hid hl2
                clear hl2
                have HL1 := Lib.hid hl1; clear hl1
                by_cases hl3 : x.e ≤ y.e
                · have HB := Lib.hid (show r = 5 by rw [HX.out, take_snoc' HY.out, List.getLast?_concat]; exact edG_order HGX.out HO.out HH.out (.inr ⟨HL2.out, hl3⟩))
                  have e4 : decide (x.e ≤ y.e) = true := decide_eq_true hl3
                  clear hl3
                  go_wp2_with fail
                  refine (ref_has A ca na al x.e true _ HNA.out HH.out HAL.out hac hcA).mono ?_
                  rintro e w' ⟨rfl, rfl⟩
                  go_wp2
                  go_quiet (fail)
                  go_wp2
                  go_ret
                  exact ⟨ret_int (HC.out.trans HB.out).symm, below_drewN (hbl.alloc hsz1 _) _⟩
                · have HS := Lib.hid (show r = edG st al (ed.take (j + 1 + 1)).getLast? (ed.drop (j + 1 + 1)) by rw [HX.out, take_snoc' HY.out, List.getLast?_concat, edG_next HGX.out HO.out HH.out (by have := HL2.out; unfold edLe; omega), take_snoc' HGX.out, List.getLast?_concat])
                  have e4 : decide (x.e ≤ y.e) = false := decide_eq_false hl3
                  clear hl3
                  go_wp2_with fail
                  refine (ref_has A ca na al x.e true _ HNA.out HH.out HAL.out hac hcA).mono ?_
                  rintro e w' ⟨rfl, rfl⟩
                  go_wp2
                  go_quiet (fail)
                  go_wp2
                  go_roundw
                  case rel => exact ⟨j + 1 + 1, by omega, by go_num, HS, below_drewN (hbel.alloc hsz _) _⟩
                  case measure => simp [intOf]; omega
              · have e2 : (x.f == y.f) = false := by simpa using hl2
                have e3 : decide (x.f < y.f) = false := decide_eq_false hl1
                have HS := Lib.hid (show r = edG st al (ed.take (j + 1 + 1)).getLast? (ed.drop (j + 1 + 1)) by rw [HX.out, take_snoc' HY.out, List.getLast?_concat, edG_next HGX.out HO.out HH.out (by unfold edLe; omega), take_snoc' HGX.out, List.getLast?_concat])
                have HL1 := Lib.hid hl1; clear hl1
                have HL2 := Lib.hid hl2; clear hl2
                go_wp2_with fail
                refine (ref_has A ca na al x.e true _ HNA.out HH.out HAL.out hac hcA).mono ?_
                rintro e w' ⟨rfl, rfl⟩
                go_wp2
                go_quiet (fail)
                go_wp2
                go_roundw
                case rel => exact ⟨j + 1 + 1, by omega, by go_num, HS, below_drewN (hbel.alloc hsz _) _⟩
                case measure => simp [intOf]; omega
        · have hf : r = 0 := by rw [HX.out, edG_end (by have := HNE.out; omega)]
          have HF := Lib.hid hf; clear hf
          go_wp2
          go_ret
          exact ⟨ret_int (HC.out.trans HF.out).symm, hbl⟩
    · have HR := Lib.hid (chkA_mk (a := ⟨al, st, ma, ed⟩) c1 c2 c3 c4)
      rw [c1] at HA
      have q1 : (setErr ma st != 0) = true := by simpa using c4
      clear c1 c2 c3 c4
      simp only at HR
      generalize setErr ma st = r at *
      go_enter Tryd.func64, Tryd.ntmps64
      go_wp2_with fail
      refine HA.out.mono ?_
      rintro e w' ⟨rfl, p1, rfl⟩
      go_wp2_with fail
      refine (HM.out p1).mono ?_
      rintro e w' ⟨rfl, p2, rfl⟩
      go_wp2
      go_ret
      exact ⟨ret_int HR.out.symm, below_drewN hB0 _⟩
  · have HR := Lib.hid (chkA_al (a := ⟨al, st, ma, ed⟩) c1)
    have q1 : (setErr al 32 != 0) = true := by simpa using c1
    clear c1 HM
    simp only at HR
    generalize setErr al 32 = r at *
    go_enter Tryd.func64, Tryd.ntmps64
    go_wp2_with fail
    refine HA.out.mono ?_
    rintro e w' ⟨rfl, p1, rfl⟩
    go_wp2
    go_ret
    exact ⟨ret_int HR.out.symm, below_drewN hB0 _⟩
end Go.Proofs.YtbdliebjalghmaaDoor
