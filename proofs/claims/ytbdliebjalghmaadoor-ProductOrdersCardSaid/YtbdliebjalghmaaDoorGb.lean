/- Walks: ref03.Found. -/
import Derived.Test.YtbdliebjalghmaaDoorGa
import Derived.Deep.RegionHeld3
namespace Go.Proofs.YtbdliebjalghmaaDoor
open Go.RowKit Go

theorem AutR.dr {w : World} {A M E : Option Addr} {na ca nm cm ne ce : Nat} {a : Aut} (h : AutR w w.heap.size A na ca M nm cm E ne ce a) : AutR w.drew w.drew.heap.size A na ca M nm cm E ne ce a := h.keep (fun _ _ => rfl)
theorem can_few {a : Aut} (h : WF a) (h0 : a.st ≠ 0) : ¬ Many 4096 (stA a) a.al 0 := by
  refine not_many ((List.range 4096).map (fun n : Nat => (n : Int))) (by simp) (fun x hx => ?_)
  obtain ⟨h1, h2⟩ := rch_rng h h0 hx
  have := h.st1
  rw [List.mem_map]
  exact ⟨x.toNat, List.mem_range.2 (by omega), by omega⟩
/-- What Found finds. -/
def FoundL (a : Aut) (l : List Int) : Prop := (a.st = 0 ∧ l = []) ∨ (a.st ≠ 0 ∧ ∃ s, canS a = some s ∧ BInv 4096 (stA a) a.al 0 s.ts.length s ∧ l = s.ts)
def RetF (a : Aut) (w : World) (e : Ending) (w' : World) : Prop := ∃ A c n l, e = .returned (.slice A n c) ∧ l.length = n ∧ n ≤ 4096 ∧ w'.ownsRow w.heap.size 3 1 (.slice A n c) n (iv l) ∧ FoundL a l ∧ Below w.heap.size w w'


set_option maxRecDepth 100000 in
set_option maxHeartbeats 3200000 in
theorem ref_Found (A : Option Addr) (na ca : Nat) (M : Option Addr) (nm cm : Nat) (E : Option Addr) (ne ce : Nat) (a : Aut) (w : World) (h : AutR w w.heap.size A na ca M nm cm E ne ce a) (hw : WF a) :
    Calls Tryd.prog 85 #[.agg #[.slice A na ca, .int .i64 a.st, .slice M nm cm, .slice E ne ce]] w (RetF a w) := by
  have hB0 := box_below w (.cells #[.slice A na ca, .int .i64 a.st, .slice M nm cm, .slice E ne ce] 29)
  by_cases h0 : a.st = 0
  · have g0 : decide (0 < a.st) = false := decide_eq_false (by omega)
    have H0 := Lib.hid h0; clear h0
    go_enter Tryd.func85, Tryd.ntmps85
    go_wp2
    go_loopw [3, 4] (fun s3 s4 wr => s3 = .slice none 0 0 ∧ s4 = .int .i64 0 ∧ wr = w.alloc (.cells #[.slice A na ca, .int .i64 a.st, .slice M nm cm, .slice E ne ce] 29)) (fun _ _ _ => 0)
    case atStart => exact ⟨rfl, rfl, rfl⟩
    case round =>
      obtain ⟨rfl, rfl, rfl⟩ := hrel
      go_wp2
      go_ret
      exact ⟨none, 0, 0, [], rfl, rfl, by omega, World.ownsRow_nil _ _ _ _, .inl ⟨H0.out, rfl⟩, hB0⟩
  have hst := hw.st0
  have g0 : 0 < a.st := by omega
  have hnm := can_few hw h0
  have H0 := Lib.hid h0; clear h0
  have HNM := Lib.hid hnm; clear hnm
  have hla := h.la
  have hac := h.ac
  have hcA := h.cA
  have hal := hw.al_le
  rw [hla] at hal
  have HLA := Lib.hid hla; clear hla
  have HH := Lib.hid h
  clear h
  have HW := Lib.hid hw; clear hw
  have HBI := Lib.hid (BInv.begin (C := 4096) (st := stA a) (V := a.al) (x0 := (0 : Int)) (by omega))
  have HRS := Lib.hid (show bsR 4096 (stA a) a.al (4097 - 0) 0 ⟨[0], []⟩ = canS a from rfl)
  go_enter Tryd.func85, Tryd.ntmps85
  go_wp2_with (at_builtin; refine wpList_push _ (.int .i64 0) rfl (.tmp 10) (.tmp 11) 26 rfl (w.heap.size + 1) 3 (.int .i64 0) 8 Tryd.underlying26 int_info rfl (.slice none 0 0) 0 [] rfl (World.ownsRow_nil _ _ _ _) (by rw [World.size_alloc]; rfl) rfl (by omega) (by omega) (by simp) ?_; intro v' w' ho' hg' hb1)
  have HO1 : Hid (w'.ownsRow (w.heap.size + 1) 3 1 v' 1 (iv [0])) := Lib.hid ho'
  clear ho' hg'
  go_loopw [3, 4] (fun s3 s4 wr => ∃ (i nt : Nat) (tv : Value) (s : Bs Int), s4 = .int .i64 i ∧ s3 = tv ∧ i ≤ nt ∧ nt ≤ 4096 ∧ Hid (s.ts.length = nt) ∧ Hid (wr.ownsRow (w.heap.size + 1) 3 1 tv nt (iv s.ts)) ∧ Hid (BInv 4096 (stA a) a.al 0 i s) ∧ Hid (bsR 4096 (stA a) a.al (4097 - i) i s = canS a) ∧
    Below (w.heap.size + 1) (w.alloc (.cells #[.slice A na ca, .int .i64 a.st, .slice M nm cm, .slice E ne ce] 29)) wr) (fun _ s4 _ => 4097 - (intOf s4).toNat)
  case atStart => exact ⟨0, 1, _, ⟨[0], []⟩, rfl, rfl, by omega, by omega, Lib.hid rfl, HO1, HBI, HRS, hb1⟩
  case round =>
    clear HO1 HBI HRS hb1
    obtain ⟨i, nt, tv, s, rfl, rfl, hin, hnt, HTN, HO, HBI, HRS, hbel⟩ := hrel
    obtain ⟨wo, rfl⟩ : ∃ wo : World, wo = wr := ⟨_, rfl⟩
    obtain ⟨TA, tc, rfl⟩ := own_shape HO.out
    by_cases hlt : i < nt
    · have hxt : s.ts[i]? = some (s.ts[i]'(by have := HTN.out; omega)) := List.getElem?_eq_getElem _
      generalize s.ts[i]'(by have := HTN.out; omega) = t at hxt
      have hkr := HNM.out
      have HXT := Lib.hid hxt; clear hxt
      have HRS2 := Lib.hid (show bsC 4096 (stA a) a.al (4096 - i) i (bsF 4096 (stA a) i t (a.al.drop 0) s) = canS a by
        have := HRS.out
        rw [show 4097 - i = 4096 - i + 1 by omega] at this
        rw [← this, bsR_bsC HXT.out])
      have HFI := Lib.hid (show FInv 4096 (stA a) a.al 0 i t (a.al.take 0) s from HBI.out.enter HXT.out)
      have b1 : (i : Int) < (nt : Int) := by omega
      clear hkr
      go_wp2
      go_loopw [3, 5] (fun s3 s5 wr => ∃ (j nu : Nat) (tv : Value) (z : Bs Int), s5 = .int .i64 j ∧ s3 = tv ∧ j ≤ na ∧ i < nu ∧ nu ≤ 4096 ∧ Hid (z.ts.length = nu) ∧ Hid (wr.ownsRow (w.heap.size + 1) 3 1 tv nu (iv z.ts)) ∧ Hid (FInv 4096 (stA a) a.al 0 i t (a.al.take j) z) ∧ Hid (bsC 4096 (stA a) a.al (4096 - i) i (bsF 4096 (stA a) i t (a.al.drop j) z) = canS a) ∧
        Below (w.heap.size + 1) (w.alloc (.cells #[.slice A na ca, .int .i64 a.st, .slice M nm cm, .slice E ne ce] 29)) wr) (fun _ s5 _ => na - (intOf s5).toNat)
      case atStart => exact ⟨0, nt, _, s, rfl, rfl, Nat.zero_le _, hlt, hnt, HTN, HO, HFI, HRS2, hbel⟩
      case round =>
        clear HTN HO HFI HRS2 hbel HBI HRS
        obtain ⟨j, nu, tv, z, rfl, rfl, hj, hinu, hnu, HZN, HO, HFI, HRZ, hbel⟩ := hrel
        obtain ⟨TB, tb, rfl⟩ := own_shape HO.out
        have c0 : wr.cell? ⟨w.heap.size, 0, none⟩ = some (.slice A na ca) := box_cells (us := [_, _, _, _]) hbel rfl
        have c1 : wr.cell? ⟨w.heap.size, 1, none⟩ = some (.int .i64 a.st) := box_cells (us := [_, _, _, _]) hbel rfl
        have c2 : wr.cell? ⟨w.heap.size, 2, none⟩ = some (.slice M nm cm) := box_cells (us := [_, _, _, _]) hbel rfl
        have c3 : wr.cell? ⟨w.heap.size, 3, none⟩ = some (.slice E ne ce) := box_cells (us := [_, _, _, _]) hbel rfl
        have hsz : w.heap.size + 1 ≤ wr.heap.size := by have := hbel.size; simpa using this
        have hsz1 : w.heap.size ≤ wr.heap.size := by omega
        have hsz2 : w.heap.size < wr.heap.size := by omega
        have hbl := hB0.trans (hbel.mono (Nat.le_succ _))
        have b2 : (i : Int) < (nu : Int) := by omega
        obtain ⟨tcap1, tcap2⟩ := own_cap' HO.out
        by_cases hjl : j < na
        · have hR := ((HH.out.below hbl).more hsz1)
          obtain ⟨ad, v, hA, hvb, hve, hvc⟩ := hR.ra.at_ (k := j) (by have := HLA.out; omega)
          subst hA
          have b3 : (j : Int) < (na : Int) := by omega
          obtain ⟨td, t', e9, htd, ht', htc⟩ := (RdI.of_own HO.out).at_ (k := i) (by have := HZN.out; omega)
          subst e9
          have htt : t' = t := by have := HFI.out.at_; rw [ht'] at this; injection this
          subst htt
          have hvm := List.mem_of_getElem? hve
          obtain ⟨r, hr⟩ : ∃ r, nxt a t' v = r := ⟨_, rfl⟩
          have HSTEP := Lib.hid (fun (W : World) (hW : AutR W W.heap.size (some ad) na ca M nm cm E ne ce a) => ref_Step3 (some ad) na ca M nm cm E ne ce a t' v W hW)
          rw [hr] at HSTEP
          have HR := Lib.hid hR
          have HVE := Lib.hid hve; clear hve
          have HVM := Lib.hid hvm; clear hvm
          have HRR := Lib.hid hr; clear hr
          clear hR ht'
          go_wp2
          go_region_held3 (fun w' => w'.cell? ⟨w.heap.size, 0, none⟩ = some (.slice (some ad) na ca) ∧ w'.cell? ⟨w.heap.size, 1, none⟩ = some (.int .i64 a.st) ∧ w'.cell? ⟨w.heap.size, 2, none⟩ = some (.slice M nm cm) ∧ w'.cell? ⟨w.heap.size, 3, none⟩ = some (.slice E ne ce) ∧ w'.cell? (td.add i) = some (.int .i64 t') ∧ w'.cell? (ad.add j) = some (.int .i64 v)) (first | exact ⟨c0, c1, c2, c3, htc, hvc⟩ | exact ⟨y0, y1, y2, y3, y4, y5⟩ | go_keep)
            (first | (go_at_call 86; (with_reducible refine (HSTEP.out _ ?_).mono ?_); exact HR.out.dr; rintro e wA ⟨rfl, hbA⟩; replace hbA : Below wr.heap.size wr wA := ⟨hbA.os, hbA.tape, hbA.output, hbA.size, hbA.block⟩; have y0 := (hbA.cell (p := ⟨w.heap.size, 0, none⟩) hsz2).trans c0; have y1 := (hbA.cell (p := ⟨w.heap.size, 1, none⟩) hsz2).trans c1; have y2 := (hbA.cell (p := ⟨w.heap.size, 2, none⟩) hsz2).trans c2; have y3 := (hbA.cell (p := ⟨w.heap.size, 3, none⟩) hsz2).trans c3; have y4 := (hbA.cell (p := td.add i) (by rw [block_of_add]; exact htd)).trans htc; have y5 := (hbA.cell (p := ad.add j) (by rw [block_of_add]; exact hvb)).trans hvc) | fail)
          have hbA2 : Below wr.heap.size wr wA := hbA
          have HOA := Lib.hid (own_below HO.out hbA2)
          have hbelA := hbel.trans (hbA2.mono hsz)
          have hszA : w.heap.size + 1 ≤ wA.heap.size := by have := hbA2.size; omega
          clear y0 y1 y2 y3 y4 y5 c0 c1 c2 c3 htc hvc HSTEP HR HO hbA hbA2 hbl hbel hsz hsz1 hsz2
          try clear hs
          by_cases hr0 : r < 0
          · have hsn : stA a t' v = none := by unfold stA; rw [HRR.out, if_pos hr0]
            have e1 : decide (0 ≤ r) = false := decide_eq_false (by omega)
            have HSN := Lib.hid hsn; clear hsn
            have HF2 : Hid (FInv 4096 (stA a) a.al 0 i t' (a.al.take (j + 1)) z) := by
              rcases HFI.out.step HVM.out with ⟨s1, q1, q2, q3⟩ | ⟨q1, _⟩
              · rw [bsE_none HSN.out] at q1
                injection q1 with q1; subst q1
                rw [take_snoc' HVE.out]; exact Lib.hid q2
              · rw [bsE_none HSN.out] at q1; cases q1
            have HRZ2 := Lib.hid (HRZ.out.symm.trans (by rw [bsF_go HVE.out (bsE_none HSN.out)]) : canS a = bsC 4096 (stA a) a.al (4096 - i) i (bsF 4096 (stA a) i t' (a.al.drop (j + 1)) z))
            clear hr0
            go_wp2
            go_roundw
            case rel => exact ⟨j + 1, nu, _, z, by go_num, rfl, by omega, hinu, hnu, HZN, HOA, HF2, Lib.hid HRZ2.out.symm, hbelA⟩
            case measure => simp [intOf]; omega
          · have hsn : stA a t' v = some r := by unfold stA; rw [HRR.out, if_neg hr0]
            have e1 : 0 ≤ r := by omega
            have HSN := Lib.hid hsn; clear hsn
            clear hr0
            cases hh : hasB z.ts r with
            | true =>
              obtain ⟨y, hy1, hy2⟩ := idx_yes (hasB_mem.1 hh)
              have hbe : bsE 4096 (stA a) i t' z v = some ⟨z.ts, z.es ++ [⟨i, v, y⟩]⟩ := by rw [bsE_old HSN.out (by rw [hy1]; omega), hy1]
              have HBE := Lib.hid hbe; clear hbe
              have HHH := Lib.hid hh; clear hh
              clear hy1 hy2
              have HF2 : Hid (FInv 4096 (stA a) a.al 0 i t' (a.al.take (j + 1)) ⟨z.ts, z.es ++ [⟨i, v, y⟩]⟩) := by
                rcases HFI.out.step HVM.out with ⟨s1, q1, q2, q3⟩ | ⟨q1, _⟩
                · rw [HBE.out] at q1
                  injection q1 with q1; subst q1
                  rw [take_snoc' HVE.out]; exact Lib.hid q2
                · rw [HBE.out] at q1; cases q1
              have HRZ2 := Lib.hid (HRZ.out.symm.trans (by rw [bsF_go HVE.out HBE.out]) : canS a = bsC 4096 (stA a) a.al (4096 - i) i (bsF 4096 (stA a) i t' (a.al.drop (j + 1)) ⟨z.ts, z.es ++ [⟨i, v, y⟩]⟩))
              go_wp2_with fail
              refine (ref_has (some td) tb nu z.ts r true _ HZN.out HHH.out (RdI.of_own HOA.out) tcap1 tcap2).mono ?_
              rintro e wB ⟨rfl, rfl⟩
              go_wp2
              go_roundw
              case rel => exact ⟨j + 1, nu, _, ⟨z.ts, z.es ++ [⟨i, v, y⟩]⟩, by go_num, rfl, by omega, hinu, hnu, HZN, HOA, HF2, Lib.hid HRZ2.out.symm, hbelA⟩
              case measure => simp [intOf]; omega
            | false =>
              have hnm : r ∉ z.ts := fun hm => by rw [hasB_mem.2 hm] at hh; cases hh
              have hfull : z.ts.length ≠ 4096 := fun hf => by
                have hbe := bsE_full (C := 4096) (i := i) HSN.out (idx_neg.2 hnm) hf
                rcases HFI.out.step HVM.out with ⟨s1, q1, q2, q3⟩ | ⟨q1, q2⟩
                · rw [hbe] at q1; cases q1
                · exact HNM.out q2
              have hbe : bsE 4096 (stA a) i t' z v = some ⟨z.ts ++ [r], z.es ++ [⟨i, v, (nu : Int)⟩]⟩ := by rw [bsE_new HSN.out (idx_neg.2 hnm) hfull, HZN.out]
              have hnu2 : nu + 1 ≤ 4096 := by have := HZN.out; omega
              have HBE := Lib.hid hbe; clear hbe
              have HHH := Lib.hid hh; clear hh
              clear hnm hfull
              have HF2 : Hid (FInv 4096 (stA a) a.al 0 i t' (a.al.take (j + 1)) ⟨z.ts ++ [r], z.es ++ [⟨i, v, (nu : Int)⟩]⟩) := by
                rcases HFI.out.step HVM.out with ⟨s1, q1, q2, q3⟩ | ⟨q1, _⟩
                · rw [HBE.out] at q1
                  injection q1 with q1; subst q1
                  rw [take_snoc' HVE.out]; exact Lib.hid q2
                · rw [HBE.out] at q1; cases q1
              have HRZ2 := Lib.hid (HRZ.out.symm.trans (by rw [bsF_go HVE.out HBE.out]) : canS a = bsC 4096 (stA a) a.al (4096 - i) i (bsF 4096 (stA a) i t' (a.al.drop (j + 1)) ⟨z.ts ++ [r], z.es ++ [⟨i, v, (nu : Int)⟩]⟩))
              go_wp2_with fail
              refine (ref_has (some td) tb nu z.ts r false _ HZN.out HHH.out (RdI.of_own HOA.out) tcap1 tcap2).mono ?_
              rintro e wB ⟨rfl, rfl⟩
              go_wp2_with (at_builtin; refine wpList_push wA (.int .i64 r) rfl (.tmp 45) (.tmp 47) 26 rfl (w.heap.size + 1) 3 (.int .i64 0) 8 Tryd.underlying26 int_info rfl (.slice (some td) nu tb) nu (iv z.ts) rfl HOA.out rfl rfl (by omega) (by omega) hszA ?_; intro v' w' ho' hg' hb1')
              go_roundw
              case rel => exact ⟨j + 1, nu + 1, _, _, by go_num, rfl, by omega, by omega, hnu2, Lib.hid (by rw [List.length_append, HZN.out]; rfl), Lib.hid (by rw [iv_append]; exact ho'), HF2, Lib.hid HRZ2.out.symm, hbelA.trans hb1'⟩
              case measure => simp [intOf]; omega
        · obtain rfl : j = na := by omega
          have hFI := HFI.out
          rw [List.take_of_length_le (by rw [HLA.out]; exact Nat.le_refl _)] at hFI
          have HB2 := Lib.hid hFI.leave
          have hRZ := HRZ.out
          rw [List.drop_of_length_le (by rw [HLA.out]; exact Nat.le_refl _)] at hRZ
          have HRS3 := Lib.hid (show bsR 4096 (stA a) a.al (4097 - (i + 1)) (i + 1) z = canS a by rw [show 4097 - (i + 1) = 4096 - i by omega]; exact hRZ)
          clear hFI hRZ
          go_wp2
          go_roundw
          case rel => exact ⟨i + 1, nu, _, z, by go_num, rfl, by omega, hnu, HZN, HO, HB2, HRS3, hbel⟩
          case measure => simp [intOf]; omega
    · obtain rfl : i = nt := by omega
      have hRS := HRS.out
      rw [bsR_end (by have := HTN.out; omega)] at hRS
      have HFL := Lib.hid (show FoundL a s.ts from .inr ⟨H0.out, s, hRS.symm, by rw [HTN.out]; exact HBI.out, rfl⟩)
      clear hRS
      go_wp2
      go_ret
      exact ⟨TA, tc, i, s.ts, rfl, HTN.out, hnt, own_base HO.out (Nat.le_succ _), HFL.out, hB0.trans (hbel.mono (Nat.le_succ _))⟩
end Go.Proofs.YtbdliebjalghmaaDoor
