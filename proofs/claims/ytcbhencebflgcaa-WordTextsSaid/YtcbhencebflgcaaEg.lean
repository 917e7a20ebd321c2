/- Walks: alphabet.Check. -/
import Derived.Test.YtcbhencebflgcaaEc
import Derived.Test.YtcbhencebflgcaaEb
namespace Go.Proofs.Ytcbhencebflgcaa
open Go.RowKit Go

theorem isName_q (s : ByteArray) (q : Bool) (hq : nameB s = q) (w : World) (hs : s.size ≤ 9223372036854775807) :
    Calls Try.prog 74 #[.string s] w fun e w' => e = .returned (.bool q) ∧ w = w' := by subst hq; exact alphabet_IsName s w hs
theorem ev7 {pre : List ByteArray} {e : Ev} (h : nameB e.nm = false) : evErr pre e = 7 := by simp [evErr, h]
theorem ev8 {pre : List ByteArray} {e : Ev} (h : nameB e.nm = true) (h2 : inB pre e.nm = true) : evErr pre e = 8 := by simp [evErr, h, h2]
theorem ev2 {pre : List ByteArray} {e : Ev} (h : nameB e.nm = true) (h2 : inB pre e.nm = false) (h3 : e.fault < 0 ∨ 4 < e.fault) : evErr pre e = 2 := by simp [evErr, h, h2, h3]
theorem ev13 {pre : List ByteArray} {e : Ev} (h : nameB e.nm = true) (h2 : inB pre e.nm = false) (h3 : ¬ (e.fault < 0 ∨ 4 < e.fault)) (h4 : e.fault ≠ 0) (h5 : e.c = true ∨ e.o = true) : evErr pre e = 13 := by simp [evErr, h, h2, h3, h4, h5]
theorem ev0 {pre : List ByteArray} {e : Ev} (h : nameB e.nm = true) (h2 : inB pre e.nm = false) (h3 : ¬ (e.fault < 0 ∨ 4 < e.fault)) (h4 : ¬ (e.fault ≠ 0 ∧ (e.c = true ∨ e.o = true))) : evErr pre e = 0 := by simp only [evErr, h, h2, if_neg h3, if_neg h4]; simp
theorem chk_stop {l : List Ev} {k : Nat} {e : Ev} {pre : List ByteArray} {r : Int} (hx : chkE l = chkG pre (l.drop k)) (he : l[k]? = some e) (hr : evErr pre e = r) (h0 : r ≠ 0) : chkE l = r := by
  rw [hx, chkG_stop he (by rw [hr]; exact h0), hr]
theorem chk_go {l : List Ev} {k : Nat} {e : Ev} (hx : chkE l = chkG ((l.take k).map Ev.nm) (l.drop k)) (he : l[k]? = some e) (hr : evErr ((l.take k).map Ev.nm) e = 0) : chkE l = chkG ((l.take (k + 1)).map Ev.nm) (l.drop (k + 1)) := by
  rw [hx, chkG_go he hr, names_snoc he]

theorem ev_cells {w : World} {ad : Addr} {m : Nat} {u : Value} {j : Nat} (h : w.cell? (ad.add (m + (j + 1))) = some u) : w.cell? ⟨(ad.add m).block, (ad.add m).off + (j + 1), none⟩ = some u := by
  rw [← add_of_add] at h
  exact cell_succ h


set_option maxRecDepth 100000 in
set_option maxHeartbeats 3200000 in
theorem alphabet_Check (A : Option Addr) (c n : Nat) (l : List Ev) (w : World) (hl : l.length = n) (h : RdE w w.heap.size A l) :
    Calls Try.prog 62 #[.slice A n c] w fun e w' => e = .returned (.int .i64 (chkE l)) ∧ Below w.heap.size w w' := by
  by_cases h32 : 32 < n
  · have hr : chkE l = 3 := by unfold chkE; rw [if_pos (by omega)]
    rw [hr]
    clear hr hl
    go_enter Try.func62, Try.ntmps62
    go_wp2
    go_ret
    exact ⟨rfl, Below.refl _ _⟩
  · have hg : chkE l = chkG ((l.take 0).map Ev.nm) (l.drop 0) := by unfold chkE; rw [if_neg (by omega)]; rfl
    have HL := Lib.hid hl; clear hl
    have HG := Lib.hid hg; clear hg
    have hmm := @run_makeMap Try.prog
    have hn0 := NamesIn.made w
    have HN0 := Lib.hid hn0
    clear hn0
    go_enter Try.func62, Try.ntmps62
    go_wp2
    go_loopw [12] (fun i wr => ∃ k : Nat, k ≤ n ∧ i = .int .i64 k ∧ Hid (chkE l = chkG ((l.take k).map Ev.nm) (l.drop k)) ∧ Hid (NamesIn wr w.heap.size k ((l.take k).map Ev.nm)) ∧ Below w.heap.size w wr) (fun i _ => n - (intOf i).toNat)
    case atStart => exact ⟨0, Nat.zero_le _, rfl, HG, HN0, (Below.refl _ _).alloc (Nat.le_refl _) _⟩
    case round =>
      obtain ⟨k, hk, rfl, HX, HNM, hbel⟩ := hrel
      clear HG HN0
      have hsz := hbel.size
      by_cases hlt : k < n
      · obtain ⟨ad, e, rfl, hb, he, hs, q0, q1, q2, q3, q4⟩ := (h.below hbel).at_ (k := k) (by have := HL.out; omega)
        have HE := Lib.hid he; clear he
        have b1 : (k : Int) < (n : Int) := by omega
        have p1 : wr.cell? ⟨(ad.add (k * 5)).block, (ad.add (k * 5)).off + 1, none⟩ = some (.bool e.c) := ev_cells (j := 0) q1
        have p2 : wr.cell? ⟨(ad.add (k * 5)).block, (ad.add (k * 5)).off + 2, none⟩ = some (.bool e.o) := ev_cells (j := 1) q2
        have p3 : wr.cell? ⟨(ad.add (k * 5)).block, (ad.add (k * 5)).off + 3, none⟩ = some (.bool e.f) := ev_cells (j := 2) q3
        have p4 : wr.cell? ⟨(ad.add (k * 5)).block, (ad.add (k * 5)).off + 4, none⟩ = some (.int .i64 e.fault) := ev_cells (j := 3) q4
        clear q1 q2 q3 q4
        cases hnm : nameB e.nm with
        | false =>
          have HR := Lib.hid (chk_stop HX.out HE.out (ev7 hnm) (by decide))
          have HN := Lib.hid hnm; clear hnm
          go_wp2_with fail
          refine (isName_q e.nm false HN.out _ hs).mono ?_
          rintro e' w' ⟨rfl, rfl⟩
          go_wp2
          go_ret
          exact ⟨ret_int HR.out.symm, Below.alloc hbel hbel.size _⟩
        | true =>
          cases hin : inB ((l.take k).map Ev.nm) e.nm with
          | true =>
            have HR := Lib.hid (chk_stop HX.out HE.out (ev8 hnm hin) (by decide))
            have HN := Lib.hid hnm; clear hnm
            have HI := Lib.hid hin; clear hin
            go_wp2_with fail
            refine (isName_q e.nm true HN.out _ hs).mono ?_
            rintro e' w' ⟨rfl, rfl⟩
            go_wp2_with (at_lookup; refine wpList_lookup_names rfl _ _ rfl rfl (HNM.out.alloc _) e.nm rfl hs true HI.out ?_)
            go_ret
            exact ⟨ret_int HR.out.symm, Below.alloc hbel hbel.size _⟩
          | false =>
            by_cases f1 : e.fault < 0
            · have HR := Lib.hid (chk_stop HX.out HE.out (ev2 hnm hin (.inl f1)) (by decide))
              have HN := Lib.hid hnm; clear hnm
              have HI := Lib.hid hin; clear hin
              go_wp2_with fail
              refine (isName_q e.nm true HN.out _ hs).mono ?_
              rintro e' w' ⟨rfl, rfl⟩
              go_wp2_with (at_lookup; refine wpList_lookup_names rfl _ _ rfl rfl (HNM.out.alloc _) e.nm rfl hs false HI.out ?_)
              go_ret
              exact ⟨ret_int HR.out.symm, Below.alloc hbel hbel.size _⟩
            · by_cases f2 : 4 < e.fault
              · have HR := Lib.hid (chk_stop HX.out HE.out (ev2 hnm hin (.inr f2)) (by decide))
                have HN := Lib.hid hnm; clear hnm
                have HI := Lib.hid hin; clear hin
                go_wp2_with fail
                refine (isName_q e.nm true HN.out _ hs).mono ?_
                rintro e' w' ⟨rfl, rfl⟩
                go_wp2_with (at_lookup; refine wpList_lookup_names rfl _ _ rfl rfl (HNM.out.alloc _) e.nm rfl hs false HI.out ?_)
                go_ret
                exact ⟨ret_int HR.out.symm, Below.alloc hbel hbel.size _⟩
              · have f12 : ¬ (e.fault < 0 ∨ 4 < e.fault) := by omega
                have d1 : decide (e.fault < 0) = false := decide_eq_false f1
                have d2 : decide (4 < e.fault) = false := decide_eq_false f2
                by_cases f3 : e.fault = 0
                · have HR := Lib.hid (ev0 hnm hin f12 (fun h => h.1 f3))
                  have d3 : (e.fault != 0) = false := by simp [f3]
                  have F3 := Lib.hid f3; clear f3
                  have F12 := Lib.hid f12; clear f12
                  have HN := Lib.hid hnm; clear hnm
                  have HI := Lib.hid hin; clear hin
                  go_wp2_with fail
                  refine (isName_q e.nm true HN.out _ hs).mono ?_
                  rintro e' w' ⟨rfl, rfl⟩
                  go_wp2_with (first | (at_lookup; refine wpList_lookup_names rfl _ _ rfl rfl (HNM.out.alloc _) e.nm rfl hs false HI.out ?_) | (at_mapUpdate; refine wpList_add_name rfl _ _ _ rfl rfl (HNM.out.alloc _) (by omega) e.nm rfl hs rfl ?_; intro w2 hnm2 hg2))
                  go_roundw
                  case rel => exact ⟨k + 1, by omega, by go_num, Lib.hid (chk_go HX.out HE.out HR.out), Lib.hid (by rw [names_snoc HE.out]; exact hnm2), (Below.alloc hbel hbel.size _).grown hg2 (alloc_le _ hbel.size) (fun j hj => by cases hj; exact Nat.le_refl _)⟩
                  case measure => simp [intOf]; omega
                · have d3 : (e.fault != 0) = true := by simpa using f3
                  cases hc : e.c with
                  | true =>
                    have HR := Lib.hid (chk_stop HX.out HE.out (ev13 hnm hin f12 f3 (.inl hc)) (by decide))
                    rw [hc] at p1
                    have HC := Lib.hid hc; clear hc
                    have F12 := Lib.hid f12; clear f12
                    have HN := Lib.hid hnm; clear hnm
                    have HI := Lib.hid hin; clear hin
                    go_wp2_with fail
                    refine (isName_q e.nm true HN.out _ hs).mono ?_
                    rintro e' w' ⟨rfl, rfl⟩
                    go_wp2_with (at_lookup; refine wpList_lookup_names rfl _ _ rfl rfl (HNM.out.alloc _) e.nm rfl hs false HI.out ?_)
                    go_ret
                    exact ⟨ret_int HR.out.symm, Below.alloc hbel hbel.size _⟩
                  | false =>
                    cases ho : e.o with
                    | true =>
                      have HR := Lib.hid (chk_stop HX.out HE.out (ev13 hnm hin f12 f3 (.inr ho)) (by decide))
                      rw [hc] at p1
                      rw [ho] at p2
                      have HC := Lib.hid hc; clear hc
                      have HO := Lib.hid ho; clear ho
                      have F12 := Lib.hid f12; clear f12
                      have HN := Lib.hid hnm; clear hnm
                      have HI := Lib.hid hin; clear hin
                      go_wp2_with fail
                      refine (isName_q e.nm true HN.out _ hs).mono ?_
                      rintro e' w' ⟨rfl, rfl⟩
                      go_wp2_with (at_lookup; refine wpList_lookup_names rfl _ _ rfl rfl (HNM.out.alloc _) e.nm rfl hs false HI.out ?_)
                      go_ret
                      exact ⟨ret_int HR.out.symm, Below.alloc hbel hbel.size _⟩
                    | false =>
                      have HR := Lib.hid (ev0 hnm hin f12 (fun h => by rw [hc, ho] at h; simp at h))
                      rw [hc] at p1
                      rw [ho] at p2
                      have HC := Lib.hid hc; clear hc
                      have HO := Lib.hid ho; clear ho
                      have F12 := Lib.hid f12; clear f12
                      have HN := Lib.hid hnm; clear hnm
                      have HI := Lib.hid hin; clear hin
                      go_wp2_with fail
                      refine (isName_q e.nm true HN.out _ hs).mono ?_
                      rintro e' w' ⟨rfl, rfl⟩
                      go_wp2_with (first | (at_lookup; refine wpList_lookup_names rfl _ _ rfl rfl (HNM.out.alloc _) e.nm rfl hs false HI.out ?_) | (at_mapUpdate; refine wpList_add_name rfl _ _ _ rfl rfl (HNM.out.alloc _) (by omega) e.nm rfl hs rfl ?_; intro w2 hnm2 hg2))
                      go_roundw
                      case rel => exact ⟨k + 1, by omega, by go_num, Lib.hid (chk_go HX.out HE.out HR.out), Lib.hid (by rw [names_snoc HE.out]; exact hnm2), (Below.alloc hbel hbel.size _).grown hg2 (alloc_le _ hbel.size) (fun j hj => by cases hj; exact Nat.le_refl _)⟩
                      case measure => simp [intOf]; omega
      · have hfin : chkE l = 0 := by rw [HX.out, chkG_end (by have := HL.out; omega)]
        have HF := Lib.hid hfin; clear hfin
        go_wp2
        go_ret
        exact ⟨ret_int HF.out.symm, hbel⟩
end Go.Proofs.Ytcbhencebflgcaa
