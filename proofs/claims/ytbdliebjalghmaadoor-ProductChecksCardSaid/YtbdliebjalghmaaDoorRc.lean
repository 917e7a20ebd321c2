/- Walks: ref06.Check, the law's few. -/
import Derived.Test.YtbdliebjalghmaaDoorRb
namespace Go.Proofs.YtbdliebjalghmaaDoor
open Go.RowKit Go


set_option maxRecDepth 100000 in
set_option maxHeartbeats 3200000 in
theorem ref_Check6 (A : Option Addr) (c n : Nat) (xs : List AV) (w : World) (hl : xs.length = n) (h : RdL w w.heap.size A xs) (hc1 : n ≤ c) (hc2 : c ≤ 9223372036854775807) :
    Calls Tryd.prog 37 #[.slice A n c] w fun e w' => e = .returned (.int .i64 (chkL (xs.map AV.a))) ∧ Below w.heap.size w w' := by
  obtain ⟨r, hr⟩ : ∃ r, chkL (xs.map AV.a) = r := ⟨_, rfl⟩
  rw [hr]
  by_cases h12 : 12 < n
  · have hr2 : r = 3 := by rw [← hr]; unfold chkL; rw [if_pos (by rw [List.length_map]; omega)]
    subst hr2
    clear hr hl
    have h13 : (12 : Int) < (n : Int) := by omega
    go_enter Tryd.func37, Tryd.ntmps37
    go_wp2
    go_ret
    exact ⟨rfl, Below.refl _ _⟩
  have h13 : decide ((12 : Int) < (n : Int)) = false := decide_eq_false (by omega)
  have h14 : decide (12 < n) = false := decide_eq_false h12
  have hr0 : r = chkLG ((xs.map AV.a).drop 0) := by rw [← hr]; unfold chkL; rw [if_neg (by rw [List.length_map]; omega)]; rfl
  have HR := Lib.hid hr0; clear hr0
  have HL := Lib.hid hl; clear hl
  clear hr h12
  go_enter Tryd.func37, Tryd.ntmps37
  go_wp2
  go_loopw [3] (fun i wr => ∃ k : Nat, k ≤ n ∧ i = .int .i64 k ∧ Hid (r = chkLG ((xs.map AV.a).drop k)) ∧ Below w.heap.size w wr) (fun i _ => n - (intOf i).toNat)
  case atStart => exact ⟨0, Nat.zero_le _, rfl, HR, Below.refl _ _⟩
  case round =>
    obtain ⟨k, hk, rfl, HX, hbel⟩ := hrel
    clear HR
    have hsz := hbel.size
    by_cases hlt : k < n
    · skip
      obtain ⟨ad, A', na, ca, M, nm, cm, E, ne, ce, a, rfl, hbb, hx, q0, q1, q2, q3, haR⟩ := ((h.below hbel).more hsz).at_ (k := k) (by have := HL.out; omega)
      have b1 : (k : Int) < (n : Int) := by omega
      have p1 : wr.cell? ⟨(ad.add (k * 4)).block, (ad.add (k * 4)).off + 1, none⟩ = some (.int .i64 a.st) := st_cells (j := 0) q1
      have p2 : wr.cell? ⟨(ad.add (k * 4)).block, (ad.add (k * 4)).off + 2, none⟩ = some (.slice M nm cm) := st_cells (j := 1) q2
      have p3 : wr.cell? ⟨(ad.add (k * 4)).block, (ad.add (k * 4)).off + 3, none⟩ = some (.slice E ne ce) := st_cells (j := 2) q3
      clear q1 q2 q3
      have hxa : (xs.map AV.a)[k]? = some a := by simp [hx]
      have HU := Lib.hid (ref_Check3 A' na ca M nm cm E ne ce a _ haR)
      clear haR
      have HB := Lib.hid hbel; clear hbel
      by_cases hz : chkA a = 0
      · have HS := Lib.hid (show r = chkLG ((xs.map AV.a).drop (k + 1)) by rw [HX.out, chkLG_go hxa hz])
        rw [hz] at HU
        have HXA := Lib.hid hxa; clear hxa
        have HXX := Lib.hid hx; clear hx
        have HZ := Lib.hid hz; clear hz
        go_wp2_with fail
        refine HU.out.mono ?_
        rintro e w' ⟨rfl, hb'⟩
        go_wp2
        go_roundw
        case rel => exact ⟨k + 1, by omega, by go_num, HS, HB.out.trans (hb'.mono HB.out.size)⟩
        case measure => simp [intOf]; omega
      · have HS := Lib.hid (show r = chkA a by rw [HX.out, chkLG_stop hxa hz])
        have q1 : (chkA a != 0) = true := by simpa using hz
        have HXA := Lib.hid hxa; clear hxa
        have HXX := Lib.hid hx; clear hx
        have HZ := Lib.hid hz; clear hz
        generalize chkA a = z at HU HS q1
        go_wp2_with fail
        refine HU.out.mono ?_
        rintro e w' ⟨rfl, hb'⟩
        go_wp2
        go_ret
        exact ⟨ret_int HS.out.symm, HB.out.trans (hb'.mono HB.out.size)⟩
    · have hf : r = 0 := by rw [HX.out, chkLG_end (by rw [List.length_map]; have := HL.out; omega)]
      have HF := Lib.hid hf; clear hf
      go_wp2
      go_ret
      exact ⟨ret_int HF.out.symm, hbel⟩

/-- at most 14 automata of at most 6 events, marks and edges -/
def fewS (a : Aut) : Prop := a.al.length ≤ 6 ∧ a.ma.length ≤ 6 ∧ a.ed.length ≤ 6
def fewP (l : List Aut) : Prop := l.length ≤ 14 ∧ ∀ a ∈ l, fewS a
end Go.Proofs.YtbdliebjalghmaaDoor
