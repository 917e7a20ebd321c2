/- Walks: alphabet.Union; product.events, Check, Alphabet. -/
import Derived.Test.YtbdliebjalghmaaDoorSd
import Derived.Test.YtbdliebjalghmaaDoorQe
namespace Go.Proofs.YtbdliebjalghmaaDoor
open Go.RowKit Go

theorem alphabet_Union (A B : Option Addr) (na nb ca cb : Nat) (a b : List Int) (w : World) (hla : a.length = na) (ha : RdI w w.heap.size A a) (ha1 : na ≤ ca) (ha2 : ca ≤ 9223372036854775807) (hlb : b.length = nb) (hb : RdI w w.heap.size B b) (hb1 : nb ≤ cb) (hb2 : cb ≤ 9223372036854775807) (hn : na + nb ≤ 1000000) :
    Calls Tryd.prog 82 #[.slice A na ca, .slice B nb cb] w (RetO 3 (mrg a b) w) := by
  have HC := Lib.hid (alphabet_merge A B na nb ca cb a b w hla ha ha1 ha2 hlb hb hb1 hb2 hn)
  clear hla hlb
  go_enter Tryd.func82, Tryd.ntmps82
  go_wp2_with fail
  refine HC.out.mono ?_
  rintro e w' ⟨v, rfl, ho, hb'⟩
  go_wp2
  go_ret
  exact ⟨v, rfl, ho, hb'⟩


set_option maxRecDepth 100000 in
set_option maxHeartbeats 1600000 in
theorem product_events (A : Option Addr) (c n : Nat) (xs : List AV) (w : World) (hl : xs.length = n) (h : RdL w w.heap.size A xs) (hc1 : n ≤ c) (hc2 : c ≤ 9223372036854775807) (hw : ∀ a ∈ xs.map AV.a, WF a) :
    Calls Tryd.prog 65 #[.slice A n c] w (RetO 3 (evs (xs.map AV.a)) w) := by
  have HL := Lib.hid hl; clear hl
  have HW := Lib.hid hw; clear hw
  go_enter Tryd.func65, Tryd.ntmps65
  go_wp2
  go_loopw [3, 8] (fun so i wr => ∃ (k m : Nat) (o : List Int), k ≤ n ∧ i = .int .i64 k ∧ Hid (o = evs ((xs.map AV.a).take k)) ∧ Hid (o.length = m) ∧ m ≤ 32 ∧ Hid (wr.ownsRow w.heap.size 3 1 so m (iv o)) ∧ Below w.heap.size w wr) (fun _ i _ => n - (intOf i).toNat)
  case atStart => exact ⟨0, 0, [], Nat.zero_le _, rfl, Lib.hid rfl, Lib.hid rfl, by omega, World.ownsRow_nil _ _ _ _, Below.refl _ _⟩
  case round =>
    obtain ⟨k, m, o, hk, rfl, HOE, HM, hm, HO, hbel⟩ := hrel
    have hsz := hbel.size
    by_cases hlt : k < n
    · skip
      obtain ⟨ad, A', na, ca, M, nm, cm, E, ne, ce, a, rfl, hbb, hx, q0, q1, q2, q3, haR⟩ := ((h.below hbel).more hsz).at_ (k := k) (by have := HL.out; omega)
      have b1 : (k : Int) < (n : Int) := by omega
      have p1 : wr.cell? ⟨(ad.add (k * 4)).block, (ad.add (k * 4)).off + 1, none⟩ = some (.int .i64 a.st) := st_cells (j := 0) q1
      have p2 : wr.cell? ⟨(ad.add (k * 4)).block, (ad.add (k * 4)).off + 2, none⟩ = some (.slice M nm cm) := st_cells (j := 1) q2
      have p3 : wr.cell? ⟨(ad.add (k * 4)).block, (ad.add (k * 4)).off + 3, none⟩ = some (.slice E ne ce) := st_cells (j := 2) q3
      clear q1 q2 q3
      have hxa : (xs.map AV.a)[k]? = some a := by simp [hx]
      have hO := HO.out
      rw [← HM.out] at hO
      obtain ⟨A3, c3, rfl, g1, g2, g3⟩ := own_slI hO
      rw [HM.out] at g1
      have hm' : o.length = m := HM.out
      rw [hm'] at *
      have hwa := HW.out a (List.mem_of_getElem? hxa)
      have h32 := hwa.al_le
      rw [haR.la] at h32
      have hal := (haR.ra.after (box_below wr (.cells #[.slice A' na ca, .int .i64 a.st, .slice M nm cm, .slice E ne ce] 29)) (Nat.le_refl _)).more (box_below wr (.cells #[.slice A' na ca, .int .i64 a.st, .slice M nm cm, .slice E ne ce] 29)).size
      have g3' := (g3.after (box_below wr (.cells #[.slice A' na ca, .int .i64 a.st, .slice M nm cm, .slice E ne ce] 29)) (Nat.le_refl _)).more (box_below wr (.cells #[.slice A' na ca, .int .i64 a.st, .slice M nm cm, .slice E ne ce] 29)).size
      have HU := Lib.hid (alphabet_Union A3 A' m na c3 ca o a.al _ HM.out g3' g1 g2 haR.la hal haR.ac haR.cA (by omega))
      have HS := Lib.hid (show mrg o a.al = evs ((xs.map AV.a).take (k + 1)) by rw [evs_snoc hxa, HOE.out])
      have hle := evs_le (take_wf HW.out (k + 1))
      rw [← HS.out] at hle
      have HB := Lib.hid (hbel.alloc hsz (.cells #[.slice A' na ca, .int .i64 a.st, .slice M nm cm, .slice E ne ce] 29))
      have HLE := Lib.hid hle
      have HXA := Lib.hid hxa; clear hxa
      have HX := Lib.hid hx; clear hx
      have HWA := Lib.hid hwa; clear hwa
      clear hal g3' g3 hO hm' hle haR
      go_wp2_with fail
      refine HU.out.mono ?_
      rintro e w' ⟨v, rfl, ho, hb'⟩
      go_wp2
      go_roundw
      case rel =>
        have hb2 := HB.out.trans (hb'.mono HB.out.size)
        exact ⟨k + 1, _, mrg o a.al, by omega, by go_num, HS, Lib.hid rfl, HLE.out, Lib.hid (own_base ho HB.out.size), hb2⟩
      case measure => simp [intOf]; omega
    · obtain rfl : k = n := by omega
      have hfin : evs (xs.map AV.a) = o := by rw [HOE.out, List.take_of_length_le (by rw [List.length_map, HL.out]; exact Nat.le_refl _)]
      have HF := Lib.hid hfin; clear hfin
      go_wp2
      go_ret
      rw [HF.out]
      exact ⟨_, rfl, by rw [HM.out]; exact HO.out, hbel⟩

set_option maxRecDepth 100000 in
set_option maxHeartbeats 1600000 in
theorem product_Check (A : Option Addr) (c n : Nat) (xs : List AV) (w : World) (hl : xs.length = n) (h : RdL w w.heap.size A xs) (hc1 : n ≤ c) (hc2 : c ≤ 9223372036854775807) :
    Calls Tryd.prog 39 #[.slice A n c] w fun e w' => e = .returned (.int .i64 (chkL (xs.map AV.a))) ∧ Below w.heap.size w w' := by
  obtain ⟨r, hr⟩ : ∃ r, chkL (xs.map AV.a) = r := ⟨_, rfl⟩
  rw [hr]
  by_cases h12 : 12 < n
  · have hr2 : r = 3 := by rw [← hr]; unfold chkL; rw [if_pos (by rw [List.length_map]; omega)]
    subst hr2
    clear hr hl
    have h13 : (12 : Int) < (n : Int) := by omega
    go_enter Tryd.func39, Tryd.ntmps39
    go_wp2
    go_ret
    exact ⟨rfl, Below.refl _ _⟩
  have h13 : decide ((12 : Int) < (n : Int)) = false := decide_eq_false (by omega)
  have h14 : decide (12 < n) = false := decide_eq_false h12
  have hr0 : r = chkLG ((xs.map AV.a).drop 0) := by rw [← hr]; unfold chkL; rw [if_neg (by rw [List.length_map]; omega)]; rfl
  have HR := Lib.hid hr0; clear hr0
  have HL := Lib.hid hl; clear hl
  clear hr h12
  go_enter Tryd.func39, Tryd.ntmps39
  go_wp2
  go_loopw [11] (fun i wr => ∃ k : Nat, k ≤ n ∧ i = .int .i64 k ∧ Hid (r = chkLG ((xs.map AV.a).drop k)) ∧ Below w.heap.size w wr) (fun i _ => n - (intOf i).toNat)
  case atStart => exact ⟨0, Nat.zero_le _, rfl, HR, Below.refl _ _⟩
  case round =>
    obtain ⟨k, hk, rfl, HX, hbel⟩ := hrel
    clear HR
    have hsz := hbel.size
    by_cases hlt : k < n
    · skip
      obtain ⟨ad, A', na, ca, M, nm, cm, E, ne, ce, a, rfl, hbb, hx, q0, q1, q2, q3, haR⟩ := ((h.below hbel).more hsz).at_ (k := k) (by have := HL.out; omega)
      have b1 : (k : Int) < (n : Int) := by omega
      have p1 : wr.cell? ⟨(ad.add (k * 4)).block, (ad.add (k * 4)).off + 1, none⟩ = some (.int .i64 a.st) := st_cells (j := 0) q1
      have p2 : wr.cell? ⟨(ad.add (k * 4)).block, (ad.add (k * 4)).off + 2, none⟩ = some (.slice M nm cm) := st_cells (j := 1) q2
      have p3 : wr.cell? ⟨(ad.add (k * 4)).block, (ad.add (k * 4)).off + 3, none⟩ = some (.slice E ne ce) := st_cells (j := 2) q3
      clear q1 q2 q3
      have hxa : (xs.map AV.a)[k]? = some a := by simp [hx]
      have hB := box_below wr (.cells #[.slice A' na ca, .int .i64 a.st, .slice M nm cm, .slice E ne ce] 29)
      have HU := Lib.hid (automaton_Check A' na ca M nm cm E ne ce a _ ((haR.after hB (Nat.le_refl _)).more hB.size))
      have HB := Lib.hid (hbel.alloc hsz (.cells #[.slice A' na ca, .int .i64 a.st, .slice M nm cm, .slice E ne ce] 29))
      clear haR hB
      by_cases hz : chkA a = 0
      · have HS := Lib.hid (show r = chkLG ((xs.map AV.a).drop (k + 1)) by rw [HX.out, chkLG_go hxa hz])
        rw [hz] at HU
        have HXA := Lib.hid hxa; clear hxa
        have HXX := Lib.hid hx; clear hx
        have HZ := Lib.hid hz; clear hz
        go_wp2_with fail
        refine HU.out.mono ?_
        rintro e w' ⟨rfl, hb'⟩
        go_wp2
        go_roundw
        case rel => exact ⟨k + 1, by omega, by go_num, HS, HB.out.trans (hb'.mono HB.out.size)⟩
        case measure => simp [intOf]; omega
      · have HS := Lib.hid (show r = chkA a by rw [HX.out, chkLG_stop hxa hz])
        have q1 : (chkA a != 0) = true := by simpa using hz
        have HXA := Lib.hid hxa; clear hxa
        have HXX := Lib.hid hx; clear hx
        have HZ := Lib.hid hz; clear hz
        generalize chkA a = z at HU HS q1
        go_wp2_with fail
        refine HU.out.mono ?_
        rintro e w' ⟨rfl, hb'⟩
        go_wp2
        go_ret
        exact ⟨ret_int HS.out.symm, HB.out.trans (hb'.mono HB.out.size)⟩
    · have hf : r = 0 := by rw [HX.out, chkLG_end (by rw [List.length_map, HL.out]; exact hlt)]
      have HF := Lib.hid hf; clear hf
      go_wp2
      go_ret
      exact ⟨ret_int HF.out.symm, hbel⟩
end Go.Proofs.YtbdliebjalghmaaDoor
