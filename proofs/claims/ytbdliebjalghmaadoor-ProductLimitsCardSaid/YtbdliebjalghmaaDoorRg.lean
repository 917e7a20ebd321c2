/- Walks: ref06.Alphabet, the law's none. -/
import Derived.Test.YtbdliebjalghmaaDoorRf
import Derived.Test.YtbdliebjalghmaaDoorSe
import Derived.Test.YtbdliebjalghmaaDoorMi
namespace Go.Proofs.YtbdliebjalghmaaDoor
open Go.RowKit Go


set_option maxRecDepth 100000 in
set_option maxHeartbeats 1600000 in
theorem ref_Alphabet6 (A : Option Addr) (c n : Nat) (xs : List AV) (w : World) (hl : xs.length = n) (h : RdL w w.heap.size A xs) (hc1 : n ≤ c) (hc2 : c ≤ 9223372036854775807) (hw : ∀ a ∈ xs.map AV.a, WF a) :
    Calls Tryd.prog 26 #[.slice A n c] w (RetO 3 (evs (xs.map AV.a)) w) := by
  have HL := Lib.hid hl; clear hl
  have HW := Lib.hid hw; clear hw
  go_enter Tryd.func26, Tryd.ntmps26
  go_wp2
  go_loopw [3, 4] (fun so i wr => ∃ (k m : Nat) (o : List Int), k ≤ n ∧ i = .int .i64 k ∧ Hid (o = evs ((xs.map AV.a).take k)) ∧ Hid (o.length = m) ∧ m ≤ 32 ∧ Hid (wr.ownsRow w.heap.size 3 1 so m (iv o)) ∧ Below w.heap.size w wr) (fun _ i _ => n - (intOf i).toNat)
  case atStart => exact ⟨0, 0, [], Nat.zero_le _, rfl, Lib.hid rfl, Lib.hid rfl, by omega, World.ownsRow_nil _ _ _ _, Below.refl _ _⟩
  case round =>
    obtain ⟨k, m, o, hk, rfl, HOE, HM, hm, HO, hbel⟩ := hrel
    have hsz := hbel.size
    by_cases hlt : k < n
    · skip
      obtain ⟨ad, A', na, ca, M, nm, cm, E, ne, ce, a, rfl, hbb, hx, q0, q1, q2, q3, haR⟩ := ((h.below hbel).more hsz).at_ (k := k) (by have := HL.out; omega)
      have b1 : (k : Int) < (n : Int) := by omega
      have p1 : wr.cell? ⟨(ad.add (k * 4)).block, (ad.add (k * 4)).off + 1, none⟩ = some (.int .i64 a.st) := st_cells (j := 0) q1
      have p2 : wr.cell? ⟨(ad.add (k * 4)).block, (ad.add (k * 4)).off + 2, none⟩ = some (.slice M nm cm) := st_cells (j := 1) q2
      have p3 : wr.cell? ⟨(ad.add (k * 4)).block, (ad.add (k * 4)).off + 3, none⟩ = some (.slice E ne ce) := st_cells (j := 2) q3
      clear q1 q2 q3
      have hxa : (xs.map AV.a)[k]? = some a := by simp [hx]
      have hO := HO.out
      rw [← HM.out] at hO
      obtain ⟨A3, c3, rfl, g1, g2, g3⟩ := own_slI hO
      rw [HM.out] at g1
      have hm' : o.length = m := HM.out
      rw [hm'] at *
      have hwa := HW.out a (List.mem_of_getElem? hxa)
      have h32 := hwa.al_le
      rw [haR.la] at h32
      have hal := haR.ra
      have g3' := g3
      have HU := Lib.hid (ref_Union A3 A' m na c3 ca o a.al _ HM.out g3' g1 g2 haR.la hal haR.ac haR.cA (by omega))
      have HS := Lib.hid (show mrg o a.al = evs ((xs.map AV.a).take (k + 1)) by rw [evs_snoc hxa, HOE.out])
      have hle := evs_le (take_wf HW.out (k + 1))
      rw [← HS.out] at hle
      have HB := Lib.hid hbel; clear hbel
      have HLE := Lib.hid hle
      have HXA := Lib.hid hxa; clear hxa
      have HX := Lib.hid hx; clear hx
      have HWA := Lib.hid hwa; clear hwa
      clear hal g3' g3 hO hm' hle haR
      go_wp2_with fail
      refine HU.out.mono ?_
      rintro e w' ⟨v, rfl, ho, hb'⟩
      go_wp2
      go_roundw
      case rel =>
        have hb2 := HB.out.trans (hb'.mono HB.out.size)
        exact ⟨k + 1, _, mrg o a.al, by omega, by go_num, HS, Lib.hid rfl, HLE.out, Lib.hid (own_base ho HB.out.size), hb2⟩
      case measure => simp [intOf]; omega
    · obtain rfl : k = n := by omega
      have hfin : evs (xs.map AV.a) = o := by rw [HOE.out, List.take_of_length_le (by rw [List.length_map, HL.out]; exact Nat.le_refl _)]
      have HF := Lib.hid hfin; clear hfin
      go_wp2
      go_ret
      rw [HF.out]
      exact ⟨_, rfl, by rw [HM.out]; exact HO.out, hbel⟩


set_option maxRecDepth 100000 in
set_option maxHeartbeats 1600000 in
theorem law_none_zero (w : World) : Calls Tryd.prog 20 #[.agg #[.slice none 0 0, .int .i64 0, .slice none 0 0, .slice none 0 0]] w fun e w' => e = .returned (.bool true) ∧ Below w.heap.size w w' := by
  have hB := box_below w (.cells #[.slice none 0 0, .int .i64 0, .slice none 0 0, .slice none 0 0] 29)
  have hz : ∀ W : World, AutR W W.heap.size none 0 0 none 0 0 none 0 0 ⟨[], 0, [], []⟩ := fun W => ⟨rfl, Nat.le_refl _, by omega, RdI.nil, rfl, Nat.le_refl _, by omega, RdI.nil, rfl, Nat.le_refl _, by omega, RdX.nil⟩
  have HC := Lib.hid (automaton_Equal none none none none none none 0 0 0 0 0 0 0 0 0 0 0 0 ⟨[], 0, [], []⟩ ⟨[], 0, [], []⟩ true _ (eqA_of rfl) (hz (w.alloc (.cells #[.slice none 0 0, .int .i64 0, .slice none 0 0, .slice none 0 0] 29))) (hz _))
  have HB := Lib.hid hB; clear hB
  clear hz
  go_enter Tryd.func20, Tryd.ntmps20
  go_wp2_with fail
  refine HC.out.mono ?_
  rintro e w1 ⟨rfl, hb⟩
  go_wp2
  go_ret
  exact ⟨rfl, HB.out.trans (hb.mono HB.out.size)⟩
end Go.Proofs.YtbdliebjalghmaaDoor
