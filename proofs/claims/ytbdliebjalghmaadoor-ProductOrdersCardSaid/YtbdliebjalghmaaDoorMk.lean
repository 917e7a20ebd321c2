/- Walks: product.checkTuple, product.checkEvent, and what they compute. -/
import Derived.Test.YtbdliebjalghmaaDoorMd
import Derived.Test.YtbdliebjalghmaaDoorSe
namespace Go.Proofs.YtbdliebjalghmaaDoor
open Go.RowKit Go Go.Maps

def tupG : List Aut → List Int → Int
  | a :: l, x :: t => if x < 0 ∨ a.st ≤ x then 2 else tupG l t
  | _, _ => 0
theorem tupG_bad {l : List Aut} {t : List Int} {k : Nat} {a : Aut} {x : Int} (ha : l[k]? = some a) (hx : t[k]? = some x) (h : x < 0 ∨ a.st ≤ x) : tupG (l.drop k) (t.drop k) = 2 := by
  rw [drop_cons' ha, drop_cons' hx, tupG, if_pos h]
theorem tupG_go {l : List Aut} {t : List Int} {k : Nat} {a : Aut} {x : Int} (ha : l[k]? = some a) (hx : t[k]? = some x) (h : ¬ (x < 0 ∨ a.st ≤ x)) : tupG (l.drop k) (t.drop k) = tupG (l.drop (k + 1)) (t.drop (k + 1)) := by
  rw [drop_cons' ha, drop_cons' hx, tupG, if_neg h]
theorem tupG_end {l : List Aut} {t : List Int} {k : Nat} (h : ¬ k < l.length) : tupG (l.drop k) (t.drop k) = 0 := by
  rw [List.drop_of_length_le (by omega)]; rfl
theorem tupG_tup : ∀ {l : List Aut} {t : List Int}, tupG l t = 0 → t.length = l.length → Tup l t
  | [], [], _, _ => by unfold Tup; trivial
  | a :: l, x :: t, h, hl => by
    rw [tupG] at h
    split at h
    · cases h
    · unfold Tup; exact ⟨by omega, by omega, tupG_tup h (by simpa using hl)⟩
  | [], x :: t, _, hl => by simp at hl
  | a :: l, [], _, hl => by simp at hl
/-- the errors of a list and a tuple, and of these and an event -/
def chkT (l : List Aut) (t : List Int) : Int := if chkL l ≠ 0 then chkL l else if t.length ≠ l.length then 4 else tupG l t
def chkV (l : List Aut) (t : List Int) (v : Int) : Int := if chkT l t ≠ 0 then chkT l t else if hasB (evs l) v = true then 0 else 9

set_option maxRecDepth 100000 in
set_option maxHeartbeats 3200000 in
theorem product_checkTuple (L : Option Addr) (c n : Nat) (xs : List AV) (T : Option Addr) (ct nt : Nat) (t : List Int) (w : World) (hl : xs.length = n) (h : RdL w w.heap.size L xs) (hc1 : n ≤ c) (hc2 : c ≤ 9223372036854775807) (hT : RdI w w.heap.size T t) (ht : t.length = nt) :
    Calls Tryd.prog 60 #[.slice L n c, .slice T nt ct] w fun e w' => e = .returned (.int .i64 (chkT (xs.map AV.a) t)) ∧ Below w.heap.size w w' := by
  obtain ⟨r, hr⟩ : ∃ r, chkT (xs.map AV.a) t = r := ⟨_, rfl⟩
  rw [hr]
  have HC := Lib.hid (product_Check L c n xs w hl h hc1 hc2)
  unfold chkT at hr
  rw [List.length_map, hl, ht] at hr
  obtain ⟨z, hz⟩ : ∃ z, chkL (xs.map AV.a) = z := ⟨_, rfl⟩
  rw [hz] at hr HC
  clear hz
  have HL := Lib.hid hl; clear hl
  have HTL := Lib.hid ht; clear ht
  by_cases h0 : z = 0
  · subst h0
    rw [if_neg (by simp)] at hr
    by_cases h1 : nt = n
    · subst h1
      rw [if_neg (by simp)] at hr
      have HR := Lib.hid (show r = tupG ((xs.map AV.a).drop 0) (t.drop 0) from hr.symm)
      clear hr
      go_enter Tryd.func60, Tryd.ntmps60
      go_wp2_with fail
      refine HC.out.mono ?_
      rintro e w1 ⟨rfl, hb1⟩
      have HB1 := Lib.hid hb1; clear hb1
      go_wp2
      go_loopw [20] (fun i wr => ∃ k : Nat, k ≤ nt ∧ i = .int .i64 k ∧ Hid (r = tupG ((xs.map AV.a).drop k) (t.drop k)) ∧ Below w.heap.size w wr) (fun i _ => nt - (intOf i).toNat)
      case atStart => exact ⟨0, Nat.zero_le _, rfl, HR, HB1.out⟩
      case round =>
        obtain ⟨k, hk, rfl, HX, hbel⟩ := hrel
        clear HR HB1
        by_cases hlt : k < nt
        · have hsz := hbel.size
          obtain ⟨ad, A', na, ca, M, nm, cm, E, ne, ce, a, rfl, hbb, hx, q0, q1, q2, q3, haR⟩ := ((h.below hbel).more hsz).at_ (k := k) (by have := HL.out; omega)
          have b1 : (k : Int) < (nt : Int) := by omega
          have p1 : wr.cell? ⟨(ad.add (k * 4)).block, (ad.add (k * 4)).off + 1, none⟩ = some (.int .i64 a.st) := st_cells (j := 0) q1
          have p2 : wr.cell? ⟨(ad.add (k * 4)).block, (ad.add (k * 4)).off + 2, none⟩ = some (.slice M nm cm) := st_cells (j := 1) q2
          have p3 : wr.cell? ⟨(ad.add (k * 4)).block, (ad.add (k * 4)).off + 3, none⟩ = some (.slice E ne ce) := st_cells (j := 2) q3
          clear q1 q2 q3
          have hxa : (xs.map AV.a)[k]? = some a := by simp [hx]
          obtain ⟨td, s, rfl, hbt, hts, hcs⟩ := ((hT.below hbel).more hsz).at_ (k := k) (by have := HTL.out; omega)
          have hcs' : (wr.alloc (.cells #[.slice A' na ca, .int .i64 a.st, .slice M nm cm, .slice E ne ce] 29)).cell? (td.add k) = some (.int .i64 s) := (World.cell?_alloc_lt wr _ _ (by rw [block_of_add]; exact hbt)).trans hcs
          clear hcs haR
          obtain ⟨st, hst⟩ : ∃ st, a.st = st := ⟨_, rfl⟩
          rw [hst] at p1 hcs'
          by_cases h2 : s < 0
          · have HB := Lib.hid (HX.out.trans (tupG_bad hxa hts (.inl h2)))
            have HXA := Lib.hid hxa; clear hxa
            have HX2 := Lib.hid hx; clear hx
            have HTS := Lib.hid hts; clear hts
            clear hst
            go_wp2
            go_quiet (fail)
            go_wp2
            go_ret
            exact ⟨ret_int HB.out.symm, below_drewN (hbel.alloc hsz _) _⟩
          · by_cases h3 : st ≤ s
            · have HB := Lib.hid (HX.out.trans (tupG_bad hxa hts (.inr (by omega))))
              have HXA := Lib.hid hxa; clear hxa
              have HX2 := Lib.hid hx; clear hx
              have HTS := Lib.hid hts; clear hts
              clear hst
              go_wp2
              go_quiet (fail)
              go_wp2
              go_ret
              exact ⟨ret_int HB.out.symm, below_drewN (hbel.alloc hsz _) _⟩
            · have HB := Lib.hid (HX.out.trans (tupG_go hxa hts (by omega)))
              have HXA := Lib.hid hxa; clear hxa
              have HX2 := Lib.hid hx; clear hx
              have HTS := Lib.hid hts; clear hts
              clear hst
              go_wp2
              go_quiet (fail)
              go_wp2
              go_roundw
              case rel => exact ⟨k + 1, by omega, by go_num, HB, below_drewN (hbel.alloc hsz _) _⟩
              case measure => simp [intOf]; omega
        · have HB := Lib.hid (HX.out.trans (tupG_end (by rw [List.length_map, HL.out]; exact hlt)))
          go_wp2
          go_ret
          exact ⟨ret_int HB.out.symm, hbel⟩
    · rw [if_pos (by omega)] at hr
      subst hr
      have hq : ((nt : Int) != (n : Int)) = true := by rw [bne_iff_ne]; omega
      clear h1
      go_enter Tryd.func60, Tryd.ntmps60
      go_wp2_with fail
      refine HC.out.mono ?_
      rintro e w1 ⟨rfl, hb1⟩
      go_wp2
      go_ret
      exact ⟨rfl, hb1⟩
  · rw [if_pos (by simpa using h0)] at hr
    subst hr
    have q1 : (z != 0) = true := by simpa using h0
    go_enter Tryd.func60, Tryd.ntmps60
    go_wp2_with fail
    refine HC.out.mono ?_
    rintro e w1 ⟨rfl, hb1⟩
    go_wp2
    go_ret
    exact ⟨rfl, hb1⟩

set_option maxRecDepth 100000 in
set_option maxHeartbeats 3200000 in
theorem product_checkEvent (L : Option Addr) (c n : Nat) (xs : List AV) (T : Option Addr) (ct nt : Nat) (t : List Int) (v : Int) (w : World) (hl : xs.length = n) (h : RdL w w.heap.size L xs) (hc1 : n ≤ c) (hc2 : c ≤ 9223372036854775807) (hT : RdI w w.heap.size T t) (ht : t.length = nt) :
    Calls Tryd.prog 61 #[.slice L n c, .slice T nt ct, .int .i64 v] w fun e w' => e = .returned (.int .i64 (chkV (xs.map AV.a) t v)) ∧ Below w.heap.size w w' := by
  obtain ⟨r, hr⟩ : ∃ r, chkV (xs.map AV.a) t v = r := ⟨_, rfl⟩
  rw [hr]
  have HC := Lib.hid (product_checkTuple L c n xs T ct nt t w hl h hc1 hc2 hT ht)
  unfold chkV at hr
  obtain ⟨z, hz⟩ : ∃ z, chkT (xs.map AV.a) t = z := ⟨_, rfl⟩
  rw [hz] at hr HC
  by_cases h0 : z = 0
  · subst h0
    rw [if_neg (by simp)] at hr
    have hz2 : chkL (xs.map AV.a) = 0 := by
      unfold chkT at hz
      by_cases h1 : chkL (xs.map AV.a) = 0
      · exact h1
      · rw [if_pos h1] at hz; exact hz
    obtain ⟨hn, hw⟩ := chkL_wf hz2
    have hinc := evs_inc (fun a ha => (hw a ha).inc)
    have hle := evs_le hw
    obtain ⟨q, hq⟩ : ∃ q, hasB (evs (xs.map AV.a)) v = q := ⟨_, rfl⟩
    rw [hq] at hr
    have HW := Lib.hid hw; clear hw
    have HL := Lib.hid hl; clear hl
    have HR := Lib.hid hr; clear hr
    have HI := Lib.hid hinc; clear hinc
    have HQ := Lib.hid hq; clear hq
    have HLE := Lib.hid hle; clear hle
    clear hz hz2 hn
    go_enter Tryd.func61, Tryd.ntmps61
    go_wp2_with fail
    refine HC.out.mono ?_
    rintro e w1 ⟨rfl, hb1⟩
    have HB1 := Lib.hid hb1; clear hb1
    have HE := Lib.hid (product_events L c n xs w1 HL.out ((h.below HB1.out).more HB1.out.size) hc1 hc2 HW.out)
    go_wp2_with fail
    refine HE.out.mono ?_
    rintro e w2 ⟨v2, rfl, ho2, hb2⟩
    obtain ⟨A2, c2, rfl⟩ := own_shape ho2
    have hB := HB1.out.trans (hb2.mono HB1.out.size)
    have HO2 := Lib.hid ho2; clear ho2
    have HBB := Lib.hid hB; clear hB
    clear hb2 HE HC
    go_wp2_with fail
    refine (alphabet_Contains_n A2 c2 _ (evs (xs.map AV.a)) v q _ rfl HQ.out (RdI.of_own HO2.out) (by have := HLE.out; omega) HI.out).mono ?_
    rintro e w' ⟨rfl, rfl⟩
    cases q with
    | true =>
      go_wp2
      go_ret
      exact ⟨ret_int (by have := HR.out; simpa using this), HBB.out⟩
    | false =>
      go_wp2
      go_ret
      exact ⟨ret_int (by have := HR.out; simpa using this), HBB.out⟩
  · rw [if_pos (by simpa using h0)] at hr
    subst hr
    have q1 : (z != 0) = true := by simpa using h0
    go_enter Tryd.func61, Tryd.ntmps61
    go_wp2_with fail
    refine HC.out.mono ?_
    rintro e w1 ⟨rfl, hb1⟩
    go_wp2
    go_ret
    exact ⟨rfl, hb1⟩
end Go.Proofs.YtbdliebjalghmaaDoor
