/- Walks: product.Find. -/
import Derived.Test.YtbdliebjalghmaaDoorMn
namespace Go.Proofs.YtbdliebjalghmaaDoor
open Go.RowKit Go Go.Maps

theorem idx_first {l : List (List Int)} {t : List Int} : ∀ {k : Nat}, l[k]? = some t → (∀ j < k, l[j]? ≠ some t) → idx l t = k
  | 0, h, _ => by
    cases l with
    | nil => simp at h
    | cons y r => simp at h; subst h; simp [idx]
  | k + 1, h, hn => by
    cases l with
    | nil => simp at h
    | cons y r =>
      have h1 : y ≠ t := fun e => hn 0 (by omega) (by simp [e])
      have h2 := idx_first (l := r) (t := t) (k := k) (by simpa using h) (fun j hj => by have := hn (j + 1) (by omega); simpa using this)
      simp only [idx, h1, if_false, h2]
      rw [if_neg (by omega)]; omega
theorem idx_none {l : List (List Int)} {t : List Int} (h : ∀ j, j < l.length → l[j]? ≠ some t) : idx l t = -1 := idx_no fun hm => by
  obtain ⟨j, hj⟩ := List.getElem?_of_mem hm
  exact h j (List.getElem?_eq_some_iff.1 hj).1 hj

set_option maxHeartbeats 1600000 in
theorem find_fn (A T : Option Addr) (na ca nt ct : Nat) (a t : List Int) (q : Bool) (p : Addr) (w : World) (hna : a.length = na) (hnt : t.length = nt) (hq : eqB a t = q) (ha : RdI w w.heap.size A a) (hac : na ≤ ca) (hc : ca ≤ 9223372036854775807) (ht : RdI w w.heap.size T t) (hp : w.cell? p = some (.slice T nt ct)) :
    Calls Tryd.prog 55 #[.slice A na ca, .pointer (some p)] w fun e w' => e = .returned (.bool q) ∧ ∃ n, w' = w.drewN n := by
  have HC := Lib.hid (slices_Equal_n A T ca ct na nt a t q w hna hnt hq ha hac hc ht)
  clear hna hnt hq ha ht
  go_enter Tryd.func55, Tryd.ntmps55
  go_wp2_with fail
  refine HC.out.mono ?_
  rintro e w' ⟨rfl, n, rfl⟩
  go_wp2
  go_ret
  exact ⟨rfl, n, rfl⟩

set_option maxHeartbeats 1600000 in
theorem find_index (L T : Option Addr) (c n nt ct : Nat) (xs : List SlV) (t : List Int) (p : Addr) (w : World) (hl : xs.length = n) (h : RdS w w.heap.size L xs) (hc1 : n ≤ c) (hc2 : c ≤ 9223372036854775807) (hnt : t.length = nt) (ht : RdI w w.heap.size T t) (hp : w.cell? p = some (.slice T nt ct)) :
    Calls Tryd.prog 54 #[.slice L n c, .func (.func 55) #[] #[.pointer (some p)]] w fun e w' => e = .returned (.int .i64 (idx (xs.map SlV.l) t)) ∧ ∃ n, w' = w.drewN n := by
  obtain ⟨R, hR⟩ : ∃ R, idx (xs.map SlV.l) t = R := ⟨_, rfl⟩
  rw [hR]
  have HR := Lib.hid hR; clear hR
  have HL := Lib.hid hl; clear hl
  have HNT := Lib.hid hnt; clear hnt
  go_enter Tryd.func54, Tryd.ntmps54
  go_wp2
  go_loopw [8] (fun i wr => ∃ k : Nat, k ≤ n ∧ i = .int .i64 k ∧ Hid (∀ j < k, (xs.map SlV.l)[j]? ≠ some t) ∧ ∃ m, wr = w.drewN m) (fun i _ => n - (intOf i).toNat)
  case atStart => exact ⟨0, Nat.zero_le _, rfl, Lib.hid (fun j hj => by omega), (by first | exact dr00 _ | exact dr0 _ _ | exact dr1 _ _ _ | exact dr2 _ _ _ _ | exact dr3 _ _ _ _ _)⟩
  case round =>
    obtain ⟨k, hk, rfl, HX, m, rfl⟩ := hrel
    by_cases hlt : k < n
    · obtain ⟨ad, s, rfl, _, hs, hcs, hrs, hs1, hs2⟩ := h.at_ (k := k) (by have := HL.out; omega)
      have b1 : (k : Int) < (n : Int) := by omega
      obtain ⟨q, hq⟩ : ∃ q, eqB s.l t = q := ⟨_, rfl⟩
      have hsm : (xs.map SlV.l)[k]? = some s.l := by rw [List.getElem?_map, hs]; rfl
      have HC := Lib.hid (find_fn s.A T s.l.length s.c nt ct s.l t q p (w.drewN m) rfl HNT.out hq hrs hs1 hs2 ht hp)
      have HQ := Lib.hid hq; clear hq
      have HSM := Lib.hid hsm; clear hsm
      have HS := Lib.hid hs; clear hs
      clear hrs
      go_wp2_with fail
      refine HC.out.mono ?_
      rintro e w' ⟨rfl, m2, rfl⟩
      cases q with
      | true =>
        have hx := eqB_eq HQ.out
        have hf : R = (k : Int) := HR.out.symm.trans (idx_first (by rw [HSM.out, hx]) HX.out)
        have HF := Lib.hid hf; clear hf
        clear hx
        go_wp2
        go_ret
        exact ⟨ret_int HF.out.symm, (by first | exact dr00 _ | exact dr0 _ _ | exact dr1 _ _ _ | exact dr2 _ _ _ _ | exact dr3 _ _ _ _ _)⟩
      | false =>
        have hx : ∀ j < k + 1, (xs.map SlV.l)[j]? ≠ some t := fun j hj => by
          rcases Nat.lt_or_ge j k with h1 | h1
          · exact HX.out j h1
          · obtain rfl : j = k := by omega
            rw [HSM.out]; intro e; injection e with e; exact eqB_ne HQ.out e
        have HX2 := Lib.hid hx; clear hx
        go_wp2
        go_roundw
        case rel => exact ⟨k + 1, by omega, by go_num, HX2, (by first | exact dr00 _ | exact dr0 _ _ | exact dr1 _ _ _ | exact dr2 _ _ _ _ | exact dr3 _ _ _ _ _)⟩
        case measure => simp [intOf]; omega
    · have hf : R = -1 := HR.out.symm.trans (idx_none fun j hj => HX.out j (by rw [List.length_map, HL.out] at hj; omega))
      have HF := Lib.hid hf; clear hf
      go_wp2
      go_ret
      exact ⟨ret_int HF.out.symm, (by first | exact dr00 _ | exact dr0 _ _ | exact dr1 _ _ _ | exact dr2 _ _ _ _ | exact dr3 _ _ _ _ _)⟩

set_option maxHeartbeats 1600000 in
theorem product_Find (L T : Option Addr) (c n nt ct : Nat) (xs : List SlV) (t : List Int) (w : World) (hl : xs.length = n) (h : RdS w w.heap.size L xs) (hc1 : n ≤ c) (hc2 : c ≤ 9223372036854775807) (hnt : t.length = nt) (ht : RdI w w.heap.size T t) :
    Calls Tryd.prog 23 #[.slice L n c, .slice T nt ct] w fun e w' => e = .returned (.tuple #[.int .i64 (if idx (xs.map SlV.l) t < 0 then 0 else idx (xs.map SlV.l) t), .bool (decide (0 ≤ idx (xs.map SlV.l) t))]) ∧ Below w.heap.size w w' := by
  have hB := box_below w (.cells #[.slice T nt ct] 26)
  have HC := Lib.hid (find_index L T c n nt ct xs t ⟨w.heap.size, 0, none⟩ (w.alloc (.cells #[.slice T nt ct] 26)) hl ((h.below hB).more hB.size) hc1 hc2 hnt ((ht.below hB).more hB.size) ((Blk.new w 26 [.slice T nt ct]).cell (j := 0) rfl))
  obtain ⟨R, hR⟩ : ∃ R, idx (xs.map SlV.l) t = R := ⟨_, rfl⟩
  rw [hR] at HC ⊢
  have HB := Lib.hid hB; clear hB
  clear hR h ht
  obtain ⟨x1, h1⟩ : ∃ x1, (if R < 0 then 0 else R) = x1 := ⟨_, rfl⟩
  obtain ⟨x2, h2⟩ : ∃ x2, decide (0 ≤ R) = x2 := ⟨_, rfl⟩
  rw [h1, h2]
  have H1 := Lib.hid h1; clear h1
  have H2 := Lib.hid h2; clear h2
  go_enter Tryd.func23, Tryd.ntmps23
  go_wp2_with fail
  refine HC.out.mono ?_
  rintro e w' ⟨rfl, m, rfl⟩
  go_wp2
  go_ret2
  refine ⟨?_, below_drewN HB.out _⟩
  rw [← H1.out, ← H2.out]
  by_cases h0 : R < 0
  · rw [if_pos h0]
    simp [show max R 0 = 0 by omega]
  · rw [if_neg h0]
    simp [show max R 0 = R by omega]
end Go.Proofs.YtbdliebjalghmaaDoor
