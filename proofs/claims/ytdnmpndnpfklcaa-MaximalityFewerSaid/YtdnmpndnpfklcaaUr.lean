/- Walks: slices.Reverse at ints (as in chapter 26's text). -/
import Derived.Test.YtdnmpndnpfklcaaUa
import Derived.Deep.Cut
namespace Go.Proofs.Ytdnmpndnpfklcaa
open Go.RowKit Go

/-- a list of which the outer parts are exchanged -/
def revM (l m : List Int) (i : Nat) : Prop := m.length = l.length ∧ ∀ k, k < l.length → m[k]? = if k < i ∨ l.length ≤ k + i then l[l.length - 1 - k]? else l[k]?
theorem revM_start (l : List Int) : revM l l 0 := ⟨rfl, fun k hk => by rw [if_neg (by omega)]⟩
theorem revM_end {l m : List Int} {i : Nat} (h : revM l m i) (hi : l.length ≤ 2 * i + 1) : m = l.reverse := by
  refine List.ext_getElem? fun k => ?_
  by_cases hk : k < l.length
  · rw [h.2 k hk, List.getElem?_reverse hk]
    by_cases hc : k < i ∨ l.length ≤ k + i
    · rw [if_pos hc]
    · rw [if_neg hc, show l.length - 1 - k = k by omega]
  · rw [List.getElem?_eq_none (by rw [h.1]; omega), List.getElem?_eq_none (by rw [List.length_reverse]; omega)]
theorem revM_step {l m : List Int} {i j : Nat} {a b : Int} (h : revM l m i) (hj : i + j + 1 = l.length) (hi : i < j) (ha : m[i]? = some a) (hb : m[j]? = some b) : revM l ((m.set i b).set j a) (i + 1) := by
  refine ⟨by rw [List.length_set, List.length_set, h.1], fun k hk => ?_⟩
  have h1 := h.2 i (by omega)
  have h2 := h.2 j (by omega)
  rw [if_neg (by omega), ha] at h1
  rw [if_neg (by omega), hb] at h2
  rw [List.getElem?_set, List.getElem?_set]
  by_cases hkj : j = k
  · subst hkj
    rw [if_pos rfl, if_pos (by rw [List.length_set, h.1]; omega), if_pos (by omega), show l.length - 1 - j = i by omega, ← h1]
  · rw [if_neg hkj]
    by_cases hki : i = k
    · subst hki
      rw [if_pos rfl, if_pos (by rw [h.1]; omega), if_pos (by omega), show l.length - 1 - i = j by omega, ← h2]
    · rw [if_neg hki, h.2 k hk]
      by_cases hc : k < i ∨ l.length ≤ k + i
      · rw [if_pos hc, if_pos (by omega)]
      · rw [if_neg hc, if_neg (by omega)]
theorem grown_refl (w : World) (r : Option Nat) : w.grownBy w r := ⟨rfl, rfl, rfl, Nat.le_refl _, fun _ _ _ => rfl⟩
set_option maxHeartbeats 1600000 in
theorem reverse_blk (g n c : Nat) (l : List Int) (rest : List Value) (w : World) (hl : l.length = n) (h : Blk w g 3 (iv l ++ rest)) (hn : n ≤ 1000000) :
    Calls Try.prog 90 #[.slice (some ⟨g, 0, none⟩) n c] w fun e w' => e = .returned (.tuple #[]) ∧ Blk w' g 3 (iv l.reverse ++ rest) ∧ w.grownBy w' (some g) := by
  have HL := Lib.hid hl; clear hl
  have HB := Lib.hid h; clear h
  go_enter Try.func90, Try.ntmps90
  go_wp2
  go_loopw [2, 3] (fun s2 s3 wr => ∃ (i : Nat) (m : List Int), s2 = .int .i64 i ∧ s3 = .int .i64 ((n : Int) - 1 - i) ∧ i ≤ n ∧ Hid (revM l m i) ∧ Hid (Blk wr g 3 (iv m ++ rest)) ∧ Hid (w.grownBy wr (some g))) (fun s2 _ _ => n - (intOf s2).toNat)
  case atStart => exact ⟨0, l, rfl, by go_num, Nat.zero_le _, Lib.hid (revM_start l), HB, Lib.hid (grown_refl _ _)⟩
  case round =>
    clear HB
    obtain ⟨i, m, rfl, rfl, hi, HR, HM, HG⟩ := hrel
    by_cases hlt : (i : Int) < (n : Int) - 1 - i
    · obtain ⟨j, hj⟩ : ∃ j : Nat, (n : Int) - 1 - i = j := ⟨n - 1 - i, by omega⟩
      have hjn : i + j + 1 = n := by omega
      rw [hj] at hlt ⊢
      have HJ := Lib.hid hj
      have hml : m.length = n := HR.out.1.trans HL.out
      obtain ⟨a, ha⟩ : ∃ a, m[i]? = some a := ⟨_, List.getElem?_eq_getElem (by omega)⟩
      obtain ⟨b, hb⟩ : ∃ b, m[j]? = some b := ⟨_, List.getElem?_eq_getElem (by omega)⟩
      have b0 : (i : Int) < (n : Int) := by omega
      have b1 : (j : Int) < (n : Int) := by omega
      have hm1 := HM.out.below (below_dr wr) HM.out.lt
      have hg1 := HG.out.trans (grown_below (below_dr wr) (some g))
      have hrv := revM_step HR.out (by rw [HL.out]; exact hjn) (by omega) ha hb
      go_upto_region 3 with fail
      refine wp_region_U (fun _ => True) (fun W => W.cell? ⟨g, j, none⟩ = some (.int .i64 b) ∧ W.cell? ⟨g, i, none⟩ = some (.int .i64 a)) 13 (by kernel_rfl) ?_
      change anyU _ _ _ _ _ _ _ 16 _ _ _
      generalize wr.drew = wd at hm1 hg1 ⊢
      have ga : wd.cell? ⟨g, i, none⟩ = some (.int .i64 a) := hm1.cell (by rw [List.getElem?_append_left (by rw [iv_length]; omega), iv_get, ha]; rfl)
      have gb : wd.cell? ⟨g, j, none⟩ = some (.int .i64 b) := hm1.cell (by rw [List.getElem?_append_left (by rw [iv_length]; omega), iv_get, hb]; rfl)
      have hm2 := hm1.set (j := i) (by rw [List.length_append, iv_length]; omega) (.int .i64 b)
      rw [List.set_append, if_pos (by rw [iv_length]; omega), iv_set] at hm2
      have hm3 := hm2.set (j := j) (by rw [List.length_append, iv_length, List.length_set]; omega) (.int .i64 a)
      rw [List.set_append, if_pos (by rw [iv_length, List.length_set]; omega), iv_set] at hm3
      have fa := hm1.free i
      have lg := hm1.lt
      have fb := hm2.free j
      have lb := hm2.lt
      have HM3 := Lib.hid hm3
      have HG3 := Lib.hid ((hg1.trans (grown_setCell _ _ i (.int .i64 b))).trans (grown_setCell _ _ j (.int .i64 a)))
      have HRV := Lib.hid hrv
      clear hm1 hm2 hm3 hg1 hrv ha hb hml HM HG HR hj
      have hA0 : True := trivial
      have hB0 : wd.cell? ⟨g, j, none⟩ = some (.int .i64 b) ∧ wd.cell? ⟨g, i, none⟩ = some (.int .i64 a) := ⟨gb, ga⟩
      (refine uA 0 ?_ rfl hA0 hB0 (fun W hA => ?_) ?_; rotate_left; (· (go_simp; try with_reducible rfl)); refine uA 1 ?_ rfl hA0 hB0 (fun W hA => ?_) ?_; rotate_left; (· (go_simp; try with_reducible rfl)); refine uA 2 ?_ rfl hA0 hB0 (fun W hA => ?_) ?_; rotate_left; (· (go_simp; try with_reducible rfl)); refine uA 3 ?_ rfl hA0 hB0 (fun W hA => ?_) ?_; rotate_left; (· (go_simp; try with_reducible rfl)); refine uA 4 ?_ rfl hA0 hB0 (fun W hA => ?_) ?_; rotate_left; (· (go_simp; try with_reducible rfl)); refine uA 5 ?_ rfl hA0 hB0 (fun W hA => ?_) ?_; rotate_left; (· (go_simp; try with_reducible rfl)); refine uA 6 ?_ rfl hA0 hB0 (fun W hA => ?_) ?_; rotate_left; (· (go_simp; try with_reducible rfl)); (try simp only [Act.put, List.setIfInBounds_toArray, List.set_cons_zero, List.set_cons_succ]))
      (refine uB 7 ?_ rfl hA0 hB0 (fun W hA hB => ?_) ?_; rotate_left; (· (go_simp; try with_reducible rfl)); (try simp only [Act.put, List.setIfInBounds_toArray, List.set_cons_zero, List.set_cons_succ]))
      (refine uA 8 ?_ rfl hA0 hB0 (fun W hA => ?_) ?_; rotate_left; (· (go_simp; try with_reducible rfl)); refine uA 9 ?_ rfl hA0 hB0 (fun W hA => ?_) ?_; rotate_left; (· (go_simp; try with_reducible rfl)); refine uA 10 ?_ rfl hA0 hB0 (fun W hA => ?_) ?_; rotate_left; (· (go_simp; try with_reducible rfl)); (try simp only [Act.put, List.setIfInBounds_toArray, List.set_cons_zero, List.set_cons_succ]))
      (refine uB 11 ?_ rfl hA0 hB0 (fun W hA hB => ?_) ?_; rotate_left; (· (go_simp; try with_reducible rfl)); (try simp only [Act.put, List.setIfInBounds_toArray, List.set_cons_zero, List.set_cons_succ]))
      (refine uA 12 ?_ rfl hA0 hB0 (fun W hA => ?_) ?_; rotate_left; (· (go_simp; try with_reducible rfl)); (try simp only [Act.put, List.setIfInBounds_toArray, List.set_cons_zero, List.set_cons_succ]))
      refine uOne (i := 13) rfl (by kernel_rfl) (fun K hK => ?_)
      go_simp
      (refine hK _ _ ⟨hA0, fun h => absurd (h.symm.trans (by kernel_rfl : _ = true)) Bool.false_ne_true⟩ ?_; clear hK K; (try simp only [Act.put, List.setIfInBounds_toArray, List.set_cons_zero, List.set_cons_succ]))
      refine uOne (i := 14) rfl (by kernel_rfl) (fun K hK => ?_)
      go_simp
      (refine hK _ _ ⟨hA0, fun h => absurd (h.symm.trans (by kernel_rfl : _ = true)) Bool.false_ne_true⟩ ?_; clear hK K; (try simp only [Act.put, List.setIfInBounds_toArray, List.set_cons_zero, List.set_cons_succ]))
      refine uOne (i := 15) rfl (by kernel_rfl) (fun K hK => ?_)
      go_simp
      (refine hK _ _ ⟨hA0, fun h => absurd (h.symm.trans (by kernel_rfl : _ = true)) Bool.false_ne_true⟩ ?_; clear hK K; (try simp only [Act.put, List.setIfInBounds_toArray, List.set_cons_zero, List.set_cons_succ]))
      refine anyU_done (by kernel_rfl) ?_ _
      clear hA0 hB0
      go_wp2
      go_roundw
      case rel => exact ⟨i + 1, _, by go_num, by have := HJ.out; go_num, by omega, HRV, HM3, HG3⟩
      case measure => simp [intOf]; omega
    · have he := revM_end HR.out (by rw [HL.out]; omega)
      have hm := HM.out
      rw [he] at hm
      have HMM := Lib.hid hm; clear hm
      clear he
      go_wp2
      go_end0
      exact ⟨rfl, HMM.out, HG.out⟩
theorem reverse_nil (w : World) : Calls Try.prog 90 #[.slice none 0 0] w fun e w' => e = .returned (.tuple #[]) ∧ w = w' := by
  go_enter Try.func90, Try.ntmps90
  go_wp2
  go_loopw [2, 3] (fun s2 s3 wr => s2 = .int .i64 0 ∧ s3 = .int .i64 (-1) ∧ w = wr) (fun s2 _ _ => 0)
  case atStart => exact ⟨rfl, rfl, rfl⟩
  case round =>
    obtain ⟨rfl, rfl, rfl⟩ := hrel
    go_wp2
    go_end0
    exact ⟨rfl, rfl⟩
theorem reverse_own (base n : Nat) (v : Value) (l : List Int) (w : World) (h : w.ownsRow base 3 1 v n (iv l)) (hl : l.length = n) (hn : n ≤ 1000000) :
    Calls Try.prog 90 #[v] w fun e w' => e = .returned (.tuple #[]) ∧ w'.ownsRow base 3 1 v n (iv l.reverse) ∧ w.grownBy w' v.ownBlock := by
  rcases h.2 with ⟨rfl, rfl⟩ | ⟨g, cap, cur, rfl, hb, hg, h1, h2, h3, h4⟩
  · obtain rfl : l = [] := List.eq_nil_of_length_eq_zero hl
    exact (reverse_nil w).mono fun e w' ⟨he, hw⟩ => by subst hw; exact ⟨he, h, grown_refl _ _⟩
  · rw [Nat.mul_one] at h3 h4
    have hk : Blk w g 3 (iv l ++ cur.toList.drop n) := by
      show w.heap[g]? = _
      rw [hg, ← h4, List.take_append_drop]
    refine (reverse_blk g n cap l (cur.toList.drop n) w hl hk hn).mono fun e w' ⟨he, hk', hgr⟩ => ⟨he, ⟨by rw [iv_length, List.length_reverse, hl]; omega, .inr ⟨g, cap, (iv l.reverse ++ cur.toList.drop n).toArray, rfl, hb, hk', h1, h2, ?_, ?_⟩⟩, hgr⟩
    · rw [List.size_toArray, List.length_append, iv_length, List.length_reverse, hl, List.length_drop, Array.length_toList]; omega
    · show (iv l.reverse ++ cur.toList.drop n).take _ = _
      rw [Nat.mul_one, List.take_append_of_le_length (by rw [iv_length, List.length_reverse]; omega), List.take_of_length_le (by rw [iv_length, List.length_reverse]; omega)]
end Go.Proofs.Ytdnmpndnpfklcaa
