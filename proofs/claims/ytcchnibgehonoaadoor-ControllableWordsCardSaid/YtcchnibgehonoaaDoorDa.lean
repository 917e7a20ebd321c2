/- Walks: slices.Reverse at ints. -/
import Derived.Test.YtcchnibgehonoaaDoorMa
import Derived.Test.YtcchnibgehonoaaDoorTu
import Derived.Test.YtcchnibgehonoaaDoorGa
import Derived.Deep.Cut
import Derived.Test.YtcchnibgehonoaaDoorCi
import Derived.Test.YtcchnibgehonoaaDoorCq
namespace Go.Proofs.YtcchnibgehonoaaDoor
open Go.RowKit Go Go.Maps

/-- a list of which the outer parts are exchanged -/
def revM (l m : List Int) (i : Nat) : Prop := m.length = l.length ∧ ∀ k, k < l.length → m[k]? = if k < i ∨ l.length ≤ k + i then l[l.length - 1 - k]? else l[k]?
theorem revM_start (l : List Int) : revM l l 0 := ⟨rfl, fun k hk => by rw [if_neg (by omega)]⟩
theorem revM_end {l m : List Int} {i : Nat} (h : revM l m i) (hi : l.length ≤ 2 * i + 1) : m = l.reverse := by
 refine List.ext_getElem? fun k => ?_
 by_cases hk : k < l.length
 ·rw [h.2 k hk, List.getElem?_reverse hk]
  by_cases hc : k < i ∨ l.length ≤ k + i
  ·rw [if_pos hc]
  ·rw [if_neg hc, show l.length - 1 - k = k by omega]
 ·rw [List.getElem?_eq_none (by rw [h.1]; omega), List.getElem?_eq_none (by rw [List.length_reverse]; omega)]
theorem revM_step {l m : List Int} {i j : Nat} {a b : Int} (h : revM l m i) (hj : i + j + 1 = l.length) (hi : i < j) (ha : m[i]? = some a) (hb : m[j]? = some b) : revM l ((m.set i b).set j a) (i + 1) := by
 refine ⟨by rw [List.length_set, List.length_set, h.1], fun k hk => ?_⟩
 have h1 := h.2 i (by omega)
 have h2 := h.2 j (by omega)
 rw [if_neg (by omega), ha] at h1
 rw [if_neg (by omega), hb] at h2
 rw [List.getElem?_set, List.getElem?_set]
 by_cases hkj : j = k
 ·subst hkj
  rw [if_pos rfl, if_pos (by rw [List.length_set, h.1]; omega), if_pos (by omega), show l.length - 1 - j = i by omega, ← h1]
 ·rw [if_neg hkj]
  by_cases hki : i = k
  ·subst hki
   rw [if_pos rfl, if_pos (by rw [h.1]; omega), if_pos (by omega), show l.length - 1 - i = j by omega, ← h2]
  ·rw [if_neg hki, h.2 k hk]
   by_cases hc : k < i ∨ l.length ≤ k + i
   ·rw [if_pos hc, if_pos (by omega)]
   ·rw [if_neg hc, if_neg (by omega)]
theorem grown_refl (w : World) (r : Option Nat) : w.grownBy w r := ⟨rfl, rfl, rfl, Nat.le_refl _, fun _ _ _ => rfl⟩
set_option maxHeartbeats 1600000 in
theorem reverse_blk (g n c : Nat) (l : List Int) (rest : List Value) (w : World) (hl : l.length = n) (h : Blk w g 3 (iv l ++ rest)) (hn : n ≤ 1000000) :
  Calls Tryd.prog 50 #[.slice (some ⟨g, 0, none⟩) n c] w fun e w' => e = .returned (.tuple #[]) ∧ Blk w' g 3 (iv l.reverse ++ rest) ∧ w.grownBy w' (some g) := by
 have HL := Lib.hid hl; clear hl
 have HB := Lib.hid h; clear h
 go_enter Tryd.func50, Tryd.ntmps50
 go_wp2
 go_loopw [2, 3] (fun s2 s3 wr => ∃ (i : Nat) (m : List Int), s2 = .int .i64 i ∧ s3 = .int .i64 ((n : Int) - 1 - i) ∧ i ≤ n ∧ Hid (revM l m i) ∧ Hid (Blk wr g 3 (iv m ++ rest)) ∧ Hid (w.grownBy wr (some g))) (fun s2 _ _ => n - (intOf s2).toNat)
 case atStart => exact ⟨0, l, rfl, by go_num, Nat.zero_le _, Lib.hid (revM_start l), HB, Lib.hid (grown_refl _ _)⟩
 case round =>
  clear HB
  obtain ⟨i, m, rfl, rfl, hi, HR, HM, HG⟩ := hrel
  by_cases hlt : (i : Int) < (n : Int) - 1 - i
  ·obtain ⟨j, hj⟩ : ∃ j : Nat, (n : Int) - 1 - i = j := ⟨n - 1 - i, by omega⟩
   have hjn : i + j + 1 = n := by omega
   rw [hj] at hlt ⊢
   have HJ := Lib.hid hj
   have hml : m.length = n := HR.out.1.trans HL.out
   obtain ⟨a, ha⟩ : ∃ a, m[i]? = some a := ⟨_, List.getElem?_eq_getElem (by omega)⟩
   obtain ⟨b, hb⟩ : ∃ b, m[j]? = some b := ⟨_, List.getElem?_eq_getElem (by omega)⟩
   have b0 : (i : Int) < (n : Int) := by omega
   have b1 : (j : Int) < (n : Int) := by omega
   have hm1 := HM.out.below (below_dr wr) HM.out.lt
   have hg1 := HG.out.trans (grown_below (below_dr wr) (some g))
   have hrv := revM_step HR.out (by rw [HL.out]; exact hjn) (by omega) ha hb
   go_upto_region 3 with fail
   refine wp_region_U (fun _ => True) (fun W => W.cell? ⟨g, j, none⟩ = some (.int .i64 b) ∧ W.cell? ⟨g, i, none⟩ = some (.int .i64 a)) 13 (by kernel_rfl) ?_
   change anyU _ _ _ _ _ _ _ 16 _ _ _
   generalize wr.drew = wd at hm1 hg1 ⊢
   have ga : wd.cell? ⟨g, i, none⟩ = some (.int .i64 a) := hm1.cell (by rw [List.getElem?_append_left (by rw [iv_length]; omega), iv_get, ha]; rfl)
   have gb : wd.cell? ⟨g, j, none⟩ = some (.int .i64 b) := hm1.cell (by rw [List.getElem?_append_left (by rw [iv_length]; omega), iv_get, hb]; rfl)
   have hm2 := hm1.set (j := i) (by rw [List.length_append, iv_length]; omega) (.int .i64 b)
   rw [List.set_append, if_pos (by rw [iv_length]; omega), iv_set] at hm2
   have hm3 := hm2.set (j := j) (by rw [List.length_append, iv_length, List.length_set]; omega) (.int .i64 a)
   rw [List.set_append, if_pos (by rw [iv_length, List.length_set]; omega), iv_set] at hm3
   have fa := hm1.free i
   have lg := hm1.lt
   have fb := hm2.free j
   have lb := hm2.lt
   have HM3 := Lib.hid hm3
   have HG3 := Lib.hid ((hg1.trans (grown_setCell _ _ i (.int .i64 b))).trans (grown_setCell _ _ j (.int .i64 a)))
   have HRV := Lib.hid hrv
   clear hm1 hm2 hm3 hg1 hrv ha hb hml HM HG HR hj
   have hA0 : True := trivial
   have hB0 : wd.cell? ⟨g, j, none⟩ = some (.int .i64 b) ∧ wd.cell? ⟨g, i, none⟩ = some (.int .i64 a) := ⟨gb, ga⟩
   (refine uA 0 ?_ rfl hA0 hB0 (fun W hA => ?_) ?_; rotate_left; (· (go_simp; try with_reducible rfl)); refine uA 1 ?_ rfl hA0 hB0 (fun W hA => ?_) ?_; rotate_left; (· (go_simp; try with_reducible rfl)); refine uA 2 ?_ rfl hA0 hB0 (fun W hA => ?_) ?_; rotate_left; (· (go_simp; try with_reducible rfl)); refine uA 3 ?_ rfl hA0 hB0 (fun W hA => ?_) ?_; rotate_left; (· (go_simp; try with_reducible rfl)); refine uA 4 ?_ rfl hA0 hB0 (fun W hA => ?_) ?_; rotate_left; (· (go_simp; try with_reducible rfl)); refine uA 5 ?_ rfl hA0 hB0 (fun W hA => ?_) ?_; rotate_left; (· (go_simp; try with_reducible rfl)); refine uA 6 ?_ rfl hA0 hB0 (fun W hA => ?_) ?_; rotate_left; (· (go_simp; try with_reducible rfl)); (try simp only [Act.put, List.setIfInBounds_toArray, List.set_cons_zero, List.set_cons_succ]))
   (refine uB 7 ?_ rfl hA0 hB0 (fun W hA hB => ?_) ?_; rotate_left; (· (go_simp; try with_reducible rfl)); (try simp only [Act.put, List.setIfInBounds_toArray, List.set_cons_zero, List.set_cons_succ]))
   (refine uA 8 ?_ rfl hA0 hB0 (fun W hA => ?_) ?_; rotate_left; (· (go_simp; try with_reducible rfl)); refine uA 9 ?_ rfl hA0 hB0 (fun W hA => ?_) ?_; rotate_left; (· (go_simp; try with_reducible rfl)); refine uA 10 ?_ rfl hA0 hB0 (fun W hA => ?_) ?_; rotate_left; (· (go_simp; try with_reducible rfl)); (try simp only [Act.put, List.setIfInBounds_toArray, List.set_cons_zero, List.set_cons_succ]))
   (refine uB 11 ?_ rfl hA0 hB0 (fun W hA hB => ?_) ?_; rotate_left; (· (go_simp; try with_reducible rfl)); (try simp only [Act.put, List.setIfInBounds_toArray, List.set_cons_zero, List.set_cons_succ]))
   (refine uA 12 ?_ rfl hA0 hB0 (fun W hA => ?_) ?_; rotate_left; (· (go_simp; try with_reducible rfl)); (try simp only [Act.put, List.setIfInBounds_toArray, List.set_cons_zero, List.set_cons_succ]))
   refine uOne (i := 13) rfl (by kernel_rfl) (fun K hK => ?_)
   go_simp
   (refine hK _ _ ⟨hA0, fun h => absurd (h.symm.trans (by kernel_rfl : _ = true)) Bool.false_ne_true⟩ ?_; clear hK K; (try simp only [Act.put, List.setIfInBounds_toArray, List.set_cons_zero, List.set_cons_succ]))
   refine uOne (i := 14) rfl (by kernel_rfl) (fun K hK => ?_)
   go_simp
   (refine hK _ _ ⟨hA0, fun h => absurd (h.symm.trans (by kernel_rfl : _ = true)) Bool.false_ne_true⟩ ?_; clear hK K; (try simp only [Act.put, List.setIfInBounds_toArray, List.set_cons_zero, List.set_cons_succ]))
   refine uOne (i := 15) rfl (by kernel_rfl) (fun K hK => ?_)
   go_simp
   (refine hK _ _ ⟨hA0, fun h => absurd (h.symm.trans (by kernel_rfl : _ = true)) Bool.false_ne_true⟩ ?_; clear hK K; (try simp only [Act.put, List.setIfInBounds_toArray, List.set_cons_zero, List.set_cons_succ]))
   refine anyU_done (by kernel_rfl) ?_ _
   clear hA0 hB0
   go_wp2
   go_roundw
   case rel => exact ⟨i + 1, _, by go_num, by have := HJ.out; go_num, by omega, HRV, HM3, HG3⟩
   case measure => simp [intOf]; omega
  ·have he := revM_end HR.out (by rw [HL.out]; omega)
   have hm := HM.out
   rw [he] at hm
   have HMM := Lib.hid hm; clear hm
   clear he
   go_wp2
   go_end0
   exact ⟨rfl, HMM.out, HG.out⟩
end Go.Proofs.YtcchnibgehonoaaDoor

/- Plain: each state of a product but the first has an edge from an earlier one; the word that leads to a state. -/
namespace Go.Proofs.YtcchnibgehonoaaDoor

/-- each state but the first has an edge from an earlier one -/
def Par (n : Nat) (es : List Ed) : Prop := ∀ k : Nat, 1 ≤ k → k < n → ∃ x, x ∈ es ∧ x.t = (k : Int) ∧ 0 ≤ x.f ∧ x.f < (k : Int)
section
variable {σ : Type} [DecidableEq σ] {C : Nat} {st : σ → Int → Option σ}
theorem bsE_par {i : Nat} {t : σ} {v : Int} {s s' : Bs σ} (h : Par s.ts.length s.es) (hi : i < s.ts.length) (he : bsE C st i t s v = some s') : Par s'.ts.length s'.es ∧ s.ts.length ≤ s'.ts.length := by
 unfold bsE at he
 cases hs : st t v with
 | none => rw [hs] at he; injection he with he; subst he; exact ⟨h, Nat.le_refl _⟩
 | some x =>
  rw [hs] at he
  simp only at he
  split at he
  ·split at he
   ·cases he
   ·injection he with he; subst he
    refine ⟨fun k h1 h2 => ?_, by simp⟩
    have h2 : k < (s.ts ++ [x]).length := h2
    rw [List.length_append, List.length_singleton] at h2
    rcases Nat.lt_or_ge k s.ts.length with h3 | h3
    ·obtain ⟨x, hx, h4⟩ := h k h1 h3
     exact ⟨x, List.mem_append_left _ hx, h4⟩
    ·obtain rfl : k = s.ts.length := by omega
     exact ⟨_, List.mem_append_right _ (List.mem_singleton.2 rfl), rfl, by show (0 : Int) ≤ (i : Int); omega, by show (i : Int) < _; omega⟩
  ·injection he with he; subst he
   exact ⟨fun k h1 h2 => (h k h1 h2).imp fun x hx => ⟨List.mem_append_left _ hx.1, hx.2⟩, Nat.le_refl _⟩
theorem bsF_par {i : Nat} {t : σ} : ∀ {V : List Int} {s s' : Bs σ}, Par s.ts.length s.es → i < s.ts.length → bsF C st i t V s = some s' → Par s'.ts.length s'.es
 | [], s, s', h, _, he => by injection he with he; subst he; exact h
 | v :: V, s, s', h, hi, he => by
  rw [bsF] at he
  cases h1 : bsE C st i t s v with
  | none => rw [h1] at he; cases he
  | some s1 =>
   rw [h1] at he
   obtain ⟨g1, g2⟩ := bsE_par h hi h1
   exact bsF_par g1 (by omega) he
theorem bsR_par {V : List Int} : ∀ {n i : Nat} {s s' : Bs σ}, Par s.ts.length s.es → bsR C st V n i s = some s' → Par s'.ts.length s'.es
 | 0, i, s, s', h, he => by injection he with he; subst he; exact h
 | n + 1, i, s, s', h, he => by
  rw [bsR] at he
  cases ht : s.ts[i]? with
  | none => rw [ht] at he; injection he with he; subst he; exact h
  | some t =>
   rw [ht] at he
   simp only at he
   cases h1 : bsF C st i t V s with
   | none => rw [h1] at he; cases he
   | some s1 =>
    rw [h1] at he
    exact bsR_par (bsF_par h (List.getElem?_eq_some_iff.1 ht).1 h1) he
theorem bfs_par {V : List Int} {x0 : σ} {s' : Bs σ} (he : bfs C st V x0 = some s') : Par s'.ts.length s'.es :=
 bsR_par (s := ⟨[x0], []⟩) (fun k h1 h2 => by have h2 : k < 1 := h2; omega) he
end
theorem syn_par {l : List Aut} {p : Aut} {T : List (List Int)} (h : synR l = some (p, T)) : Par p.st.toNat p.ed := by
 unfold synR at h
 split at h
 ·simp only [Option.some.injEq, Prod.mk.injEq] at h
  obtain ⟨rfl, rfl⟩ := h
  exact fun k h1 h2 => by have h2 : k < (0 : Int).toNat := h2; simp at h2
 ·cases hq : synS l with
  | none => rw [hq] at h; cases h
  | some s =>
   rw [hq] at h
   simp only [Option.map_some, Option.some.injEq, Prod.mk.injEq] at h
   obtain ⟨rfl, rfl⟩ := h
   exact bfs_par (s' := s) hq
/-- does an edge lead to a state -/
def toB (s : Int) (x : Ed) : Bool := x.t == s
theorem first_edge {p : Aut} (hw : WF p) (hp : Par p.st.toNat p.ed) {s : Int} (h1 : 0 < s) (h2 : s < p.st) : ∃ (j : Nat) (x : Ed), idxP (toB s) p.ed = j ∧ p.ed[j]? = some x ∧ x.t = s ∧ 0 ≤ x.f ∧ x.f < s := by
 obtain ⟨y, hy, hyt, hy0, hyf⟩ := hp s.toNat (by omega) (by omega)
 have hys : toB s y = true := by unfold toB; rw [beq_iff_eq]; omega
 rcases idxP_spec (p := toB s) p.ed with ⟨_, h3⟩ | ⟨k, x, h3, h4, h5, h6⟩
 ·rw [h3 y hy] at hys; cases hys
 ·have hxt : x.t = s := by unfold toB at h5; rwa [beq_iff_eq] at h5
  obtain ⟨j, hj⟩ := List.getElem?_of_mem hy
  have hx := (hw.erng x (List.mem_of_getElem? h4)).1
  have hx0 : 0 ≤ x.f := by unfold edOut at hx; omega
  refine ⟨k, x, h3, h4, hxt, hx0, ?_⟩
  rcases Nat.lt_or_ge j k with hjk | hjk
  ·rw [h6 j y hjk hj] at hys; cases hys
  ·rcases Nat.eq_or_lt_of_le hjk with rfl | hjk
   ·rw [h4] at hj; injection hj with hj; subst hj; omega
   ·obtain ⟨a1, a2⟩ := List.getElem?_eq_some_iff.1 h4
    obtain ⟨b1, b2⟩ := List.getElem?_eq_some_iff.1 hj
    have := List.pairwise_iff_getElem.1 hw.einc k j a1 b1 hjk
    rw [a2, b2] at this
    unfold edLt at this
    omega
/-- the events of the first edges from a state back to the first one -/
def pathW (es : List Ed) : Nat → Int → List Int
 | 0, _ => []
 | n + 1, s => if s ≤ 0 then [] else match es[(idxP (toB s) es).toNat]? with
  | none => []
  | some x => x.e :: pathW es n x.f
theorem pathW_end {es : List Ed} {s : Int} (h : ¬ 0 < s) : ∀ n, pathW es n s = []
 | 0 => rfl
 | n + 1 => by unfold pathW; rw [if_pos (by omega)]
theorem pathW_step {es : List Ed} {s : Int} {n j : Nat} {x : Ed} (h : 0 < s) (hj : idxP (toB s) es = j) (hx : es[j]? = some x) : pathW es (n + 1) s = x.e :: pathW es n x.f := by
 show (if s ≤ 0 then [] else match es[(idxP (toB s) es).toNat]? with
  | none => []
  | some x => x.e :: pathW es n x.f) = _
 rw [if_neg (by omega), hj, Int.toNat_natCast, hx]
theorem badI_pre (P R : Aut) (U : List Int) (T : List (List Int)) {k n : Nat} (h : k ≤ n) : badI P R U T k <+: badI P R U T n := by
 unfold badI
 refine List.IsPrefix.filter _ ?_
 have e : rngI (n : Int) = rngI (k : Int) ++ (rngI (n : Int)).drop k := by
  conv => lhs; rw [← List.take_append_drop k (rngI (n : Int))]
  congr 1
  unfold rngI
  rw [← List.map_take, List.take_range, show (n : Int).toNat = n by omega, show (k : Int).toNat = k by omega, Nat.min_eq_left h]
 rw [e]; exact List.prefix_append _ _
/-- Check's answer -/
def chkO (P R : Aut) (U : List Int) (p : Aut) (T : List (List Int)) (n : Nat) : List Int × Int × Bool := match badI P R U T n with
 | [] => ([], 0, true)
 | s :: _ => ((pathW p.ed n s).reverse, refT P R U (T.getD s.toNat []), false)
theorem chkO_hit {P R : Aut} {U : List Int} {p : Aut} {T : List (List Int)} {k n : Nat} {t : List Int} (hk : k < n) (h0 : badI P R U T k = []) (ht : T[k]? = some t) (hr : 0 ≤ refT P R U t) : chkO P R U p T n = ((pathW p.ed n k).reverse, refT P R U t, false) := by
 obtain ⟨r, hr'⟩ := badI_pre P R U T (show k + 1 ≤ n by omega)
 rw [badI_snoc P R U T ht, h0, if_pos hr] at hr'
 unfold chkO
 rw [← hr']
 show ((pathW p.ed n k).reverse, refT P R U (T.getD ((k : Int)).toNat []), false) = _
 rw [show (k : Int).toNat = k by omega, List.getD_eq_getElem?_getD, ht]; rfl
theorem chkO_none {P R : Aut} {U : List Int} {p : Aut} {T : List (List Int)} {n : Nat} (h0 : badI P R U T n = []) : chkO P R U p T n = ([], 0, true) := by unfold chkO; rw [h0]

end Go.Proofs.YtcchnibgehonoaaDoor

/- Walks: slices.Reverse at a row of the call's own; Check$1; Check at a right problem. -/
namespace Go.Proofs.YtcchnibgehonoaaDoor
open Go.RowKit Go Go.Maps

theorem reverse_nil (w : World) : Calls Tryd.prog 50 #[.slice none 0 0] w fun e w' => e = .returned (.tuple #[]) ∧ w = w' := by
 go_enter Tryd.func50, Tryd.ntmps50
 go_wp2
 go_loopw [2, 3] (fun s2 s3 wr => s2 = .int .i64 0 ∧ s3 = .int .i64 (-1) ∧ w = wr) (fun s2 _ _ => 0)
 case atStart => exact ⟨rfl, rfl, rfl⟩
 case round =>
  obtain ⟨rfl, rfl, rfl⟩ := hrel
  go_wp2
  go_end0
  exact ⟨rfl, rfl⟩
theorem reverse_own (base n : Nat) (v : Value) (l : List Int) (w : World) (h : w.ownsRow base 3 1 v n (iv l)) (hl : l.length = n) (hn : n ≤ 1000000) :
  Calls Tryd.prog 50 #[v] w fun e w' => e = .returned (.tuple #[]) ∧ w'.ownsRow base 3 1 v n (iv l.reverse) ∧ w.grownBy w' v.ownBlock := by
 rcases h.2 with ⟨rfl, rfl⟩ | ⟨g, cap, cur, rfl, hb, hg, h1, h2, h3, h4⟩
 ·obtain rfl : l = [] := List.eq_nil_of_length_eq_zero hl
  exact (reverse_nil w).mono fun e w' ⟨he, hw⟩ => by subst hw; exact ⟨he, h, grown_refl _ _⟩
 ·rw [Nat.mul_one] at h3 h4
  have hk : Blk w g 3 (iv l ++ cur.toList.drop n) := by
   show w.heap[g]? = _
   rw [hg, ← h4, List.take_append_drop]
  refine (reverse_blk g n cap l (cur.toList.drop n) w hl hk hn).mono fun e w' ⟨he, hk', hgr⟩ => ⟨he, ⟨by rw [iv_length, List.length_reverse, hl]; omega, .inr ⟨g, cap, (iv l.reverse ++ cur.toList.drop n).toArray, rfl, hb, hk', h1, h2, ?_, ?_⟩⟩, hgr⟩
  ·rw [List.size_toArray, List.length_append, iv_length, List.length_reverse, hl, List.length_drop, Array.length_toList]; omega
  ·show (iv l.reverse ++ cur.toList.drop n).take _ = _
   rw [Nat.mul_one, List.take_append_of_le_length (by rw [iv_length, List.length_reverse]; omega), List.take_of_length_le (by rw [iv_length, List.length_reverse]; omega)]
theorem check_fn (x : Ed) (c1 : Addr) (s : Int) (w : World) (hc : w.cell? c1 = some (.int .i64 s)) (hb : c1.block < w.heap.size) :
  Calls Tryd.prog 49 #[.agg #[.int .i64 x.f, .int .i64 x.e, .int .i64 x.t], .pointer (some c1)] w fun e w' => e = .returned (.bool (toB s x)) ∧ Below w.heap.size w w' := by
 have hB := box_below w (.cells #[.int .i64 x.f, .int .i64 x.e, .int .i64 x.t] 83)
 have d1 := (World.cell?_alloc_lt w (.cells #[.int .i64 x.f, .int .i64 x.e, .int .i64 x.t] 83) c1 hb).trans hc
 have kx : Blk (w.alloc (.cells #[.int .i64 x.f, .int .i64 x.e, .int .i64 x.t] 83)) w.heap.size 83 [.int .i64 x.f, .int .i64 x.e, .int .i64 x.t] := Blk.new _ _ _
 have x2 := kx.cell (j := 2) rfl
 have HB := Lib.hid hB; clear hB
 clear kx hc
 go_enter Tryd.func49, Tryd.ntmps49
 go_wp2
 go_ret
 exact ⟨rfl, HB.out⟩

/-- Check's answer -/
def RetChk (o : List Int × Int × Bool) (w : World) (e : Ending) (w' : World) : Prop := ∃ v, e = .returned (.tuple #[v, .int .i64 o.2.1, .bool o.2.2, .int .i64 0]) ∧ w'.ownsRow w.heap.size 3 1 v o.1.length (iv o.1) ∧ Below w.heap.size w w'
def lenOf : Value → Nat
 | .slice _ k _ => k
 | _ => 0
set_option maxRecDepth 100000 in
set_option maxHeartbeats 3200000 in
theorem check_ok (A M E A' M' E' : Option Addr) (na ca nm cm ne ce na' ca' nm' cm' ne' ce' : Nat) (P R : Aut) (U : Option Addr) (cu nu : Nat) (u : List Int) (w : World) (hx : AutR w w.heap.size A na ca M nm cm E ne ce P) (hy : AutR w w.heap.size A' na' ca' M' nm' cm' E' ne' ce' R)
  (hul : u.length = nu) (hu : RdI w w.heap.size U u) (hu1 : nu ≤ cu) (hu2 : cu ≤ 9223372036854775807) (p : Aut) (T : List (List Int)) (hp : Prob P R u p T) (n : Nat) (hn : T.length = n) :
  Calls Tryd.prog 14 #[.agg #[.slice A na ca, .int .i64 P.st, .slice M nm cm, .slice E ne ce], .agg #[.slice A' na' ca', .int .i64 R.st, .slice M' nm' cm', .slice E' ne' ce'], .slice U nu cu] w (RetChk (chkO P R (intS u P.al) p T n) w) := by
 obtain ⟨sp, hsp⟩ : ∃ s, P.st = s := ⟨_, rfl⟩
 obtain ⟨sr, hsr⟩ : ∃ s, R.st = s := ⟨_, rfl⟩
 rw [hsp, hsr]
 have hb1 := box_below w (.cells #[.slice A na ca, .int .i64 sp, .slice M nm cm, .slice E ne ce] 25)
 have hb2 := hb1.alloc hb1.size (.cells #[.slice A' na' ca', .int .i64 sr, .slice M' nm' cm', .slice E' ne' ce'] 25)
 obtain ⟨w1, hw1⟩ : ∃ w1, w1 = (w.alloc (.cells #[.slice A na ca, .int .i64 sp, .slice M nm cm, .slice E ne ce] 25)).alloc (.cells #[.slice A' na' ca', .int .i64 sr, .slice M' nm' cm', .slice E' ne' ce'] 25) := ⟨_, rfl⟩
 rw [← hw1] at hb2
 have HC := Lib.hid (ctl_open_ok A M E A' M' E' na ca nm cm ne ce na' ca' nm' cm' ne' ce' P R U cu nu u w1 ((hx.below hb2).more hb2.size) ((hy.below hb2).more hb2.size) hul ((hu.below hb2).more hb2.size) hu1 hu2 p T hp)
 rw [hsp, hsr] at HC
 have hst : p.st = (n : Int) := by rw [hp.tups.1, hn]
 have hn4 : n ≤ 3600 := by rw [← hn]; exact hp.len
 have hpar := syn_par hp.syn
 have HW1 := Lib.hid hw1; clear hw1
 have HB1 := Lib.hid hb2; clear hb2
 have HP := Lib.hid hp; clear hp
 have HN := Lib.hid hn; clear hn
 have HST := Lib.hid hst; clear hst
 have HPAR := Lib.hid hpar; clear hpar
 clear hb1 hx hy hu hsp hsr hul
 go_enter Tryd.func14, Tryd.ntmps14
 go_wp2_with fail
 rw [← HW1.out]
 refine HC.out.mono ?_
 rintro e w2 ⟨b, v, rfl, hb0, hpr, hb⟩
 obtain ⟨mp, np, mr, nr, RA, nra, cra, UA, nU, cU, ⟨XA, xna, xca, XM, xnm, xcm, XE, xne, xce, xa⟩, TB, nt, ct, ts⟩ := v
 have hxa : xa = p := hpr.xa
 subst hxa
 have HB := Lib.hid (HB1.out.trans (hb.mono HB1.out.size))
 have c5 : w2.cell? ⟨b, 5, none⟩ = some (.int .i64 (n : Int)) := by
  have := hpr.blk.cell (j := 5) rfl
  rw [show xa.st = (n : Int) from HST.out] at this
  exact this
 have hxo : AutR w2 w2.heap.size XA xna xca XM xnm xcm XE xne xce xa := hpr.xo
 have HRE := Lib.hid hxo.re
 have HLE := Lib.hid hxo.le
 have hxn : xne ≤ 4611686018427387903 := by have := HP.out.pwf.ed_le; have := hxo.le; omega
 have HPR := Lib.hid hpr; clear hpr
 clear hb HC hb0 hxo
 go_wp2
 clear c5
 go_loopw [6, 29] (fun s6 s29 wr => ∃ k : Nat, s6 = .slice none 0 0 ∧ s29 = .int .i64 k ∧ k ≤ n ∧ Hid (badI P R (intS u P.al) T k = []) ∧ Hid (Below w2.heap.size w2 wr)) (fun _ s29 _ => n - (intOf s29).toNat)
 case atStart => exact ⟨0, rfl, rfl, Nat.zero_le _, Lib.hid rfl, Lib.hid (Below.refl _ _)⟩
 case round =>
  obtain ⟨k, rfl, rfl, hk, HI, HBE⟩ := hrel
  obtain ⟨wo, rfl⟩ : ∃ wo : World, wo = wr := ⟨_, rfl⟩
  by_cases hlt : k < n
  ·have b1 : (k : Int) < (n : Int) := by omega
   obtain ⟨t, ht⟩ : ∃ t, T[k]? = some t := ⟨_, List.getElem?_eq_getElem (by rw [HN.out]; exact hlt)⟩
   obtain ⟨q, hq⟩ : ∃ q, refT P R (intS u P.al) t = q := ⟨_, rfl⟩
   have hka : Blk (wo.alloc (.cells #[.int .i64 (k : Int)] 3)) wo.heap.size 3 [.int .i64 (k : Int)] := Blk.new _ _ [_]
   have hba := box_below wo (.cells #[.int .i64 (k : Int)] 3)
   have ca := hka.cell (j := 0) rfl
   have HR := Lib.hid (refused_at HP.out b _ k t (wo.alloc (.cells #[.int .i64 (k : Int)] 3)) ((HPR.out.below HBE.out).below hba) ht q hq)
   have HBA := Lib.hid (HBE.out.trans (hba.mono HBE.out.size))
   have HKA := Lib.hid hka; clear hka
   have HTK := Lib.hid ht; clear ht
   have HQ := Lib.hid hq; clear hq
   clear hba
   by_cases h0 : 0 ≤ q
   ·have d1 : decide (q < 0) = false := decide_eq_false (by omega)
    have HO := Lib.hid (chkO_hit (p := xa) hlt HI.out HTK.out (by rw [HQ.out]; exact h0))
    rw [HQ.out] at HO
    clear h0
    go_wp2_with fail
    refine HR.out.mono ?_
    rintro e w5 ⟨rfl, hb5⟩
    have HB5 := Lib.hid (HBA.out.trans (hb5.mono HBA.out.size))
    have HS5 := Lib.hid (HKA.out.below hb5 HKA.out.lt)
    have l5 : wo.heap.size < w5.heap.size := HS5.out.lt
    have l2 : w2.heap.size ≤ wo.heap.size := HBE.out.size
    have HO5 := Lib.hid (World.ownsRow_nil w5 (wo.heap.size + 1) 3 1)
    clear hb5 HR ca HKA HBA
    go_wp2
    go_loopw [6] (fun s6 wr => ∃ (m : Nat) (A1 : Option Addr) (c1 : Nat) (ws : List Int) (s : Int), s6 = .slice A1 m c1 ∧ m ≤ n ∧ 0 ≤ s ∧ s ≤ k ∧ s + m ≤ n ∧ Hid (Blk wr wo.heap.size 3 [.int .i64 s]) ∧ Hid (wr.ownsRow (wo.heap.size + 1) 3 1 (.slice A1 m c1) m (iv ws)) ∧ Hid (ws.length = m) ∧ Hid (pathW xa.ed n k = ws ++ pathW xa.ed (n - m) s) ∧ Hid (Below w2.heap.size w2 wr)) (fun s6 _ => n - lenOf s6)
    case atStart => exact ⟨0, none, 0, [], k, rfl, Nat.zero_le _, by omega, by omega, by omega, HS5, HO5, Lib.hid rfl, Lib.hid rfl, HB5⟩
    case round =>
     clear HS5 HO5 HB5 l5
     obtain ⟨m, A1, c1, ws, s, rfl, hm, hs0, hsk, hsm, HSB, HOW, HWL, HPW, HBW⟩ := hrel
     have cs := HSB.out.cell (j := 0) rfl
     by_cases hs : 0 < s
     ·obtain ⟨j, x, hj, hx, hxt, hx0, hxs⟩ := first_edge HP.out.pwf HPAR.out hs (by rw [show xa.st = (n : Int) from HST.out]; omega)
      have hjl : j < xne := by have := (List.getElem?_eq_some_iff.1 hx).1; have := HLE.out; omega
      obtain ⟨ad, y, rfl, hbb, hy, hcell⟩ := HRE.out.get (k := j) (by have := HLE.out; omega)
      obtain rfl : x = y := by rw [hx] at hy; injection hy
      have hlw : wo.heap.size < wr.heap.size := HSB.out.lt
      have HAD := Lib.hid (fun (W : World) (hb : Below w2.heap.size w2 W) => (show W.cell? ⟨b, 7, none⟩ = some (.slice (some ad) xne xce) ∧ W.cell? (ad.add (j * 3)) = some (.int .i64 x.f) ∧ W.cell? ⟨(ad.add (j * 3)).block, (ad.add (j * 3)).off + 1, none⟩ = some (.int .i64 x.e) from
       ⟨(hb.cell (p := ⟨b, 7, none⟩) HPR.out.blk.lt).trans (HPR.out.blk.cell (j := 7) rfl), (hb.cell (p := ad.add (j * 3)) (by rw [block_of_add]; exact hbb)).trans (hcell 0 _ rfl), (hb.cell (p := ⟨(ad.add (j * 3)).block, (ad.add (j * 3)).off + 1, none⟩) (by show (ad.add (j * 3)).block < _; rw [block_of_add]; exact hbb)).trans (st_cells (j := 0) (hcell 1 _ rfl))⟩))
      have HIX := Lib.hid (edge_index1 (toB s) (some ad) xce xne xa.ed ⟨wo.heap.size, 0, none⟩ wr HLE.out ((HRE.out.below HBW.out).more HBW.out.size) hxn (fun z w' hb' => check_fn z ⟨wo.heap.size, 0, none⟩ s w' ((hb'.cell (p := ⟨wo.heap.size, 0, none⟩) hlw).trans cs) (Nat.lt_of_lt_of_le hlw hb'.size)))
      rw [hj] at HIX
      have HPW2 := Lib.hid (show pathW xa.ed n k = (ws ++ [x.e]) ++ pathW xa.ed (n - (m + 1)) x.f by
       rw [HPW.out, show n - m = (n - (m + 1)) + 1 by omega, pathW_step hs hj hx, List.append_assoc]; rfl)
      have b2 : (j : Int) < (xne : Int) := by omega
      obtain ⟨g7, _, _⟩ := HAD.out wr HBW.out
      clear hj hx hxt hy hcell HPW
      go_wp2_with fail
      refine HIX.out.mono ?_
      rintro e w6 ⟨rfl, hb6⟩
      have HB6 := Lib.hid (HBW.out.trans (hb6.mono HBW.out.size))
      have HS6 := Lib.hid (HSB.out.below hb6 HSB.out.lt)
      have HO6 := Lib.hid (own_below HOW.out hb6)
      clear g7 cs
      obtain ⟨g7, g0, g1⟩ := HAD.out w6 HB6.out
      have hbs : wo.heap.size + 1 ≤ w6.heap.size := HS6.out.lt
      have hmn : m < n := by omega
      clear hb6 HIX HBW HSB HOW hlw
      go_wp2_with (at_builtin; refine wpList_pushA w6 [.int .i64 x.e] rfl (.tmp 46) (.tmp 56) 22 rfl (wo.heap.size + 1) 3 (.int .i64 0) 1 8 Tryd.underlying22 int_info rfl (by decide) rfl (.slice A1 m c1) m _ rfl HO6.out rfl (fun z hz => by simp at hz; subst hz; rfl) (by omega) (by omega) hbs ?_; intro A3 c3 w7 ho7 hg7 hl7; have HB7 := Lib.hid (HB6.out.grown hg7 HB6.out.size (fun i hi => by have := (HO6.out.lt i hi).1; omega)); have HS7 := Lib.hid (HS6.out.kept hg7 (own_lt_ne HO6.out (Nat.lt_succ_self _))); clear g7 g0 g1; obtain ⟨g7, g0, g1⟩ := HAD.out w7 HB7.out; have f0 := HS7.out.free 0; have e0 := HS7.out.cell (j := 0) rfl; have l7 : wo.heap.size < w7.heap.size := HS7.out.lt)
      have hg8 := grown_setCell w7 wo.heap.size 0 (.int .i64 x.f)
      have HO8 := Lib.hid (show (w7.setCell ⟨wo.heap.size, 0, none⟩ (.int .i64 x.f)).ownsRow (wo.heap.size + 1) 3 1 (.slice A3 (m + 1) c3) (m + 1) (iv (ws ++ [x.e])) by rw [iv_append]; exact own_kept_low ho7 hg8 (Nat.lt_succ_self _))
      have HS8 := Lib.hid (HS7.out.set (j := 0) (by simp) (.int .i64 x.f))
      have HB8 := Lib.hid (HB7.out.setCell (p := ⟨wo.heap.size, 0, none⟩) l2 (.int .i64 x.f))
      go_roundw
      case rel => exact ⟨m + 1, A3, c3, ws ++ [x.e], x.f, rfl, by omega, hx0, by omega, by omega, HS8, HO8, Lib.hid (by rw [List.length_append, HWL.out]; rfl), HPW2, HB8⟩
      case measure => show n - (m + 1) < n - m; omega
     ·have hpw := HPW.out
      rw [pathW_end hs, List.append_nil] at hpw
      have HRV := Lib.hid (reverse_own (wo.heap.size + 1) m (.slice A1 m c1) ws wr HOW.out HWL.out (by omega))
      have HPP := Lib.hid hpw
      have HLT := Lib.hid (fun g hg => (HOW.out.lt g hg).1)
      clear hpw HPW HOW
      go_wp2_with fail
      refine HRV.out.mono ?_
      rintro e w8 ⟨rfl, ho8, hg8⟩
      have HF := Lib.hid (HB.out.trans ((HBW.out.grown hg8 HBW.out.size (fun i hi => by have := HLT.out i hi; omega)).mono HB.out.size))
      have HO8 := Lib.hid (own_base (base := w.heap.size) ho8 (by have := HB.out.size; omega))
      clear ho8 hg8 cs HRV
      go_wp2
      refine bodyPost_ret (v := .tuple #[.slice A1 m c1, .int .i64 q, .bool false, .int .i64 0]) (by simp [results, Tryd.results14, go_sem]) rfl ?_
      rw [HO.out, HPP.out]
      exact ⟨_, rfl, by rw [show ws.reverse.length = m by rw [List.length_reverse, HWL.out]]; exact HO8.out, HF.out⟩
   ·have d1 : decide (q < 0) = true := decide_eq_true (by omega)
    have HI2 := Lib.hid (show badI P R (intS u P.al) T (k + 1) = [] by rw [badI_snoc P R _ T HTK.out, HQ.out, if_neg h0, HI.out]; rfl)
    clear h0
    go_wp2_with fail
    refine HR.out.mono ?_
    rintro e w5 ⟨rfl, hb5⟩
    have HB5 := Lib.hid (HBA.out.trans (hb5.mono HBA.out.size))
    clear hb5 HR ca HKA HBA
    go_wp2
    go_roundw
    case rel => exact ⟨k + 1, rfl, by go_num, by omega, HI2, HB5⟩
    case measure => simp [intOf]; omega
  ·obtain rfl : k = n := by omega
   have HO := Lib.hid (chkO_none (p := xa) HI.out)
   have HF := Lib.hid (HB.out.trans (HBE.out.mono HB.out.size))
   go_wp2
   refine bodyPost_ret (v := .tuple #[.slice none 0 0, .int .i64 0, .bool true, .int .i64 0]) (by simp [results, Tryd.results14, go_sem]) rfl ?_
   rw [HO.out]
   exact ⟨_, rfl, World.ownsRow_nil _ _ _ _, HF.out⟩
end Go.Proofs.YtcchnibgehonoaaDoor

/- Walks: Supremal at a right problem. -/
namespace Go.Proofs.YtcchnibgehonoaaDoor
open Go

section
variable {md : Region.Mode} {Q : Exit → Act → World → Prop} {A B : World → Prop} {q : Nat} {P : Program} {l : List Oper}
/-- Two that may come up. -/
theorem uTwo {i j : Nat} {oi oj : Oper} {r r' : List Oper} {f : Nat} {listed : Array Bool} {a : Act} {w : World} (hi : l.drop i = oi :: r) (hj : l.drop j = oj :: r') (hr : Region.ready md l.toArray listed = [i, j])
  (h1 : ∀ K : Act → World → Prop, (∀ a' w', heldU A B q (listed.setIfInBounds i true) w' → anyU P md l.toArray Q A B q f (listed.setIfInBounds i true) a' w' → K a' w') → if Region.wanted oi (yielded l.toArray a.tmps) then oi.wp P a w K Q else K (a.put oi.dst undef) w)
  (h2 : ∀ K : Act → World → Prop, (∀ a' w', heldU A B q (listed.setIfInBounds j true) w' → anyU P md l.toArray Q A B q f (listed.setIfInBounds j true) a' w' → K a' w') → if Region.wanted oj (yielded l.toArray a.tmps) then oj.wp P a w K Q else K (a.put oj.dst undef) w) :
  anyU P md l.toArray Q A B q (f + 1) listed a w := by
 refine ⟨fun h0 => (by rw [hr] at h0; cases h0), fun k hk => ?_⟩
 rw [hr] at hk
 have hk' : k = i ∨ k = j := by simpa using hk
 rcases hk' with rfl | rfl
 ·have := h1 (fun a' w' => heldU A B q (listed.setIfInBounds k true) w' ∧ anyU P md l.toArray Q A B q f (listed.setIfInBounds k true) a' w') (fun a' w' h1 h2 => ⟨h1, h2⟩)
  unfold wpOp
  simp only [at_drop hi]
  split
  ·rename_i hw; rw [if_pos hw] at this; exact .inl this
  ·rename_i hw; rw [if_neg hw] at this; exact this
 ·have := h2 (fun a' w' => heldU A B q (listed.setIfInBounds k true) w' ∧ anyU P md l.toArray Q A B q f (listed.setIfInBounds k true) a' w') (fun a' w' h1 h2 => ⟨h1, h2⟩)
  unfold wpOp
  simp only [at_drop hj]
  split
  ·rename_i hw; rw [if_pos hw] at this; exact .inl this
  ·rename_i hw; rw [if_neg hw] at this; exact this
end
open Go.RowKit Go.Maps
theorem own_ne_blk {w : World} {base : Nat} {e t : TypeId} {size n b : Nat} {v : Value} {xs vs : List Value} (h : w.ownsRow base e size v n xs) (hk : Blk w b t vs) (hne : e ≠ t) : v.ownBlock = none ∨ v.ownBlock ≠ some b := by
 rcases h.2 with ⟨rfl, _⟩ | ⟨g, cap, cur, rfl, _, hg, _⟩
 ·exact .inl rfl
 ·right
  intro e0
  simp only [Value.ownBlock, Option.some.injEq] at e0
  subst e0
  rw [show w.heap[g]? = _ from hk] at hg
  injection hg with hg
  injection hg with _ h2 _
  exact hne h2.symm
/-- a variable of the call's own that holds an automaton of the call's own, and its result's box -/
structure VarO (B rb o : Nat) (w0 w : World) (A : Option Addr) (na ca : Nat) (M : Option Addr) (nm cm : Nat) (E : Option Addr) (ne ce : Nat) (a : Aut) : Prop where
 bel : Below B w0 w
 res : Blk w rb 25 [.slice none 0 0, .int .i64 0, .slice none 0 0, .slice none 0 0]
 var : Blk w o 25 [.slice A na ca, .int .i64 a.st, .slice M nm cm, .slice E ne ce]
 own : AutO w (rb + 1) A na ca M nm cm E ne ce a
 lt : B ≤ rb ∧ rb < o
section
variable {B rb o : Nat} {w0 w w' : World} {A M E : Option Addr} {na ca nm cm ne ce : Nat} {a : Aut}
theorem AutO.keepB {b : Nat} {vs : List Value} (h : AutO w b A na ca M nm cm E ne ce a) (hk : Blk w o 25 vs) (hg : w.grownBy w' (some o)) : AutO w' b A na ca M nm cm E ne ce a :=
 ⟨h.la, h.oa.kept hg (own_ne_blk h.oa hk (by decide)), h.lm, h.om.kept hg (own_ne_blk h.om hk (by decide)), h.le, h.oe.kept hg (own_ne_blk h.oe hk (by decide))⟩
theorem grown_set4 (w : World) (b : Nat) (v0 v1 v2 v3 : Value) : w.grownBy ((((w.setCell ⟨b, 0, none⟩ v0).setCell ⟨b, 1, none⟩ v1).setCell ⟨b, 2, none⟩ v2).setCell ⟨b, 3, none⟩ v3) (some b) :=
 (((grown_setCell _ _ _ _).trans (grown_setCell _ _ _ _)).trans (grown_setCell _ _ _ _)).trans (grown_setCell _ _ _ _)
theorem below_set4 {w0 w : World} {b B : Nat} {v0 v1 v2 v3 : Value} (h : Below B w0 w) (hb : B ≤ b) : Below B w0 ((((w.setCell ⟨b, 0, none⟩ v0).setCell ⟨b, 1, none⟩ v1).setCell ⟨b, 2, none⟩ v2).setCell ⟨b, 3, none⟩ v3) :=
 (((h.setCell (p := ⟨b, 0, none⟩) hb _).setCell (p := ⟨b, 1, none⟩) hb _).setCell (p := ⟨b, 2, none⟩) hb _).setCell (p := ⟨b, 3, none⟩) hb _
theorem Blk.set4 {b : Nat} {t : TypeId} {v0 v1 v2 v3 : Value} (h : Blk w b t [v0, v1, v2, v3]) (u0 u1 u2 u3 : Value) : Blk ((((w.setCell ⟨b, 0, none⟩ u0).setCell ⟨b, 1, none⟩ u1).setCell ⟨b, 2, none⟩ u2).setCell ⟨b, 3, none⟩ u3) b t [u0, u1, u2, u3] :=
 (((h.set (j := 0) (by simp) u0).set (j := 1) (by simp) u1).set (j := 2) (by simp) u2).set (j := 3) (by simp) u3
/-- laid anew -/
theorem VarO.new (hb : Below B w0 w) (hr : Blk w rb 25 [.slice none 0 0, .int .i64 0, .slice none 0 0, .slice none 0 0]) (ho : AutO w (rb + 1) A na ca M nm cm E ne ce a) (hl : B ≤ rb) :
  VarO B rb w.heap.size w0 (w.alloc (.cells #[.slice A na ca, .int .i64 a.st, .slice M nm cm, .slice E ne ce] 25)) A na ca M nm cm E ne ce a :=
 have hx := box_below w (.cells #[.slice A na ca, .int .i64 a.st, .slice M nm cm, .slice E ne ce] 25)
 ⟨hb.alloc (Nat.le_trans hl (Nat.le_of_lt hr.lt)) _, hr.below hx hr.lt, Blk.new _ _ [_, _, _, _], ho.below hx, hl, hr.lt⟩
/-- stored into a block that was there -/
theorem VarO.put {v0 v1 v2 v3 : Value} (hb : Below B w0 w) (hr : Blk w rb 25 [.slice none 0 0, .int .i64 0, .slice none 0 0, .slice none 0 0]) (hk : Blk w o 25 [v0, v1, v2, v3]) (ho : AutO w (rb + 1) A na ca M nm cm E ne ce a) (hl : B ≤ rb) (hro : rb < o) :
  VarO B rb o w0 ((((w.setCell ⟨o, 0, none⟩ (.slice A na ca)).setCell ⟨o, 1, none⟩ (.int .i64 a.st)).setCell ⟨o, 2, none⟩ (.slice M nm cm)).setCell ⟨o, 3, none⟩ (.slice E ne ce)) A na ca M nm cm E ne ce a :=
 ⟨below_set4 hb (by omega), hr.kept (grown_set4 _ _ _ _ _ _) (by intro e; injection e with e; omega), hk.set4 _ _ _ _, ho.keepB hk (grown_set4 _ _ _ _ _ _), hl, hro⟩
theorem VarO.quiet (h : VarO B rb o w0 w A na ca M nm cm E ne ce a) (hb : Below w.heap.size w w') : VarO B rb o w0 w' A na ca M nm cm E ne ce a :=
 ⟨h.bel.trans (hb.mono (by have := h.res.lt; have := h.lt.1; omega)), h.res.below hb h.res.lt, h.var.below hb h.var.lt, h.own.below hb, h.lt⟩
/-- its marks are put anew -/
theorem VarO.mark (h : VarO B rb o w0 w A na ca M nm cm E ne ce a) {M2 : Option Addr} {n2 c2 : Nat} {mk : List Int} (ho : w.ownsRow (rb + 1) 3 1 (.slice M2 n2 c2) n2 (iv mk)) (hl : mk.length = n2) :
  VarO B rb o w0 (w.setCell ⟨o, 2, none⟩ (.slice M2 n2 c2)) A na ca M2 n2 c2 E ne ce ⟨a.al, a.st, mk, a.ed⟩ := by
 have hg := grown_setCell w o 2 (.slice M2 n2 c2)
 have hk := h.own.keepB h.var hg
 have hlt := h.lt
 exact ⟨h.bel.setCell (by show B ≤ o; omega) _, h.res.kept hg (by intro e; injection e with e; omega), h.var.set (by simp) _, ⟨hk.la, hk.oa, hl, ho.kept hg (own_ne_blk ho h.var (by decide)), hk.le, hk.oe⟩, hlt⟩
/-- handed back in the result's box -/
theorem VarO.fin (h : VarO B rb o w0 w A na ca M nm cm E ne ce a) : let w' := ((((w.setCell ⟨rb, 0, none⟩ (.slice A na ca)).setCell ⟨rb, 1, none⟩ (.int .i64 a.st)).setCell ⟨rb, 2, none⟩ (.slice M nm cm)).setCell ⟨rb, 3, none⟩ (.slice E ne ce))
  Blk w' rb 25 [.slice A na ca, .int .i64 a.st, .slice M nm cm, .slice E ne ce] ∧ AutO w' B A na ca M nm cm E ne ce a ∧ Below B w0 w' :=
 ⟨h.res.set4 _ _ _ _, (h.own.keepB h.res (grown_set4 _ _ _ _ _ _)).down (by have := h.lt; omega), below_set4 h.bel h.lt.1⟩
end

/-- the states that the supremal language keeps -/
def supK (P R : Aut) (U : List Int) (p : Aut) (T : List (List Int)) (n : Nat) : List Int := minS (rngI (n : Int)) (clS p.ed U true n (badI P R U T n))
/-- all states marked -/
def mrkA (a : Aut) : Aut := ⟨a.al, a.st, rngI a.st, a.ed⟩
/-- Supremal's answer -/
def supA (P R : Aut) (U : List Int) (p : Aut) (T : List (List Int)) (n : Nat) : Aut := mrkA (witA p (supK P R U p T n))
end Go.Proofs.YtcchnibgehonoaaDoor
