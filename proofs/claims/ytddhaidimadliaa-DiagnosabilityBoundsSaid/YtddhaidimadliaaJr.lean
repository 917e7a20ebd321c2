/- Walks: slices.Reverse at moves. -/
import Derived.Test.YtddhaidimadliaaJi
import Derived.Test.YtddhaidimadliaaUr
import Derived.Deep.MidRow
import Derived.Test.YtddhaidimadliaaJl
import Derived.Maps.Own
import Derived.Maps.OwnOps
import Derived.Maps.OwnSet
namespace Go.Proofs.Ytddhaidimadliaa
open Go.RowKit Go

/-- a list of which the outer parts are exchanged -/
def revG {α : Type} (l m : List α) (i : Nat) : Prop := m.length = l.length ∧ ∀ k, k < l.length → m[k]? = if k < i ∨ l.length ≤ k + i then l[l.length - 1 - k]? else l[k]?
theorem revG_start {α : Type} (l : List α) : revG l l 0 := ⟨rfl, fun k hk => by rw [if_neg (by omega)]⟩
theorem revG_end {α : Type} {l m : List α} {i : Nat} (h : revG l m i) (hi : l.length ≤ 2 * i + 1) : m = l.reverse := by
 refine List.ext_getElem? fun k => ?_
 by_cases hk : k < l.length
 ·rw [h.2 k hk, List.getElem?_reverse hk]
  by_cases hc : k < i ∨ l.length ≤ k + i
  ·rw [if_pos hc]
  ·rw [if_neg hc, show l.length - 1 - k = k by omega]
 ·rw [List.getElem?_eq_none (by rw [h.1]; omega), List.getElem?_eq_none (by rw [List.length_reverse]; omega)]
theorem revG_step {α : Type} {l m : List α} {i j : Nat} {a b : α} (h : revG l m i) (hj : i + j + 1 = l.length) (hi : i < j) (ha : m[i]? = some a) (hb : m[j]? = some b) : revG l ((m.set i b).set j a) (i + 1) := by
 refine ⟨by rw [List.length_set, List.length_set, h.1], fun k hk => ?_⟩
 have h1 := h.2 i (by omega)
 have h2 := h.2 j (by omega)
 rw [if_neg (by omega), ha] at h1
 rw [if_neg (by omega), hb] at h2
 rw [List.getElem?_set, List.getElem?_set]
 by_cases hkj : j = k
 ·subst hkj
  rw [if_pos rfl, if_pos (by rw [List.length_set, h.1]; omega), if_pos (by omega), show l.length - 1 - j = i by omega, ← h1]
 ·rw [if_neg hkj]
  by_cases hki : i = k
  ·subst hki
   rw [if_pos rfl, if_pos (by rw [h.1]; omega), if_pos (by omega), show l.length - 1 - i = j by omega, ← h2]
  ·rw [if_neg hki, h.2 k hk]
   by_cases hc : k < i ∨ l.length ≤ k + i
   ·rw [if_pos hc, if_pos (by omega)]
   ·rw [if_neg hc, if_neg (by omega)]
/-- some cells exchanged -/
def setL : List Value → Nat → List Value → List Value
 | L, _, [] => L
 | L, o, v :: vs => setL (L.set o v) (o + 1) vs
theorem setL_app : ∀ (vs A B : List Value) (o : Nat), setL (A ++ B) (A.length + o) vs = A ++ setL B o vs
 | [], _, _, _ => rfl
 | v :: vs, A, B, o => by
  rw [setL, setL, List.set_append, if_neg (by omega), show A.length + o - A.length = o by omega]
  exact setL_app vs A (B.set o v) (o + 1)
theorem setL_mv (x : Ed) (rest : List Value) : ∀ (m : List Ed) (i : Nat), i < m.length → setL (m.flatMap mvc ++ rest) (i * 4) (mvc x) = (m.set i x).flatMap mvc ++ rest
 | [], i, h => by simp at h
 | y :: m, 0, _ => by
  rw [List.set_cons_zero, List.flatMap_cons, List.flatMap_cons]
  rfl
 | y :: m, i + 1, h => by
  rw [List.set_cons_succ, List.flatMap_cons, List.flatMap_cons, List.append_assoc, List.append_assoc, show (i + 1) * 4 = (mvc y).length + i * 4 by rw [Nat.succ_mul, show (mvc y).length = 4 from rfl]; omega, setL_app]
  rw [setL_mv x rest m i (by simpa using h)]
theorem Blk.sets {b : Nat} {t : TypeId} : ∀ (vs : List Value) {w : World} {L : List Value} {o : Nat}, Blk w b t L → o + vs.length ≤ L.length → Blk (w.setCells b o vs) b t (setL L o vs) ∧ w.grownBy (w.setCells b o vs) (some b)
 | [], w, L, o, h, _ => ⟨h, grown_refl _ _⟩
 | v :: vs, w, L, o, h, hl => by
  rw [List.length_cons] at hl
  have h1 := h.set (j := o) (by omega) v
  obtain ⟨h2, h3⟩ := Blk.sets vs h1 (o := o + 1) (by rw [List.length_set]; omega)
  exact ⟨h2, (grown_setCell w b o v).trans h3⟩
theorem Blk.there {b : Nat} {t : TypeId} {w : World} {L : List Value} (h : Blk w b t L) {o n : Nat} (hl : o + n ≤ L.length) : w.there b o n := fun i hi => by
 have h1 := h.cell (j := o + i) (List.getElem?_eq_getElem (by omega))
 have h2 := h.free (o + i)
 exact ⟨by rw [h1]; rfl, h2⟩
theorem step_store {P : Program} {ops : Array Oper} {o : Oper} {a : Act} {K : Act → World → Prop} {Q : Exit → Act → World → Prop} {E : Prop} {w : World} (hgd : o.guard = none) (ty : TypeId) (x y : Operand) (ho : o.op = .store ty x y)
  (b of : Nat) (cells : Array Value) (hx : a.eval x = .pointer (some ⟨b, of, none⟩)) (hy : a.eval y = .agg cells) (ht : w.there b of cells.size) (hi : (P.info? ty).map (·.size) = some cells.size) (h1 : cells.all (·.oneCell') = true)
  (h : K (a.put o.dst undef) (w.setCells b of cells.toList)) : if Region.wanted o (yielded ops a.tmps) = true then Oper.wp P o a w K Q else E := by
 rw [if_pos (by simp [Region.wanted, hgd])]
 exact wp_store_mid ty x y ho b of cells hx hy ht hi h1 h
theorem mov_size : (Try.prog.info? 62).map (·.size) = some 4 := by kernel_rfl
theorem mv_cells {w : World} {g : Nat} {t : TypeId} {m : List Ed} {rest : List Value} (h : Blk w g t (m.flatMap mvc ++ rest)) {i : Nat} {x : Ed} (hx : m[i]? = some x) {e r : Int} (he : x.e / 3 = e) (hr : x.e % 3 = r) :
  w.cell? ⟨g, i * 4, none⟩ = some (.int .i64 x.f) ∧ w.cell? ⟨g, i * 4 + 1, none⟩ = some (.int .i64 e) ∧ w.cell? ⟨g, i * 4 + 2, none⟩ = some (.int .i64 r) ∧ w.cell? ⟨g, i * 4 + 3, none⟩ = some (.int .i64 x.t) := by
 have hg : ∀ (j : Nat) (u : Value), (mvc x)[j]? = some u → w.cell? ⟨g, i * 4 + j, none⟩ = some u := fun j u hu => h.cell (by
  have h1 := flat_get mvc 4 m (fun _ _ => rfl) i x j u hx hu
  rw [List.getElem?_append_left (List.getElem?_eq_some_iff.1 h1).1]; exact h1)
 subst he hr
 exact ⟨hg 0 _ rfl, hg 1 _ rfl, hg 2 _ rfl, hg 3 _ rfl⟩
set_option maxRecDepth 100000 in
set_option maxHeartbeats 3200000 in
theorem reverse_mv_blk (g n c : Nat) (l : List Ed) (rest : List Value) (w : World) (hl : l.length = n) (h : Blk w g 62 (l.flatMap mvc ++ rest)) (hn : n ≤ 1000000) :
  Calls Try.prog 115 #[.slice (some ⟨g, 0, none⟩) n c] w fun e w' => e = .returned (.tuple #[]) ∧ Blk w' g 62 (l.reverse.flatMap mvc ++ rest) ∧ w.grownBy w' (some g) := by
 have HL := Lib.hid hl; clear hl
 have HB := Lib.hid h; clear h
 go_enter Try.func115, Try.ntmps115
 go_wp2
 go_loopw [2, 3] (fun s2 s3 wr => ∃ (i : Nat) (m : List Ed), s2 = .int .i64 i ∧ s3 = .int .i64 ((n : Int) - 1 - i) ∧ i ≤ n ∧ Hid (revG l m i) ∧ Hid (Blk wr g 62 (m.flatMap mvc ++ rest)) ∧ Hid (w.grownBy wr (some g))) (fun s2 _ _ => n - (intOf s2).toNat)
 case atStart => exact ⟨0, l, rfl, by go_num, Nat.zero_le _, Lib.hid (revG_start l), HB, Lib.hid (grown_refl _ _)⟩
 case round =>
  clear HB
  obtain ⟨i, m, rfl, rfl, hi, HR, HM, HG⟩ := hrel
  by_cases hlt : (i : Int) < (n : Int) - 1 - i
  ·obtain ⟨j, hj⟩ : ∃ j : Nat, (n : Int) - 1 - i = j := ⟨n - 1 - i, by omega⟩
   have hjn : i + j + 1 = n := by omega
   rw [hj] at hlt ⊢
   have HJ := Lib.hid hj
   have hml : m.length = n := HR.out.1.trans HL.out
   obtain ⟨a, ha⟩ : ∃ a, m[i]? = some a := ⟨_, List.getElem?_eq_getElem (by omega)⟩
   obtain ⟨b, hb⟩ : ∃ b, m[j]? = some b := ⟨_, List.getElem?_eq_getElem (by omega)⟩
   have b0 : (i : Int) < (n : Int) := by omega
   have b1 : (j : Int) < (n : Int) := by omega
   have hm1 := HM.out.below (below_dr wr) HM.out.lt
   have hg1 := HG.out.trans (grown_below (below_dr wr) (some g))
   have hrv := revG_step HR.out (by rw [HL.out]; exact hjn) (by omega) ha hb
   obtain ⟨ae, hae⟩ : ∃ q, a.e / 3 = q := ⟨_, rfl⟩
   obtain ⟨ar, har⟩ : ∃ q, a.e % 3 = q := ⟨_, rfl⟩
   obtain ⟨be, hbe⟩ : ∃ q, b.e / 3 = q := ⟨_, rfl⟩
   obtain ⟨br, hbr⟩ : ∃ q, b.e % 3 = q := ⟨_, rfl⟩
   have HMA := Lib.hid (show mvc a = [.int .i64 a.f, .int .i64 ae, .int .i64 ar, .int .i64 a.t] by unfold mvc; rw [hae, har])
   have HMB := Lib.hid (show mvc b = [.int .i64 b.f, .int .i64 be, .int .i64 br, .int .i64 b.t] by unfold mvc; rw [hbe, hbr])
   go_upto_region 3 with fail
   refine wp_region_U (fun _ => True) (fun W => (W.cell? ⟨g, j * 4, none⟩ = some (.int .i64 b.f) ∧ W.cell? ⟨g, j * 4 + 1, none⟩ = some (.int .i64 be) ∧ W.cell? ⟨g, j * 4 + 2, none⟩ = some (.int .i64 br) ∧ W.cell? ⟨g, j * 4 + 3, none⟩ = some (.int .i64 b.t)) ∧ W.cell? ⟨g, i * 4, none⟩ = some (.int .i64 a.f) ∧ W.cell? ⟨g, i * 4 + 1, none⟩ = some (.int .i64 ae) ∧ W.cell? ⟨g, i * 4 + 2, none⟩ = some (.int .i64 ar) ∧ W.cell? ⟨g, i * 4 + 3, none⟩ = some (.int .i64 a.t)) 13 (by kernel_rfl) ?_
   change anyU _ _ _ _ _ _ _ 16 _ _ _
   generalize wr.drew = wd at hm1 hg1 ⊢
   have hB0 : (wd.cell? ⟨g, j * 4, none⟩ = some (.int .i64 b.f) ∧ wd.cell? ⟨g, j * 4 + 1, none⟩ = some (.int .i64 be) ∧ wd.cell? ⟨g, j * 4 + 2, none⟩ = some (.int .i64 br) ∧ wd.cell? ⟨g, j * 4 + 3, none⟩ = some (.int .i64 b.t)) ∧ wd.cell? ⟨g, i * 4, none⟩ = some (.int .i64 a.f) ∧ wd.cell? ⟨g, i * 4 + 1, none⟩ = some (.int .i64 ae) ∧ wd.cell? ⟨g, i * 4 + 2, none⟩ = some (.int .i64 ar) ∧ wd.cell? ⟨g, i * 4 + 3, none⟩ = some (.int .i64 a.t) := ⟨mv_cells hm1 hb hbe hbr, mv_cells hm1 ha hae har⟩
   have hlen : ∀ m : List Ed, m.length = n → (m.flatMap mvc ++ rest).length = n * 4 + rest.length := fun m hm => by rw [List.length_append, flat_len mvc 4 m (fun _ _ => rfl), hm]
   have hs2 := hm1.sets (mvc b) (o := i * 4) (by rw [hlen m hml, show (mvc b).length = 4 from rfl]; omega)
   rw [setL_mv b rest m i (by omega)] at hs2
   have hml2 : (m.set i b).length = n := by rw [List.length_set]; exact hml
   have hs3 := hs2.1.sets (mvc a) (o := j * 4) (by rw [hlen _ hml2, show (mvc a).length = 4 from rfl]; omega)
   rw [setL_mv a rest _ j (by omega)] at hs3
   have ht1 := hm1.there (o := i * 4) (n := 4) (by rw [hlen m hml]; omega)
   have ht2 := hs2.1.there (o := j * 4) (n := 4) (by rw [hlen _ hml2]; omega)
   rw [HMB.out] at ht2 hs2 hs3
   rw [HMA.out] at hs3
   have HT1 := Lib.hid ht1
   have HT2 := Lib.hid ht2
   have HM3 := Lib.hid hs3.1
   have HG3 := Lib.hid ((hg1.trans hs2.2).trans hs3.2)
   have HRV := Lib.hid hrv
   clear hm1 hs2 hs3 hg1 hrv ha hb hml hml2 hlen HM HG HR hj ht1 ht2 hae har hbe hbr
   have hA0 : True := trivial
   (refine uA 0 ?_ rfl hA0 hB0 (fun W hA => ?_) ?_; rotate_left; (· (go_simp; try with_reducible rfl)); refine uA 1 ?_ rfl hA0 hB0 (fun W hA => ?_) ?_; rotate_left; (· (go_simp; try with_reducible rfl)); refine uA 2 ?_ rfl hA0 hB0 (fun W hA => ?_) ?_; rotate_left; (· (go_simp; try with_reducible rfl)); refine uA 3 ?_ rfl hA0 hB0 (fun W hA => ?_) ?_; rotate_left; (· (go_simp; try with_reducible rfl)); refine uA 4 ?_ rfl hA0 hB0 (fun W hA => ?_) ?_; rotate_left; (· (go_simp; try with_reducible rfl)); refine uA 5 ?_ rfl hA0 hB0 (fun W hA => ?_) ?_; rotate_left; (· (go_simp; try with_reducible rfl)); refine uA 6 ?_ rfl hA0 hB0 (fun W hA => ?_) ?_; rotate_left; (· (go_simp; try with_reducible rfl)); (try simp only [Act.put, List.setIfInBounds_toArray, List.set_cons_zero, List.set_cons_succ]))
   (refine uB 7 ?_ rfl hA0 hB0 (fun W hA hB => ?_) ?_; rotate_left; (· (obtain ⟨⟨h0, h1, h2, h3⟩, h4, h5, h6, h7⟩ := hB; go_simp; try with_reducible rfl)); (try simp only [Act.put, List.setIfInBounds_toArray, List.set_cons_zero, List.set_cons_succ]))
   (refine uA 8 ?_ rfl hA0 hB0 (fun W hA => ?_) ?_; rotate_left; (· (go_simp; try with_reducible rfl)); refine uA 9 ?_ rfl hA0 hB0 (fun W hA => ?_) ?_; rotate_left; (· (go_simp; try with_reducible rfl)); refine uA 10 ?_ rfl hA0 hB0 (fun W hA => ?_) ?_; rotate_left; (· (go_simp; try with_reducible rfl)); (try simp only [Act.put, List.setIfInBounds_toArray, List.set_cons_zero, List.set_cons_succ]))
   (refine uB 11 ?_ rfl hA0 hB0 (fun W hA hB => ?_) ?_; rotate_left; (· (obtain ⟨⟨h0, h1, h2, h3⟩, h4, h5, h6, h7⟩ := hB; go_simp; try with_reducible rfl)); (try simp only [Act.put, List.setIfInBounds_toArray, List.set_cons_zero, List.set_cons_succ]))
   (refine uA 12 ?_ rfl hA0 hB0 (fun W hA => ?_) ?_; rotate_left; (· (go_simp; try with_reducible rfl)); (try simp only [Act.put, List.setIfInBounds_toArray, List.set_cons_zero, List.set_cons_succ]))
   refine uOne (i := 13) rfl (by kernel_rfl) (fun K hK => ?_)
   refine step_store rfl 62 (.tmp 26) (.tmp 21) rfl g (i * 4) #[.int .i64 b.f, .int .i64 be, .int .i64 br, .int .i64 b.t] rfl rfl HT1.out mov_size (all_oneCell_toArray (mov_one _ _ _ _)) ?_
   (refine hK _ _ ⟨hA0, fun h => absurd (h.symm.trans (by kernel_rfl : _ = true)) Bool.false_ne_true⟩ ?_; clear hK K; simp only [Act.put])
   clear hB0
   refine uOne (i := 14) rfl (by kernel_rfl) (fun K hK => ?_)
   go_simp
   (refine hK _ _ ⟨hA0, fun h => absurd (h.symm.trans (by kernel_rfl : _ = true)) Bool.false_ne_true⟩ ?_; clear hK K)
   refine uOne (i := 15) rfl (by kernel_rfl) (fun K hK => ?_)
   refine step_store rfl 62 (.tmp 27) (.tmp 25) rfl g (j * 4) #[.int .i64 a.f, .int .i64 ae, .int .i64 ar, .int .i64 a.t] rfl rfl HT2.out mov_size (all_oneCell_toArray (mov_one _ _ _ _)) ?_
   (refine hK _ _ ⟨hA0, fun h => absurd (h.symm.trans (by kernel_rfl : _ = true)) Bool.false_ne_true⟩ ?_; clear hK K; simp only [Act.put])
   refine anyU_done (by kernel_rfl) ?_ _
   clear hA0
   generalize (wd.setCells g (i * 4) [.int .i64 b.f, .int .i64 be, .int .i64 br, .int .i64 b.t]).setCells g (j * 4) [.int .i64 a.f, .int .i64 ae, .int .i64 ar, .int .i64 a.t] = w9 at HM3 HG3 ⊢
   go_wp2
   go_roundw
   case rel => exact ⟨i + 1, _, by go_num, by have := HJ.out; go_num, by omega, HRV, HM3, HG3⟩
   case measure => simp [intOf]; omega
  ·have he := revG_end HR.out (by rw [HL.out]; omega)
   have hm := HM.out
   rw [he] at hm
   have HMM := Lib.hid hm; clear hm
   clear he
   go_wp2
   go_end0
   exact ⟨rfl, HMM.out, HG.out⟩
theorem reverse_mv_nil (w : World) : Calls Try.prog 115 #[.slice none 0 0] w fun e w' => e = .returned (.tuple #[]) ∧ w = w' := by
 go_enter Try.func115, Try.ntmps115
 go_wp2
 go_loopw [2, 3] (fun s2 s3 wr => s2 = .int .i64 0 ∧ s3 = .int .i64 (-1) ∧ w = wr) (fun s2 _ _ => 0)
 case atStart => exact ⟨rfl, rfl, rfl⟩
 case round =>
  obtain ⟨rfl, rfl, rfl⟩ := hrel
  go_wp2
  go_end0
  exact ⟨rfl, rfl⟩
theorem reverse_mv (base n : Nat) (v : Value) (l : List Ed) (w : World) (h : w.ownsRow base 62 4 v n (l.flatMap mvc)) (hl : l.length = n) (hn : n ≤ 1000000) :
  Calls Try.prog 115 #[v] w fun e w' => e = .returned (.tuple #[]) ∧ w'.ownsRow base 62 4 v n (l.reverse.flatMap mvc) ∧ w.grownBy w' v.ownBlock := by
 have hfl : ∀ m : List Ed, (m.flatMap mvc).length = m.length * 4 := fun m => flat_len mvc 4 m (fun _ _ => rfl)
 rcases h.2 with ⟨rfl, rfl⟩ | ⟨g, cap, cur, rfl, hb, hg, h1, h2, h3, h4⟩
 ·obtain rfl : l = [] := List.eq_nil_of_length_eq_zero hl
  exact (reverse_mv_nil w).mono fun e w' ⟨he, hw⟩ => by subst hw; exact ⟨he, h, grown_refl _ _⟩
 ·have hk : Blk w g 62 (l.flatMap mvc ++ cur.toList.drop (n * 4)) := by
   show w.heap[g]? = _
   rw [hg, ← h4, List.take_append_drop]
  refine (reverse_mv_blk g n cap l (cur.toList.drop (n * 4)) w hl hk hn).mono fun e w' ⟨he, hk', hgr⟩ => ⟨he, ⟨by rw [hfl, List.length_reverse, hl], .inr ⟨g, cap, (l.reverse.flatMap mvc ++ cur.toList.drop (n * 4)).toArray, rfl, hb, hk', h1, h2, ?_, ?_⟩⟩, hgr⟩
  ·rw [List.size_toArray, List.length_append, hfl, List.length_reverse, hl, List.length_drop, Array.length_toList]; omega
  ·show (l.reverse.flatMap mvc ++ cur.toList.drop (n * 4)).take _ = _
   rw [List.take_append_of_le_length (by rw [hfl, List.length_reverse, hl]; exact Nat.le_refl _), List.take_of_length_le (by rw [hfl, List.length_reverse, hl]; exact Nat.le_refl _)]
end Go.Proofs.Ytddhaidimadliaa

/- Words on maps from ints to moves; the memory of diagnosability.twin.path. -/
namespace Go.Proofs.Ytddhaidimadliaa
open Go.RowKit Go Go.Maps

/-- how a move reads -/
def mvR : Value → Option (DataW Unit × List MemPlace)
 | .agg ⟨[.int .i64 a, .int .i64 b, .int .i64 c, .int .i64 d]⟩ => some (.agg [.lit (.int .i64 a), .lit (.int .i64 b), .lit (.int .i64 c), .lit (.int .i64 d)], [])
 | _ => none
def datM (x : Ed) : DataW Unit := .agg [.lit (.int .i64 x.f), .lit (.int .i64 (x.e / 3)), .lit (.int .i64 (x.e % 3)), .lit (.int .i64 x.t)]
theorem mvR_inv {v : Value} {z : DataW Unit} {ps : List MemPlace} (h : mvR v = some (z, ps)) : ∃ a b c d : Int, v = .agg #[.int .i64 a, .int .i64 b, .int .i64 c, .int .i64 d] ∧ z = .agg [.lit (.int .i64 a), .lit (.int .i64 b), .lit (.int .i64 c), .lit (.int .i64 d)] := by
 unfold mvR at h
 split at h
 ·rename_i a b c d
  injection h with h
  injection h with h _
  exact ⟨a, b, c, d, rfl, h.symm⟩
 ·cases h
/-- Block b is a map of at most n entries that says g. -/
def TabM (P : Program) (K : TypeId) (w : World) (b n : Nat) (g : Int → Option Ed) : Prop :=
 ∃ D : DataW Unit, w.ownsMap P K mvR b n D ∧ ∀ (a : Int) (kl : Lit), keyOf P K (.int .i64 a) = some kl → Maps.has D kl = (g a).isSome ∧ ∀ x, g a = some x → D.atKey kl (datM ⟨0, 0, 0⟩) = datM x
section
variable {P : Program} {K E : TypeId} {w w' : World} {b n : Nat} {g : Int → Option Ed}
theorem TabM.lt (h : TabM P K w b n g) : b < w.heap.size := by
 obtain ⟨D, h1, h2⟩ := h
 exact h1.lt
theorem TabM.kept (h : TabM P K w b n g) {row : Option Nat} (hg : w.grownBy w' row) (hne : some b ≠ row) : TabM P K w' b n g := by
 obtain ⟨D, h1, h2⟩ := h
 exact ⟨D, h1.kept hg hne, h2⟩
theorem TabM.block (h : TabM P K w b n g) (he : w'.heap[b]? = w.heap[b]?) : TabM P K w' b n g := by
 obtain ⟨D, ⟨es, clock, hb, F, hs, hD⟩, h2⟩ := h
 exact ⟨D, ⟨es, clock, he.trans hb, F, hs, hD⟩, h2⟩
theorem TabM.below (h : TabM P K w b n g) (hb : Below w.heap.size w w') : TabM P K w' b n g := h.block (hb.block b h.lt)
theorem TabM.made (w : World) (P : Program) (K : TypeId) : TabM P K (w.alloc (.map #[] 0)) w.heap.size 0 (fun _ => none) :=
 ⟨_, World.ownsMap_made _ _ _ _, fun a kl _ => ⟨by simp [Maps.has_eq], fun x hx => by cases hx⟩⟩
theorem TabM.ne {base : Nat} {e : TypeId} {size m : Nat} {v : Value} {xs : List Value} (h : TabM P K w b n g) (ho : w.ownsRow base e size v m xs) : some b ≠ v.ownBlock := by
 obtain ⟨D, ⟨es, clock, hb, _⟩, _⟩ := h
 intro e
 rcases ho.2 with ⟨rfl, _⟩ | ⟨q, cap, cur, rfl, _, hq, _⟩
 ·cases e
 ·injection e with e
  subst e
  rw [show w.heap[b]? = some (.map es clock) from hb] at hq
  cases hq
theorem TabM.neB {t : TypeId} {vs : List Value} {q : Nat} (h : TabM P K w b n g) (hk : Blk w q t vs) : b ≠ q := by
 obtain ⟨D, ⟨es, clock, hb, _⟩, _⟩ := h
 rintro rfl
 have := hk.symm.trans hb
 cases this
theorem wpList_tabM_look {ops : Array Oper} {rest : List Oper} {o : Oper} {a : Act} {Q : Exit → Act → World → Prop} (hg : o.guard = none) (m x : Operand) (t : TypeId) (hop : o.op = Op.lookup t m x true)
  (KK : Keyed P K) (ht : P.underlying t = some (.map K E)) (hz : (zeroValue E).run P w = .ok (.agg #[.int .i64 0, .int .i64 0, .int .i64 0, .int .i64 0]) w)
  (hm : a.eval m = .map (some b)) (h : TabM P K w b n g) (c : Int) (hx : a.eval x = .int .i64 c) (hk : ∃ kl, keyOf P K (.int .i64 c) = some kl)
  (hK : ∀ y1 y2 y3 y4 : Int, wpList P ops Q rest (a.put o.dst (.tuple #[.agg #[.int .i64 y1, .int .i64 y2, .int .i64 y3, .int .i64 y4], .bool (g c).isSome])) w) : wpList P ops Q (o :: rest) a w := by
 obtain ⟨D, h1, h2⟩ := h
 obtain ⟨kl, hkl⟩ := hk
 obtain ⟨h3, h4⟩ := h2 c kl hkl
 refine wpList_lookup_own_ok w hg m x t hop K E KK ht mvR hz (datM ⟨0, 0, 0⟩) [] rfl b n D hm h1 _ kl hx hkl ?_
 intro v ps hv
 obtain ⟨y1, y2, y3, y4, rfl, _⟩ := mvR_inv hv
 rw [h3]
 exact hK y1 y2 y3 y4
theorem TabM.run (h : TabM P K w b n g) {t : TypeId} (KK : Keyed P K) (ht : P.underlying t = some (.map K E)) (hz : (zeroValue E).run P w = .ok (.agg #[.int .i64 0, .int .i64 0, .int .i64 0, .int .i64 0]) w)
  (c : Int) (hk : ∃ kl, keyOf P K (.int .i64 c) = some kl) (x : Ed) (hx : g c = some x) : (Instr.lookup t (.map (some b)) (.int .i64 c) false).run P w = .ok (.agg #[.int .i64 x.f, .int .i64 (x.e / 3), .int .i64 (x.e % 3), .int .i64 x.t]) w := by
 obtain ⟨D, h1, h2⟩ := h
 obtain ⟨kl, hkl⟩ := hk
 obtain ⟨h3, h4⟩ := h2 c kl hkl
 obtain ⟨v, ps, hrun, hv⟩ := h1.lookup KK ht hz (show mvR (.agg #[.int .i64 0, .int .i64 0, .int .i64 0, .int .i64 0]) = some (datM ⟨0, 0, 0⟩, []) from rfl) hkl
 rw [h4 x hx] at hv
 obtain ⟨y1, y2, y3, y4, rfl, hz2⟩ := mvR_inv hv
 unfold datM at hz2
 simp only [DataW.agg.injEq, List.cons.injEq, DataW.lit.injEq, Lit.int.injEq, true_and, and_true] at hz2
 obtain ⟨e1, e2, e3, e4⟩ := hz2
 rw [hrun, e1, e2, e3, e4]
theorem wpList_tabM_put {ops : Array Oper} {rest : List Oper} {o : Oper} {a : Act} {Q : Exit → Act → World → Prop} (hg : o.guard = none) (m x v : Operand) (t : TypeId) (hop : o.op = Op.mapUpdate t m x v)
  (KK : Keyed P K) (ht : P.underlying t = some (.map K E))
  (hm : a.eval m = .map (some b)) (h : TabM P K w b n g) (hn : n ≤ 1000000000) (c : Int) (hx : a.eval x = .int .i64 c) (hk : ∃ kl, keyOf P K (.int .i64 c) = some kl) (y : Ed) (hv : a.eval v = .agg #[.int .i64 y.f, .int .i64 (y.e / 3), .int .i64 (y.e % 3), .int .i64 y.t])
  (g' : Int → Option Ed) (hg1 : g' c = some y) (hg2 : ∀ d, d ≠ c → g' d = g d)
  (hK : ∀ w', TabM P K w' b (n + 1) g' → w.grownBy w' (some b) → wpList P ops Q rest (a.put o.dst undef) w') : wpList P ops Q (o :: rest) a w := by
 obtain ⟨D, h1, h2⟩ := h
 obtain ⟨kl, hkl⟩ := hk
 refine wpList_mapUpdate_own w hg m x v t hop K E KK ht mvR b n D hm h1 (by unfold maxLen; omega) _ _ kl hx hv hkl (datM y) [] rfl ?_
 intro w' h3 h4
 refine hK w' ⟨_, h3, fun d kd hkd => ?_⟩ h4
 by_cases hd : d = c
 ·subst hd
  have : kd = kl := by rw [hkl] at hkd; injection hkd with e; exact e.symm
  subst this
  rw [hg1]
  exact ⟨Maps.has_put_same h1.isMap (KK.key hkl) _, fun z hz => by injection hz with hz; subst hz; exact Maps.atKey_put_same h1.isMap (KK.key hkl) _ _⟩
 ·have hne : kd ≠ kl := fun e => hd (by have := KK.inj (by rw [← e]; exact hkd) hkl; injection this)
  rw [hg2 d hd, Maps.has_put_other hne, Maps.atKey_put_other hne]
  exact h2 d kd hkd
end
theorem intLaw : Keyed Try.prog 3 := int_keyed Try.underlying3
theorem intKey (c : Int) (h : (Lit.int .i64 c).wf = true) : ∃ kl, keyOf Try.prog 3 (.int .i64 c) = some kl := ⟨_, keyOf_int_mk Try.underlying3 h⟩
theorem zeroMv (w : World) : (zeroValue 62).run Try.prog w = .ok (.agg #[.int .i64 0, .int .i64 0, .int .i64 0, .int .i64 0]) w := by kernel_rfl
/-- path's memory: what is to be looked at, by which move each was found -/
structure PtS (B o : Nat) (w0 w : World) (tv : Value) (nt : Nat) (fr : Int) (bef : List Ed) : Prop where
 bel : Below B w0 w
 siz : B ≤ w.heap.size
 tod : w.ownsRow B 3 1 tv nt (iv (fr :: bef.map Ed.t))
 nl : bef.length + 1 = nt
 tab : TabM Try.prog 3 w o bef.length (befA bef)
 lt : B ≤ o
section
variable {B o : Nat} {w0 w w' : World} {tv : Value} {nt : Nat} {fr : Int} {bef : List Ed}
theorem PtS.quiet (h : PtS B o w0 w tv nt fr bef) (hb : Below w.heap.size w w') : PtS B o w0 w' tv nt fr bef :=
 ⟨h.bel.trans (hb.mono h.siz), Nat.le_trans h.siz hb.size, own_below h.tod hb, h.nl, h.tab.below hb, h.lt⟩
theorem befA_new {bef : List Ed} {x : Ed} (h : x.t ∉ bef.map Ed.t) : befA (bef ++ [x]) x.t = some x := by
 unfold befA
 rw [List.find?_append]
 have : bef.find? (fun y => y.t == x.t) = none := by
  rw [List.find?_eq_none]
  intro y hy he
  exact h (by rw [← eq_of_beq he]; exact List.mem_map_of_mem hy)
 rw [this]
 simp
theorem befA_other {bef : List Ed} {x : Ed} {d : Int} (h : d ≠ x.t) : befA (bef ++ [x]) d = befA bef d := by
 unfold befA
 rw [List.find?_append]
 have : [x].find? (fun y => y.t == d) = none := by
  rw [List.find?_eq_none]
  intro y hy he
  rw [List.mem_singleton.1 hy] at he
  exact h (eq_of_beq he).symm
 rw [this, Option.or_none]
end
theorem tpX_seen {fr tg : Int} {x : Ed} {r bef : List Ed} (h : (befA bef x.t).isSome = true) : tpX fr tg (x :: r) bef = tpX fr tg r bef := by rw [tpX, if_pos h]
theorem tpX_hit {fr tg : Int} {x : Ed} {r bef : List Ed} (h : (befA bef x.t).isSome = false) (ht : x.t = tg) : tpX fr tg (x :: r) bef = .inl (tbk (bef ++ [x]) fr bef.length x).reverse := by rw [tpX, if_neg (by rw [h]; simp), if_pos ht]
theorem tpX_go {fr tg : Int} {x : Ed} {r bef : List Ed} (h : (befA bef x.t).isSome = false) (ht : ¬ x.t = tg) : tpX fr tg (x :: r) bef = tpX fr tg r (bef ++ [x]) := by rw [tpX, if_neg (by rw [h]; simp), if_neg ht]
/-- what is still to be done -/
def tpM (es : List Ed) (fr tg : Int) (g i : Nat) (r bef : List Ed) : Option (List Ed) := match tpX fr tg r bef with
 | .inl l => some l
 | .inr bef' => tpG es fr tg g (i + 1) bef'
theorem tpG_M {es : List Ed} {fr tg k : Int} {g i : Nat} {bef : List Ed} (h : (fr :: bef.map Ed.t)[i]? = some k) : tpG es fr tg (g + 1) i bef = tpM es fr tg g i (outL es k) bef := by
 rw [tpG, h]; rfl
theorem tpG_end {es : List Ed} {fr tg : Int} {g i : Nat} {bef : List Ed} (h : bef.length + 1 ≤ i) : tpG es fr tg (g + 1) i bef = none := by
 rw [tpG, List.getElem?_eq_none (by rw [List.length_cons, List.length_map]; omega)]
theorem tpM_eq {es : List Ed} {fr tg : Int} {g i : Nat} {r r' bef bef' : List Ed} (h : tpX fr tg r bef = tpX fr tg r' bef') : tpM es fr tg g i r bef = tpM es fr tg g i r' bef' := by unfold tpM; rw [h]
theorem tpM_hit {es : List Ed} {fr tg : Int} {g i : Nat} {r bef l : List Ed} (h : tpX fr tg r bef = .inl l) : tpM es fr tg g i r bef = some l := by unfold tpM; rw [h]
theorem TpI.len {es : List Ed} {n : Nat} {fr tg : Int} {bef : List Ed} (h : TpI es n fr tg bef) (he : EdR n es) : bef.length ≤ n := by
 have := nodup_le h.nd (m := rngI (n : Int)) (fun t ht => by
  obtain ⟨x, hx, rfl⟩ := List.mem_map.1 ht
  exact rngI_mem.2 (he x (h.mem x hx)).2)
 rwa [List.length_map, rngI_len, Int.toNat_natCast] at this
/-- how long a slice is -/
def lenV : Value → Nat
 | .slice _ n _ => n
 | _ => 0
theorem tbk_end {bef : List Ed} {fr : Int} {g : Nat} {x : Ed} (h : x.f = fr) : tbk bef fr g x = [x] := by
 cases g with
 | zero => rfl
 | succ g => rw [tbk, if_pos h]
theorem tbk_go {bef : List Ed} {fr : Int} {g : Nat} {x y : Ed} (h : x.f ≠ fr) (hy : befA bef x.f = some y) : tbk bef fr (g + 1) x = x :: tbk bef fr g y := by rw [tbk, if_neg h, hy]
end Go.Proofs.Ytddhaidimadliaa
