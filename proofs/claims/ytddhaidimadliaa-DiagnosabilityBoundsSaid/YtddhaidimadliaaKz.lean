/- Walks: word.Check at a right word, slices.IndexFunc with two captures, the words of the statement DiagnosabilityBounds. -/
import Derived.Test.YtddhaidimadliaaKm
import Derived.Test.YtddhaidimadliaaLb
import Derived.Test.YtddhaidimadliaaKh
import Derived.Test.YtddhaidimadliaaJv
import Derived.Test.YtddhaidimadliaaKb

namespace Go.Proofs.Ytddhaidimadliaa
open Go.RowKit Go

theorem wcheck1_ok (b : Nat) (A : Option Addr) (n c : Nat) (al : List Int) (x : Int) (w : World) (h0 : w.cell? ⟨b, 0, none⟩ = some (.slice A n c)) (hl : al.length = n) (hr : RdI w w.heap.size A al) (hn : n ≤ 32) (hi : Inc al) (hx : x ∈ al) :
  Calls Try.prog 77 #[.int .i64 x, .pointer (some ⟨b, 0, none⟩)] w fun e w' => e = .returned (.bool false) ∧ w = w' := by
 have HC := Lib.hid (alphabet_Contains_n A c n al x true w hl (hasB_mem.2 hx) hr (by omega) hi)
 clear hr hi hx hl
 go_enter Try.func77, Try.ntmps77
 go_wp2_with fail
 refine HC.out.mono ?_
 rintro _ w' ⟨rfl, rfl⟩
 go_wp2
 go_ret
 exact ⟨rfl, rfl⟩
theorem any_no (u : List Int) : (u.any fun _ => false) = false := by
 induction u with
 | nil => rfl
 | cons a u ih => rw [List.any_cons, ih]; rfl
set_option maxRecDepth 100000 in
theorem word_Check_ok (UA : Option Addr) (un uc : Nat) (u : List Int) (A : Option Addr) (n c : Nat) (al : List Int) (w : World) (hul : u.length = un) (hur : RdI w w.heap.size UA u) (hun : un ≤ 4096) (hl : al.length = n) (hr : RdI w w.heap.size A al) (hn : n ≤ 32) (hnc : n ≤ c) (hc : c ≤ 9223372036854775807) (hi : Inc al) (ha : ∀ x ∈ al, 0 ≤ x ∧ x < 32) (hu : ∀ x ∈ u, x ∈ al) :
  Calls Try.prog 36 #[.slice UA un uc, .slice A n c] w fun e w' => e = .returned (.int .i64 0) ∧ Below w.heap.size w w' := by
 have hb1 := box_below w (.cells #[.slice A n c] 31)
 obtain ⟨w1, hw1⟩ : ∃ w1, w1 = w.alloc (.cells #[.slice A n c] 31) := ⟨_, rfl⟩
 have kx : Blk w1 w.heap.size 31 [.slice A n c] := by rw [hw1]; exact Blk.new _ _ [_]
 rw [← hw1] at hb1
 have hr1 : RdI w1 w1.heap.size A al := (hr.below hb1).more hb1.size
 have hu1 : RdI w1 w1.heap.size UA u := (hur.below hb1).more hb1.size
 have HC := Lib.hid (alphabet_CheckSet_n A c n al 32 0 w1 hl (setErr_mk hi ha) hr1 hnc hc)
 have HF := Lib.hid (ints_ContainsFuncB UA uc un u 77 (.pointer (some ⟨w.heap.size, 0, none⟩)) (fun _ => false) false w1 hul hu1 (by omega) (fun _ _ => rfl) (fun x hx W hW => (wcheck1_ok w.heap.size A n c al x W ((hW.cell kx.lt).trans (kx.cell (j := 0) rfl)) hl ((hr1.below hW).more hW.size) hn hi (hu x hx)).mono (fun e w' h => ⟨h.1, by rw [← h.2]; exact Below.refl _ _⟩)) (any_no u))
 have c0 := kx.cell (j := 0) rfl
 have b1 : ¬ (4096 : Int) < (un : Int) := by omega
 have HW1 := Lib.hid hw1; clear hw1
 have HB1 := Lib.hid hb1; clear hb1
 clear kx hr hur hr1 hu1 hi ha hu hl hul
 go_enter Try.func36, Try.ntmps36
 go_upto_region 1 with fail
 rw [← HW1.out]
 go_wp2_with fail
 refine HC.out.mono ?_
 rintro _ w2 ⟨rfl, rfl⟩
 clear HC
 go_wp2_with fail
 refine HF.out.mono ?_
 rintro _ w3 ⟨rfl, hb3⟩
 have HB3 := Lib.hid (HB1.out.trans (hb3.mono HB1.out.size))
 clear HF hb3 c0
 go_wp2
 go_ret
 exact ⟨rfl, HB3.out⟩
set_option maxHeartbeats 800000 in
theorem ints_IndexFunc2 (A : Option Addr) (c n : Nat) (l : List Int) (g : Nat) (cap cap2 : Value) (p : Int → Bool) (w : World) (hl : l.length = n) (hR : RdI w w.heap.size A l) (hc : n ≤ 9223372036854775807)
  (eg : ∀ args w, (callFunc g args).run Try.prog w = .ok (.enter g args) w)
  (hp : ∀ x ∈ l, ∀ W, Below w.heap.size w W → Calls Try.prog g #[.int .i64 x, cap, cap2] W fun e w' => e = .returned (.bool (p x)) ∧ Below W.heap.size W w') :
  Calls Try.prog 34 #[.slice A n c, .func (.func g) #[] #[cap, cap2]] w fun e w' => e = .returned (.int .i64 (idxJ p l)) ∧ Below w.heap.size w w' := by
 have HP := Lib.hid hp
 have HL := Lib.hid hl
 clear hp
 go_enter Try.func34, Try.ntmps34
 go_wp2
 go_loopw [4, 5, 8] (fun s4 s5 s8 wr => ∃ (k : Nat) (v4 v5 : Value), s4 = v4 ∧ s5 = v5 ∧ k ≤ n ∧ s8 = .int .i64 k ∧ Hid (noneJ p (l.take k)) ∧ Hid (Below w.heap.size w wr)) (fun _ _ s8 _ => n - (intOf s8).toNat)
 case atStart => exact ⟨0, _, _, rfl, rfl, Nat.zero_le _, rfl, Lib.hid rfl, Lib.hid (Below.refl _ _)⟩
 case round =>
  obtain ⟨k, v4, v5, rfl, rfl, hk, rfl, HN, HB⟩ := hrel
  by_cases hlt : k < n
  ·obtain ⟨ad, x, rfl, hab, hx, hcx⟩ := (hR.below HB.out).at_ (k := k) (by rw [HL.out]; exact hlt)
   have b1 : (k : Int) < (n : Int) := by omega
   have HC := Lib.hid (HP.out x (List.mem_of_getElem? hx) wr HB.out)
   obtain ⟨q, hq⟩ : ∃ q, p x = q := ⟨_, rfl⟩
   rw [hq] at HC
   have HQ := Lib.hid hq; clear hq
   have HX := Lib.hid hx; clear hx
   clear hab
   cases q with
   | true =>
    have HR := Lib.hid (idxJ_at HX.out HN.out HQ.out)
    go_wp2_with fail
    refine HC.out.mono ?_
    rintro e w2 ⟨rfl, hb2⟩
    have HB2 := Lib.hid (HB.out.trans (hb2.mono HB.out.size))
    clear HC hcx hb2
    go_wp2
    go_ret
    exact ⟨ret_int HR.out.symm, HB2.out⟩
   | false =>
    have HN2 := Lib.hid (noneJ_step HX.out HN.out HQ.out)
    go_wp2_with (go_at_fn g; refine HC.out.mono ?_; rintro e w2 ⟨rfl, hb2⟩; have HB2 := Lib.hid (HB.out.trans (hb2.mono HB.out.size)))
    go_roundw
    case rel => exact ⟨k + 1, _, _, rfl, rfl, by omega, by go_num, HN2, HB2⟩
    case measure => simp [intOf]; omega
  ·obtain rfl : k = n := by omega
   have b1 : ¬ (k : Int) < (k : Int) := by omega
   have HR := Lib.hid (idxJ_end HN.out (show ¬ k < l.length by rw [HL.out]; omega))
   go_wp2
   go_ret
   exact ⟨ret_int HR.out.symm, HB.out⟩
set_option maxRecDepth 100000 in
theorem bounds1_ok (mb cb : Nat) (z : DV) (c x : Int) (w : World) (hz : z.ok w w.heap.size) (hm : Blk w mb 37 (dvc z)) (hc : Blk w cb 3 [.int .i64 c]) (hx : 0 ≤ x ∧ x < (z.nv : Int)) :
  Calls Try.prog 35 #[.int .i64 x, .pointer (some ⟨mb, 0, none⟩), .pointer (some ⟨cb, 0, none⟩)] w fun e w' => e = .returned (.bool (z.m.ft x == c)) ∧ Below w.heap.size w w' := by
 obtain ⟨j, rfl⟩ : ∃ j : Nat, x = (j : Int) := ⟨x.toNat, by omega⟩
 have HF := Lib.hid (fun (e : Ev) (hj : z.l[j]? = some e) => ft_at hj)
 obtain ⟨⟨A, na, ca, M, nm, cm, E, ne, ce, a⟩, V, nv, cv, l⟩ := z
 have hll := hz.ll
 unfold dvc at hm
 dsimp only at hm hx hll HF
 obtain ⟨ev, e, rfl, hvb, hje, hes, q0, q1, q2, q3, q4⟩ := hz.rl.at_ (k := j) (by dsimp only; omega)
 have p4' := ev_cells (j := 3) q4
 have hft := HF.out e hje
 rw [hft]
 have a4 := hm.cell (j := 4) rfl
 have c0 := hc.cell (j := 0) rfl
 obtain ⟨fv, hfv⟩ : ∃ v, e.fault = v := ⟨_, rfl⟩
 rw [hfv] at p4' ⊢
 have b1 : (j : Int) < (nv : Int) := hx.2
 have hbd := Lib.hid (below_dr w)
 have hp : (ev.add (j * 5)).block < w.heap.size := by rw [block_of_add]; exact hvb
 have hA : w.drew.cell? ⟨mb, 4, none⟩ = some (.slice (some ev) nv cv) ∧ w.drew.cell? ⟨cb, 0, none⟩ = some (.int .i64 c) ∧ w.drew.cell? ⟨(ev.add (j * 5)).block, (ev.add (j * 5)).off + 4, none⟩ = some (.int .i64 fv) :=
  ⟨(hbd.out.cell hm.lt).trans a4, (hbd.out.cell hc.lt).trans c0, (hbd.out.cell (p := ⟨(ev.add (j * 5)).block, (ev.add (j * 5)).off + 4, none⟩) hp).trans p4'⟩
 clear hz hm hc HF hll hvb hje hes q0 q1 q2 q3 q4 p4' hft a4 c0 hfv hp
 go_enter Try.func35, Try.ntmps35
 go_upto_region 1 with fail
 refine wp_region_U (fun W => W.cell? ⟨mb, 4, none⟩ = some (.slice (some ev) nv cv) ∧ W.cell? ⟨cb, 0, none⟩ = some (.int .i64 c) ∧ W.cell? ⟨(ev.add (j * 5)).block, (ev.add (j * 5)).off + 4, none⟩ = some (.int .i64 fv)) (fun _ => True) 99 (by kernel_rfl) ?_
 change anyU _ _ _ _ _ _ _ 9 _ _ _
 generalize w.drew = wd at hA hbd ⊢
 have hB0 : True := trivial
 have hA0 := hA
 clear hA
 (refine uA 0 ?_ rfl hA0 hB0 (fun W hA => ?_) ?_; rotate_left; (· (go_simp; try with_reducible rfl)); (try simp only [Act.put, List.setIfInBounds_toArray, List.set_cons_zero, List.set_cons_succ]))
 (refine uA 1 ?_ rfl hA0 hB0 (fun W hA => ?_) ?_; rotate_left; (· (obtain ⟨d0, d1, d2⟩ := hA; go_simp; try with_reducible rfl)); (try simp only [Act.put, List.setIfInBounds_toArray, List.set_cons_zero, List.set_cons_succ]))
 (refine uA 2 ?_ rfl hA0 hB0 (fun W hA => ?_) ?_; rotate_left; (· (go_simp; try with_reducible rfl)); refine uA 3 ?_ rfl hA0 hB0 (fun W hA => ?_) ?_; rotate_left; (· (go_simp; try with_reducible rfl)); refine uA 4 ?_ rfl hA0 hB0 (fun W hA => ?_) ?_; rotate_left; (· (go_simp; try with_reducible rfl)); (try simp only [Act.put, List.setIfInBounds_toArray, List.set_cons_zero, List.set_cons_succ]))
 (refine uA 5 ?_ rfl hA0 hB0 (fun W hA => ?_) ?_; rotate_left; (· (obtain ⟨d0, d1, d2⟩ := hA; go_simp; try with_reducible rfl)); (try simp only [Act.put, List.setIfInBounds_toArray, List.set_cons_zero, List.set_cons_succ]))
 (refine uA 6 ?_ rfl hA0 hB0 (fun W hA => ?_) ?_; rotate_left; (· (obtain ⟨d0, d1, d2⟩ := hA; go_simp; try with_reducible rfl)); (try simp only [Act.put, List.setIfInBounds_toArray, List.set_cons_zero, List.set_cons_succ]))
 (refine uA 7 ?_ rfl hA0 hB0 (fun W hA => ?_) ?_; rotate_left; (· (go_simp; try with_reducible rfl)); refine uA 8 ?_ rfl hA0 hB0 (fun W hA => ?_) ?_; rotate_left; (· (go_simp; try with_reducible rfl)); (try simp only [Act.put, List.setIfInBounds_toArray, List.set_cons_zero, List.set_cons_succ]))
 refine anyU_done (by kernel_rfl) ?_ _
 clear hA0
 go_wp2
 go_ret
 exact ⟨rfl, hbd.out⟩
/-- a word in a row of words -/
def ivc (u : IV) : List Value := [u.v]
/-- the words of the statement -/
structure WdN (B : Nat) (w0 w : World) (lv : Value) (nl : Nat) (l : List IV) : Prop where
 bel : Below B w0 w
 siz : B ≤ w.heap.size
 own : w.ownsRow B 31 1 lv nl (l.flatMap ivc)
 ln : l.length = nl
 wds : ∀ u ∈ l, (u.l.length = u.n ∧ u.n ≤ 7) ∧ w.ownsRow B 3 1 u.v u.n (iv u.l)
section
variable {B : Nat} {w0 w w' : World} {lv : Value} {nl : Nat} {l : List IV}
theorem WdN.quiet (h : WdN B w0 w lv nl l) (hb : Below w.heap.size w w') : WdN B w0 w' lv nl l :=
 ⟨h.bel.trans (hb.mono h.siz), Nat.le_trans h.siz hb.size, own_below h.own hb, h.ln, fun p hp => ⟨(h.wds p hp).1, own_below (h.wds p hp).2 hb⟩⟩
theorem WdN.add (h : WdN B w0 w lv nl l) {A : Option Addr} {cc : Nat} {x : IV} (ho : w'.ownsRow B 31 1 (.slice A (nl + 1) cc) (nl + 1) (l.flatMap ivc ++ [x.v])) (hg : w.grownBy w' lv.ownBlock) (hx : w.ownsRow B 3 1 x.v x.n (iv x.l)) (hxl : x.l.length = x.n ∧ x.n ≤ 7) :
  WdN B w0 w' (.slice A (nl + 1) cc) (nl + 1) (l ++ [x]) ∧ w'.ownsRow B 3 1 x.v x.n (iv x.l) := by
 have hx' := own_kept_ne hx h.own (by decide) hg
 refine ⟨⟨h.bel.grown hg h.siz (fun j hj => (h.own.lt j hj).1), Nat.le_trans h.siz hg.size, by rw [List.flatMap_append]; simpa [ivc] using ho, by simp [h.ln], fun p hp => ?_⟩, hx'⟩
 rcases List.mem_append.1 hp with hp | hp
 ·exact ⟨(h.wds p hp).1, own_kept_ne (h.wds p hp).2 h.own (by decide) hg⟩
 ·rw [List.mem_singleton.1 hp]
  exact ⟨hxl, hx'⟩
end
end Go.Proofs.Ytddhaidimadliaa
/- The statement DiagnosabilityBounds: the walk. -/
namespace Go.Proofs.Ytddhaidimadliaa
open Go.RowKit Go

theorem run_some7 {m : Dm} {c : Int} {ws : List Int} (hw : WF m.a) (h : ¬ endsL m.a 0 ws < 0) : ∃ p, runC m c 0 ws false = some p := by
 unfold endsL at h
 by_cases h0 : (0 : Int) < 0 ∨ m.a.st ≤ 0
 ·rw [if_pos h0] at h; exact absurd (by decide) h
 rw [if_neg h0] at h
 cases hg : goS (stA m.a) 0 ws with
 | none => have := (endL_go hw ws 0 (Int.le_refl 0)).2 hg; omega
 | some t => exact ⟨(t, _), (runC_go hw _ _ _ _ _).2 ⟨by omega, hg, rfl⟩⟩
theorem ends_snoc {a : Aut} (hw : WF a) {u : List Int} {x : Int} (h : 0 ≤ nxt a (endsL a 0 u) x) : ¬ endsL a 0 (u ++ [x]) < 0 := by
 have hr := hw.nxt_rng (s := endsL a 0 u) (v := x) (by omega)
 have h0 : ¬ ((0 : Int) < 0 ∨ a.st ≤ 0) := by omega
 obtain ⟨s, hs⟩ : ∃ s, endL a 0 u = s := ⟨_, rfl⟩
 unfold endsL at h hr ⊢
 rw [if_neg h0] at h hr ⊢
 rw [hs] at h hr
 have hg := (endL_iff hw (Int.le_refl 0) hr.2.2.2.1).1 hs
 have : goS (stA a) 0 (u ++ [x]) = some (nxt a s x) := by
  rw [goS_app, hg]
  exact stA_nxt (by omega)
 rw [(endL_iff hw (Int.le_refl 0) h).2 this]
 omega
theorem idxJ_split {p : Int → Bool} : ∀ {l : List Int} {i : Int}, idxJ p l = i → 0 ≤ i → ∃ v0 f rest, l = v0 ++ f :: rest ∧ (v0.length : Int) = i ∧ p f = true ∧ v0.any p = false
 | [], i, h, h0 => by unfold idxJ at h; omega
 | x :: r, i, h, h0 => by
  unfold idxJ at h
  by_cases hx : p x = true
  ·rw [if_pos hx] at h
   exact ⟨[], x, r, rfl, by simp; omega, hx, rfl⟩
  ·rw [if_neg hx] at h
   by_cases h1 : idxJ p r < 0
   ·rw [if_pos h1] at h; omega
   ·rw [if_neg h1] at h
    obtain ⟨v0, f, rest, e1, e2, e3, e4⟩ := idxJ_split (l := r) rfl (by omega : 0 ≤ idxJ p r)
    refine ⟨x :: v0, f, rest, by rw [e1]; rfl, by simp; omega, e3, ?_⟩
    rw [List.any_cons, e4]
    simp [hx]
theorem exX_d {m : Dm} {c : Int} {o : List Int} (hw : WF m.a) {i : Nat} {t : Vst} : ∀ (r : List Int) (l : List Vst), t ∈ l → ExD m o l → ExD m o (exX m c o i t r l)
 | [], l, _, h => h
 | x :: r, l, ht, h => by
  cases hp : exN m c o t.s t.k x with
  | none => rw [exX_none hp]; exact exX_d hw r l ht h
  | some p =>
   cases hh : exH l p.1 p.2 with
   | true => rw [exX_old hp hh]; exact exX_d hw r l ht h
   | false => rw [exX_new hp hh]; exact exX_d hw r _ (List.mem_append_left _ ht) (h.push hw ht hp hh i)
theorem exG_len {m : Dm} {c : Int} {o : List Int} (hw : WF m.a) : ∀ (g i : Nat) (l : List Vst) (ws : List Int), ExD m o l → exG m c o g i l = some ws → ws.length ≤ m.a.st.toNat * (o.length + 1)
 | 0, _, _, _, _, h => by cases h
 | g + 1, i, l, ws, hd, h => by
  cases ht : l[i]? with
  | none => rw [exG_end ht] at h; cases h
  | some t =>
   by_cases hk : t.k = o.length
   ·rw [exG_hit ht hk] at h
    injection h with h
    rw [← h, List.length_reverse]
    exact Nat.le_trans (exB_len _ _) hd.len
   ·rw [exG_round ht hk] at h
    exact exG_len hw g (i + 1) _ ws (exX_d hw _ _ (List.mem_of_getElem? ht) hd) h
theorem excE_len {m : Dm} {c : Int} {o ws : List Int} (hw : WF m.a) (h : excE m c o = some ws) : ws.length ≤ m.a.st.toNat * (o.length + 1) := by
 unfold excE at h
 by_cases h0 : m.a.st = 0
 ·rw [if_pos h0] at h; cases h
 ·rw [if_neg h0] at h
  have := hw.st0
  exact exG_len hw _ _ _ _ ⟨by simp, fun t ht => by rw [List.mem_singleton.1 ht]; exact ⟨⟨Int.le_refl 0, by show (0 : Int) < _; omega⟩, Nat.zero_le _⟩⟩ h
theorem bounds_plain {z : DV} {c : Int} (hd : dmE z = 0) (hs : z.x.a.st ≤ 40) (h1 : 1 ≤ c) {R : Bs TwS} (hR : twin z.m c = some R) {r : List Int} {b : Int} (hds : diaS R = some (r, b)) {v ws : List Int} {fi : Int} (hv7 : v.length ≤ 7) (hv : ¬ endsL z.m.a 0 v < 0)
  (hi : idxJ (fun y => z.m.ft y == c) v = fi) (h0 : 0 ≤ fi) (he : excE z.m c (obsW z.m v) = some ws) : (v.length : Int) - 1 - fi < b ∧ fi ≤ 7 ∧ ws.length ≤ 4096 ∧ ∀ x ∈ ws, x ∈ z.m.a.al := by
 have hw := dmE_wf hd
 have hdm : DmW z.m c := DV.dmw hd h1
 obtain ⟨pr, hpr⟩ := run_some7 (m := z.m) (c := c) hw hv
 obtain ⟨t, g⟩ := pr
 obtain ⟨hst, hg, _⟩ := (runC_go (m := z.m) hw _ _ _ _ _).1 hpr
 obtain ⟨⟨y, hy⟩, hf, ho, ha⟩ := excE_sound he
 have hle := excE_len (m := z.m) hw he
 have hol : (obsW z.m v).length ≤ v.length := by unfold obsW; exact List.length_filter_le _ _
 have h40 : z.m.a.st.toNat ≤ 40 := by have : z.m.a.st ≤ 40 := hs; omega
 have hle2 : ws.length ≤ 40 * 8 := Nat.le_trans hle (Nat.mul_le_mul h40 (by omega))
 obtain ⟨s, hs1, hb⟩ := twin_some (m := z.m) (c := c) hw (by omega) hs
 rw [hR] at hs1
 injection hs1 with hs1
 subst hs1
 obtain ⟨hra, hbb⟩ := diaS_all hb hds
 dsimp only at hbb
 obtain ⟨v0, f, rest, e1, e2, e3, e4⟩ := idxJ_split hi h0
 subst e1
 have hal := goS_al' (a := z.m.a) hw _ hg
 have := bound_spec hdm hb hra hg hy e4 (by simpa using e3) hf ho.symm hal ha
 rw [List.length_append, List.length_cons] at hv7 ⊢
 rw [hbb]
 refine ⟨?_, by omega, by omega, ha⟩
 have e5 : ((v0.length + (rest.length + 1) : Nat) : Int) - 1 - fi = (rest.length : Int) := by rw [← e2]; push_cast; omega
 rw [e5]
 exact this
theorem bounds_pos {R : Bs TwS} {r : List Int} {b : Int} (hds : diaS R = some (r, b)) : 0 ≤ b := by
 unfold diaS at hds
 split at hds
 ·injection hds with hds
  injection hds with _ h2
  rw [← h2]
  exact diaB_nonneg
 ·cases hds
/-- the sketch with fewer states -/
def S4.low (x : S4) : S4 := ⟨x.fl, x.st, ⟨x.g.st % 4, x.g.mb, x.g.to⟩⟩
theorem S4.low_ok {x : S4} (h : x.ok) : x.low.ok := ⟨h.fl, h.fr, h.st, ⟨by have := h.g.st; show 0 ≤ x.g.st % 4 ∧ x.g.st % 4 ≤ 255; omega, h.g.mb, h.g.len, h.g.to⟩⟩
theorem S4.low_set {x : S4} (h : x.ok) : (s4c x).set 6 (.int .u8 (x.g.st % 4)) = s4c x.low := by
 obtain ⟨fl, st, g⟩ := x
 have hl : fl.length = 5 := h.fl
 match fl, hl with
 | [f0, f1, f2, f3, f4], _ => rfl
theorem isl_info : (Try.prog.info? 31).map (fun i => (i.zero, i.size, i.bytes)) = some (some (.slice none 0 0), 1, 24) := by kernel_rfl
theorem ivc_at {w : World} {B : Nat} {A : Option Addr} {l : List IV} {k : Nat} {u : IV} (h : RdR 1 ivc w B A l) (hk : l[k]? = some u) : ∃ ad, A = some ad ∧ ad.block < B ∧ w.cell? (ad.add k) = some u.v := by
 obtain ⟨ad, e, hb, hc⟩ := h k u hk
 have := hc 0 u.v rfl
 rw [Nat.mul_one, Nat.add_zero] at this
 exact ⟨ad, e, hb, this⟩
theorem rdI_own7 {w : World} {B n c : Nat} {A : Option Addr} {l : List Int} (hl : l.length = n) (h : w.ownsRow B 3 1 (.slice A n c) n (iv l)) : RdI w w.heap.size A l := by
 subst hl
 obtain ⟨A', c', e, _, _, h3⟩ := own_slI h
 injection e with e1 e2 e3
 subst e1
 exact h3
theorem sl_one (v : IV) : ∀ x ∈ [v.v], x.oneCell' = true := by
 intro x hx
 rw [List.mem_singleton.1 hx]
 rfl
set_option maxRecDepth 100000 in
set_option maxHeartbeats 12800000 in
theorem bounds_walk41 (x : S4) (cl : Int) (w : World) (hx : x.ok) (hc : 0 ≤ cl ∧ cl ≤ 255) :
  Calls Try.prog 7 #[.agg (s4c x).toArray, .int .u8 cl] w fun e w' => e = .returned (.bool true) ∧ Below w.heap.size w w' := by
 obtain ⟨w1, hw1⟩ : ∃ w1, w1 = w.alloc (.cells (s4c x).toArray 29) := ⟨_, rfl⟩
 have hb1 := box_below w (.cells (s4c x).toArray 29)
 have kx : Blk w1 w.heap.size 29 (s4c x) := by rw [hw1]; exact Blk.new _ _ _
 rw [← hw1] at hb1
 have HK1 := Lib.hid kx
 have HB1 := Lib.hid hb1
 have HX := Lib.hid hx
 have HXL := Lib.hid (S4.low_ok hx)
 have HW1 := Lib.hid hw1; clear hw1
 clear kx hb1
 have HC := Lib.hid (known41 w1)
 go_enter Try.func7, Try.ntmps7
 go_upto_region 1 with fail
 rw [← HW1.out]
 go_wp2_with fail
 refine HC.out.mono ?_
 rintro _ w2 ⟨rfl, hb2⟩
 have HB2 := Lib.hid (HB1.out.trans (hb2.mono HB1.out.size))
 have k2 := HK1.out.below hb2 HK1.out.lt
 have c6 : w2.cell? ⟨w.heap.size, 6, none⟩ = some (.int .u8 x.g.st) := by
  have := (S4A.of k2 hx).g 0 (.int .u8 x.g.st) rfl
  exact this
 have f6 := k2.free 6
 have l6 := k2.lt
 have hg0 := hx.g.st
 have k3 := k2.set (j := 6) (by rw [s4_len hx]; omega) (.int .u8 (x.g.st % 4))
 rw [S4.low_set hx] at k3
 have HB3 := Lib.hid (HB2.out.setCell (p := ⟨w.heap.size, 6, none⟩) (Nat.le_refl _) (.int .u8 (x.g.st % 4)))
 clear hb2 HC k2 HK1 HB1
 go_upto_region 4 with fail
 clear c6 f6 l6
 generalize w2.setCell ⟨w.heap.size, 6, none⟩ (.int .u8 (x.g.st % 4)) = w3 at k3 HB3 ⊢
 have HSL := Lib.hid (s4_len HXL.out)
 have hrg : w3.rangeAt w.heap.size 0 (s4c x.low) := fun j v hv => by rw [Nat.zero_add]; exact k3.cell hv
 clear hx HX hg0 HB2 k3
 generalize x.low = y at HXL HSL hrg
 go_wp2_with (first
  | (refine wpList_load_mid rfl 29 (.tmp 2) rfl w.heap.size 0 rfl (s4c y) _ hrg Try.underlying29 rfl (by rw [HSL.out]; kernel_rfl) ?_)
  | fail)
 refine (law_Make41 y w3 HXL.out).mono ?_
 rintro _ w4 ⟨z, rfl, hz, his, hb4⟩
 have HDM := Lib.hid (his.dm HXL.out)
 have HST := Lib.hid (show z.x.a.st ≤ 40 by rw [his.a]; have := S4.st_le HXL.out; omega)
 have HZ := Lib.hid hz
 have HB4 := Lib.hid (HB3.out.trans (hb4.mono HB3.out.size))
 clear hb4 his hz hrg HB3
 have HWF := Lib.hid (dmE_wf HDM.out)
 have HEA := Lib.hid (dmE_al HDM.out)
 have HLL := Lib.hid HZ.out.ll
 have HLA := Lib.hid HZ.out.x.la
 have hna32 : z.x.na ≤ 32 := by have h1 := HWF.out.al_le; rw [HLA.out] at h1; exact h1
 have hnac := HZ.out.x.ac
 have hncA := HZ.out.x.cA
 obtain ⟨c, hcv⟩ : ∃ c : Int, 1 + cl % 4 = c := ⟨_, rfl⟩
 have hc1 : 1 ≤ c ∧ c ≤ 4 := by omega
 have HCL := Lib.hid (clsE_zero HDM.out hc1.1 hc1.2)
 obtain ⟨RT, hRT, hRE⟩ := twin_any (m := z.m) HWF.out HST.out c
 have HD0 := Lib.hid (fun (h : stlE z c = 0) (W : World) (hzz : z.ok W W.heap.size) => dm_Diagnosable_ok z c W hzz h HST.out RT hRT hRE)
 have HD1 := Lib.hid (fun (h : stlE z c = 25) (W : World) (hzz : z.ok W W.heap.size) => dm_Diagnosable_err z c 25 W hzz h (by decide))
 have HSE := Lib.hid (stlE_or HCL.out)
 have HPL := Lib.hid (fun (r : List Int) (b : Int) (hds : diaS RT = some (r, b)) (v ws : List Int) (fi : Int) (hv7 : v.length ≤ 7) (hv : ¬ endsL z.m.a 0 v < 0) (hi : idxJ (fun y => z.m.ft y == c) v = fi) (h0 : 0 ≤ fi) (he : excE z.m c (obsW z.m v) = some ws) => bounds_plain HDM.out HST.out hc1.1 hRT hds hv7 hv hi h0 he)
 have HEX := Lib.hid (fun (W : World) (hzz : z.ok W W.heap.size) (u : IV) (hu : u.ok W W.heap.size) (hu7 : u.l.length ≤ 7) (hv : ¬ endsL z.m.a 0 u.l < 0) => (show Calls Try.prog 28 #[.agg (dvc z).toArray, .int .i64 c, u.v] W (RetEx (excE z.m c (obsW z.m u.l), 0) W) from by
  have := dm_Excuse z c u W hzz HCL.out HST.out hu
  obtain ⟨pr, hpr⟩ := run_some7 (m := z.m) (c := c) HWF.out hv
  have e : excR z.m c u.l = (excE z.m c (obsW z.m u.l), 0) := by unfold excR; rw [if_neg (by omega), hpr]
  rw [e] at this
  exact this))
 have HEN := Lib.hid (fun (W : World) (hzz : z.ok W W.heap.size) (u : IV) (hu : u.ok W W.heap.size) => law_ends z.x 0 u _ W hzz.x hu rfl)
 have HST9 := Lib.hid (fun (W : World) (hzz : z.ok W W.heap.size) (s v : Int) => law_step z.x.A z.x.na z.x.ca z.x.M z.x.nm z.x.cm z.x.E z.x.ne z.x.ce z.x.a s v W hzz.x)
 have HFN := Lib.hid (fun (mb cb : Nat) (W : World) (hzz : z.ok W W.heap.size) (km : Blk W mb 37 (dvc z)) (kc : Blk W cb 3 [.int .i64 c]) (xx : Int) (hx : 0 ≤ xx ∧ xx < (z.nv : Int)) => bounds1_ok mb cb z c xx W hzz km kc hx)
 obtain ⟨m, hm⟩ : ∃ m, z.m = m := ⟨_, rfl⟩
 have hma : z.x.a = m.a := by rw [← hm]; rfl
 rw [hm] at HPL HEX HFN
 clear hm hRT hRE HCL HDM HST HSL
 obtain ⟨⟨A, na, ca, M, nm, cm, E, ne, ce, a⟩, V, nv, cv, l⟩ := z
 unfold dvc at HD0 HD1 HEX HFN ⊢
 dsimp only at HD0 HD1 HEX HEN HST9 HFN HWF HEA HLL HLA hna32 hnac hncA hma ⊢
 subst hma
 obtain ⟨sv, hsv⟩ : ∃ s, m.a.st = s := ⟨_, rfl⟩
 rw [hsv] at HD0 HD1 HEX HEN HST9 HFN ⊢
 clear hsv
 have hbx := box_below w4 (.cells #[.slice A na ca, .int .i64 sv, .slice M nm cm, .slice E ne ce, .slice V nv cv] 37)
 have kb : Blk (w4.alloc (.cells #[.slice A na ca, .int .i64 sv, .slice M nm cm, .slice E ne ce, .slice V nv cv] 37)) w4.heap.size 37 [.slice A na ca, .int .i64 sv, .slice M nm cm, .slice E ne ce, .slice V nv cv] := Blk.new _ _ [_, _, _, _, _]
 obtain ⟨w4b, hw4b⟩ : ∃ W, W = w4.alloc (.cells #[.slice A na ca, .int .i64 sv, .slice M nm cm, .slice E ne ce, .slice V nv cv] 37) := ⟨_, rfl⟩
 rw [← hw4b] at hbx kb
 have hb5 := box_below w4b (.cells #[.int .i64 c] 3)
 have kc := Blk.new w4b 3 [.int .i64 c]
 have hsz4 : w4b.heap.size = w4.heap.size + 1 := by rw [hw4b]; simp
 rw [hsz4] at kc
 have HB5 := Lib.hid ((HB4.out.trans (hbx.mono HB4.out.size)).trans (hb5.mono (HB4.out.trans (hbx.mono HB4.out.size)).size))
 have HZ5 := Lib.hid ((((HZ.out.below hbx).more hbx.size).below hb5).more hb5.size)
 have HK5 := Lib.hid (kb.below hb5 kb.lt)
 have HQ5 := Lib.hid kc
 rw [hw4b] at HB5 HZ5 HK5 HQ5
 clear hbx hb5 kb kc HZ HB4 hsz4 hw4b
 go_upto_region 5 with fail
 try rw [hcv]
 clear hcv
 generalize hmb : w4.heap.size + 1 = cb at HQ5 ⊢
 generalize w4.heap.size = mb at HK5 ⊢
 generalize (w4.alloc (.cells #[.slice A na ca, .int .i64 sv, .slice M nm cm, .slice E ne ce, .slice V nv cv] 37)).alloc (.cells #[.int .i64 c] 3) = w5 at HK5 HB5 HZ5 HQ5 ⊢
 clear hmb
 obtain ⟨a0, a1, a2, a3, a4⟩ := Blk.c5 HK5.out
 have q0 := HQ5.out.cell (j := 0) rfl
 rcases HSE.out with h25 | h25
 rotate_left
 ·have HC := Lib.hid (HD1.out h25 w5 HZ5.out)
  clear h25
  go_wp2_with fail
  refine HC.out.mono ?_
  rintro _ w6 ⟨rfl, hb6⟩
  have HB6 := Lib.hid (HB5.out.trans (hb6.mono HB5.out.size))
  clear HC hb6 a0 a1 a2 a3 a4 q0
  go_wp2
  go_ret
  exact ⟨rfl, HB6.out⟩
 have HC := Lib.hid (HD0.out h25 w5 HZ5.out)
 clear h25 HD0 HD1 HSE
 cases hdi : diaS RT with
 | none =>
  rw [hdi] at HC
  clear HPL hdi
  go_wp2_with fail
  refine HC.out.mono ?_
  rintro _ w6 ⟨rfl, hb6⟩
  have HB6 := Lib.hid (HB5.out.trans (hb6.mono HB5.out.size))
  clear HC hb6 a0 a1 a2 a3 a4 q0
  go_wp2
  go_ret
  exact ⟨rfl, HB6.out⟩
 | some rb =>
 obtain ⟨r9, b9⟩ := rb
 have hbn : bndS RT = b9 := by unfold bndS; rw [hdi]
 rw [hdi, hbn] at HC
 have HPL := Lib.hid (HPL.out r9 b9 hdi)
 have hb9 := bounds_pos hdi
 clear hdi hbn
 go_wp2_with fail
 refine HC.out.mono ?_
 rintro _ w7 ⟨rfl, hb7⟩
 have HB7 := Lib.hid (HB5.out.trans (hb7.mono HB5.out.size))
 have HZ7 := Lib.hid ((HZ5.out.below hb7).more hb7.size)
 have HK7 := Lib.hid (HK5.out.below hb7 HK5.out.lt)
 have HQ7 := Lib.hid (HQ5.out.below hb7 HQ5.out.lt)
 clear HC hb7 a0 a1 a2 a3 a4 q0 HB5 HZ5 HK5 HQ5
 have HZW := Lib.hid (fun (W : World) (hb : Below w7.heap.size w7 W) => (HZ7.out.below hb).more hb.size)
 have HKW := Lib.hid (fun (W : World) (hb : Below w7.heap.size w7 W) => HK7.out.below hb HK7.out.lt)
 have HQW := Lib.hid (fun (W : World) (hb : Below w7.heap.size w7 W) => HQ7.out.below hb HQ7.out.lt)
 have HRA := Lib.hid (fun (W : World) (hb : Below w7.heap.size w7 W) => (HZW.out W hb).x.ra)
 have HBL := Lib.hid (fun (W : World) (hb : Below w7.heap.size w7 W) => HB7.out.trans (hb.mono HB7.out.size))
 clear HZ7 HK7 HQ7 HB7
 dsimp only at HRA
 have hbl := box_below w7 (.cells #[.slice none 0 0] 31)
 have HWD := Lib.hid (show WdN w7.heap.size w7 (w7.alloc (.cells #[.slice none 0 0] 31)) (.slice (some ⟨w7.heap.size, 0, none⟩) 1 1) 1 [⟨none, 0, 0, []⟩] from
  ⟨hbl, hbl.size, World.ownsRow_lit w7 #[.slice none 0 0] 1 (Nat.le_refl _) (by decide) rfl, rfl, fun u hu => by
   rw [List.mem_singleton.1 hu]
   exact ⟨⟨rfl, by show 0 ≤ 7; omega⟩, World.ownsRow_nil _ _ _ _⟩⟩)
 clear hbl
 go_upto_region 11 with fail
 go_loopw [10, 11, 12, 13, 14, 16, 17, 18, 19, 20, 21] (fun s10 s11 s12 s13 s14 s16 s17 s18 s19 s20 s21 wr => ∃ (i nl lc : Nat) (LA : Option Addr) (mo : Int) (v13 v14 v16 v17 v18 v19 v20 v21 : Value) (L : List IV), s10 = .slice LA nl lc ∧ s11 = .int .i64 mo ∧ s12 = .int .i64 i ∧ s13 = v13 ∧ s14 = v14 ∧ s16 = v16 ∧ s17 = v17 ∧ s18 = v18 ∧ s19 = v19 ∧ s20 = v20 ∧ s21 = v21 ∧ i ≤ nl ∧ nl ≤ 432 ∧ -1 ≤ mo ∧ mo < b9 ∧ mo ≤ 100 ∧ Hid (WdN w7.heap.size w7 wr (.slice LA nl lc) nl L)) (fun _ _ s12 _ _ _ _ _ _ _ _ _ => 500 - (intOf s12).toNat)
 case atStart => exact ⟨0, 1, 1, _, -1, _, _, _, _, _, _, _, _, _, rfl, rfl, rfl, rfl, rfl, rfl, rfl, rfl, rfl, rfl, rfl, by omega, by omega, by omega, by omega, by omega, HWD⟩
 case round =>
  clear HWD
  obtain ⟨i, nl, lc, LA, mo, v13, v14, v16, v17, v18, v19, v20, v21, L, rfl, rfl, rfl, rfl, rfl, rfl, rfl, rfl, rfl, rfl, rfl, hi, hnl, hmo1, hmo2, hmo3, HWD⟩ := hrel
  by_cases hin : i < nl
  case neg =>
   have b1 : ¬ (i : Int) < (nl : Int) := by omega
   have b2 : mo < b9 := hmo2
   go_wp2
   go_ret
   exact ⟨rfl, HBL.out _ HWD.out.bel⟩
  have b1 : (i : Int) < (nl : Int) := by omega
  by_cases hn4 : nl < 400
  case neg =>
   have b3 : ¬ (nl : Int) < 400 := by omega
   have b2 : mo < b9 := hmo2
   go_wp2
   go_ret
   exact ⟨rfl, HBL.out _ HWD.out.bel⟩
  have b3 : (nl : Int) < 400 := by omega
  obtain ⟨u, hu⟩ : ∃ u, L[i]? = some u := ⟨_, List.getElem?_eq_getElem (by rw [HWD.out.ln]; exact hin)⟩
  obtain ⟨⟨hul, hu7⟩, huo⟩ := HWD.out.wds u (List.mem_of_getElem? hu)
  obtain ⟨ld, rfl, hlb, hlc⟩ := ivc_at (RdR.of_own (f := ivc) (by omega) (fun _ _ => rfl) HWD.out.own) hu
  obtain ⟨UA, un, uc, ul⟩ := u
  dsimp only [IV.v] at hul hu7 huo hlc
  subst hul
  obtain ⟨UA', uc', e9, u1, u2, hur⟩ := own_slI huo
  injection e9 with e1 _ e3
  subst e1 e3
  have HUR := Lib.hid (fun (W : World) (hb : Below wr.heap.size wr W) => (show IV.ok W W.heap.size ⟨UA, ul.length, uc, ul⟩ from ⟨rfl, u1, u2, (hur.below hb).more hb.size⟩))
  by_cases hu77 : ul.length = 7
  ·have b4 : (((ul.length : Nat) : Int) == 7) = true := by rw [hu77]; rfl
   have b2 : mo < b9 := hmo2
   clear huo hur hu
   have hun9 : ∃ n, ul.length = n := ⟨_, rfl⟩
   obtain ⟨un, hun⟩ := hun9
   rw [hun] at b4 hlc
   have HN7 := Lib.hid hun
   clear hun hu77 hu7
   go_wp2
   go_ret
   exact ⟨rfl, HBL.out _ HWD.out.bel⟩
  have b4 : (((ul.length : Nat) : Int) == 7) = false := by
   rw [beq_eq_false_iff_ne]
   omega
  have hu6 : ul.length ≤ 6 := by omega
  obtain ⟨ue, hue⟩ : ∃ e, endsL m.a 0 ul = e := ⟨_, rfl⟩
  have HUE := Lib.hid hue
  have HC := Lib.hid (HEN.out wr (HZW.out wr HWD.out.bel) ⟨UA, ul.length, uc, ul⟩ (HUR.out wr (Below.refl _ _)))
  dsimp only at HC
  rw [hue] at HC
  obtain ⟨a0, a1, a2, a3, a4⟩ := Blk.c5 (HKW.out wr HWD.out.bel)
  obtain ⟨un, hun⟩ : ∃ n, ul.length = n := ⟨_, rfl⟩
  rw [hun] at hlc HC b4 hu6 hu7 hu
  have HUN := Lib.hid hun
  have HUI := Lib.hid hu
  clear hue hu huo hur hun u1 u2 hu77 HUR
  go_wp2_with fail
  refine HC.out.mono ?_
  rintro _ w8 ⟨rfl, hb8⟩
  have HWD8 := Lib.hid (HWD.out.quiet hb8)
  clear HC hb8 a0 a1 a2 a3 a4 hlc hlb HWD
  obtain ⟨a0, a1, a2, a3, a4⟩ := Blk.c5 (HKW.out w8 HWD8.out.bel)
  go_upto_region 17 with fail
  clear a0 a1 a2 a3 a4
  go_loopw [10, 11, 16, 17, 18, 19, 20, 21, 82] (fun s10 s11 s16 s17 s18 s19 s20 s21 s82 wr => ∃ (j nl lc : Nat) (LA : Option Addr) (mo : Int) (v16 v17 v18 v19 v20 v21 : Value) (L : List IV), s10 = .slice LA nl lc ∧ s11 = .int .i64 mo ∧ s16 = v16 ∧ s17 = v17 ∧ s18 = v18 ∧ s19 = v19 ∧ s20 = v20 ∧ s21 = v21 ∧ s82 = .int .i64 j ∧ j ≤ na ∧ i + 1 ≤ nl ∧ nl ≤ 400 + j ∧ -1 ≤ mo ∧ mo < b9 ∧ mo ≤ 100 ∧ Hid (WdN w7.heap.size w7 wr (.slice LA nl lc) nl L) ∧ Hid (L[i]? = some ⟨UA, un, uc, ul⟩)) (fun _ _ _ _ _ _ _ _ s82 _ => na - (intOf s82).toNat)
  case atStart => exact ⟨0, nl, lc, _, mo, _, _, _, _, _, _, L, rfl, rfl, rfl, rfl, rfl, rfl, rfl, rfl, rfl, Nat.zero_le _, by omega, by omega, hmo1, hmo2, hmo3, HWD8, HUI⟩
  case round =>
   clear HWD8 HUI hin hn4 b1 b3 b4 hi hnl hmo1 hmo2 hmo3
   obtain ⟨j, nl, lc, LA, mo, v16, v17, v18, v19, v20, v21, L, rfl, rfl, rfl, rfl, rfl, rfl, rfl, rfl, rfl, hj, hil, hnl, hmo1, hmo2, hmo3, HWD, HUI⟩ := hrel
   by_cases hja : j < na
   case neg =>
    obtain rfl : j = na := by omega
    have b1 : ¬ (j : Int) < (j : Int) := by omega
    go_wp2
    go_roundw
    case rel => exact ⟨i + 1, nl, lc, _, mo, _, _, _, _, _, _, _, _, L, rfl, rfl, by go_num, rfl, rfl, rfl, rfl, rfl, rfl, rfl, rfl, by omega, by omega, hmo1, hmo2, hmo3, HWD⟩
    case measure => simp [intOf]; omega
   have b1 : (j : Int) < (na : Int) := by omega
   obtain ⟨xe, hx⟩ : ∃ x, m.a.al[j]? = some x := ⟨_, List.getElem?_eq_getElem (by have := HLA.out; omega)⟩
   obtain ⟨aa, rfl, haa, hca⟩ := HRA.out wr HWD.out.bel j (.int .i64 xe) (by simp [iv, hx])
   obtain ⟨a0, a1, a2, a3, a4⟩ := Blk.c5 (HKW.out wr HWD.out.bel)
   have HC := Lib.hid (HST9.out wr (HZW.out wr HWD.out.bel) ue xe)
   obtain ⟨nx, hnx⟩ : ∃ z, nxt m.a ue xe = z := ⟨_, rfl⟩
   rw [hnx] at HC
   have HNX := Lib.hid hnx
   clear hnx hx haa
   go_wp2_with fail
   refine HC.out.mono ?_
   rintro _ w9 ⟨rfl, hb9w⟩
   have HWD9 := Lib.hid (HWD.out.quiet hb9w)
   clear HC hb9w a0 a1 a2 a3 a4 hca HWD
   by_cases hn0 : nx < 0
   ·go_wp2
    go_roundw
    case rel => exact ⟨j + 1, nl, lc, _, mo, _, _, _, _, _, _, L, rfl, rfl, rfl, rfl, rfl, rfl, rfl, rfl, by go_num, by omega, hil, by omega, hmo1, hmo2, hmo3, HWD9, HUI⟩
    case measure => simp [intOf]; omega
   have HVE := Lib.hid (show ¬ endsL m.a 0 (ul ++ [xe]) < 0 from ends_snoc HWF.out (by rw [HUE.out, HNX.out]; omega))
   have huo := (HWD9.out.wds _ (List.mem_of_getElem? HUI.out)).2
   have HC := Lib.hid (slices_Clone_n UA uc un ul w9 HUN.out (rdI_own7 HUN.out huo) (by omega))
   clear huo
   go_upto_region 20 with fail
   go_wp2_with fail
   refine HC.out.mono ?_
   rintro _ w10 ⟨v10, rfl, ho10, hb10⟩
   rw [HUN.out] at ho10
   have HB10 := Lib.hid hb10
   have HO10 := Lib.hid ho10
   have hsz10 : w9.heap.size ≤ w10.heap.size := hb10.size
   clear HC hb10 ho10 hn0
   go_upto_region 21 with (first
    | (at_builtin; refine wpList_push w10 (.int .i64 xe) rfl (.tmp 93) (.tmp 95) 31 rfl w9.heap.size 3 (.int .i64 0) 8 Try.underlying31 int_info rfl v10 un _ rfl HO10.out rfl rfl (by omega) (by omega) hsz10 ?_; intro v11 w11 ho11 hg11 hb11; have HO11 := Lib.hid ho11; have HB11 := Lib.hid (HB10.out.trans hb11); clear ho11 hg11 hb11)
    | fail)
   have HWD11 := Lib.hid (HWD9.out.quiet HB11.out)
   obtain ⟨VA, vc, rfl⟩ := own_shape HO11.out
   have HVO := Lib.hid (show w11.ownsRow w7.heap.size 3 1 (.slice VA (un + 1) vc) (un + 1) (iv (ul ++ [xe])) by
    rw [iv_append]
    exact own_base HO11.out HWD9.out.siz)
   have HVN := Lib.hid (show (ul ++ [xe]).length = un + 1 by rw [List.length_append, HUN.out]; rfl)
   obtain ⟨vl, hvl⟩ : ∃ l, ul ++ [xe] = l := ⟨_, rfl⟩
   rw [hvl] at HVO HVN HVE
   have hsz11 := HWD11.out.siz
   clear HWD9 HB11 HB10 HO10 HO11 hsz10 hvl
   go_upto_region 22 with (first
    | (at_builtin; refine wpList_pushA w11 [.slice VA (un + 1) vc] rfl (.tmp 97) (.tmp 99) 80 rfl w7.heap.size 31 (.slice none 0 0) 1 24 Try.underlying80 isl_info rfl (by decide) rfl (.slice LA nl lc) nl _ rfl HWD11.out.own rfl (sl_one ⟨VA, un + 1, vc, vl⟩) (by omega) (by omega) hsz11 ?_; intro A12 c12 w12 ho12 hg12 hl12; have HWA := Lib.hid (HWD11.out.add (x := ⟨VA, un + 1, vc, vl⟩) ho12 hg12 HVO.out ⟨HVN.out, by dsimp only; omega⟩); clear ho12 hg12 hl12)
    | fail)
   have HWD12 := Lib.hid HWA.out.1
   have HV12 := Lib.hid HWA.out.2
   dsimp only [IV.v] at HV12
   have HUI2 := Lib.hid (show (L ++ [(⟨VA, un + 1, vc, vl⟩ : IV)])[i]? = some ⟨UA, un, uc, ul⟩ by rw [List.getElem?_append_left (by rw [HWD11.out.ln]; omega)]; exact HUI.out)
   clear HWA HWD11 HVO hsz11
   have HVA := Lib.hid (show ∀ y ∈ vl, 0 ≤ y ∧ y < (nv : Int) from fun y hy => by
    obtain ⟨pr, hpr⟩ := run_some7 (m := m) (c := c) (ws := vl) HWF.out (by have h9 := HVE.out; omega)
    exact HEA.out y (runC_al (t := pr.1) (g := pr.2) hpr y hy))
   obtain ⟨L2, hL2⟩ : ∃ l, L ++ [(⟨VA, un + 1, vc, vl⟩ : IV)] = l := ⟨_, rfl⟩
   rw [hL2] at HWD12 HUI2
   clear hL2
   have HC := Lib.hid (ints_IndexFunc2 VA vc (un + 1) vl 35 (.pointer (some ⟨mb, 0, none⟩)) (.pointer (some ⟨cb, 0, none⟩)) (fun y => m.ft y == c) w12 HVN.out (rdI_own7 HVN.out HV12.out) (by omega) (fun _ _ => rfl) (fun y hy W hW => HFN.out mb cb W (HZW.out W (HWD12.out.bel.trans (hW.mono HWD12.out.siz))) (HKW.out W (HWD12.out.bel.trans (hW.mono HWD12.out.siz))) (HQW.out W (HWD12.out.bel.trans (hW.mono HWD12.out.siz))) y (HVA.out y hy)))
   obtain ⟨fi, hfi⟩ : ∃ i, idxJ (fun y => m.ft y == c) vl = i := ⟨_, rfl⟩
   rw [hfi] at HC
   have HFI := Lib.hid hfi
   clear hfi HVA
   go_wp2_with fail
   refine HC.out.mono ?_
   rintro _ w13 ⟨rfl, hb13⟩
   have HWD13 := Lib.hid (HWD12.out.quiet hb13)
   have HV13 := Lib.hid (own_below HV12.out hb13)
   clear HC hb13 HWD12 HV12
   by_cases hf0 : fi < 0
   ·go_wp2
    go_roundw
    case rel => exact ⟨j + 1, nl + 1, c12, _, mo, _, _, _, _, _, _, L2, rfl, rfl, rfl, rfl, rfl, rfl, rfl, rfl, by go_num, by omega, by omega, by omega, hmo1, hmo2, hmo3, HWD13, HUI2⟩
    case measure => simp [intOf]; omega
   obtain ⟨a0, a1, a2, a3, a4⟩ := Blk.c5 (HKW.out w13 HWD13.out.bel)
   have q0 := (HQW.out w13 HWD13.out.bel).cell (j := 0) rfl
   have hcap := own_capN HV13.out
   have HC := Lib.hid (HEX.out w13 (HZW.out w13 HWD13.out.bel) ⟨VA, un + 1, vc, vl⟩ ⟨HVN.out, hcap.1, hcap.2, rdI_own7 HVN.out HV13.out⟩ (by dsimp only; rw [HVN.out]; omega) (by have h9 := HVE.out; dsimp only; omega))
   dsimp only [IV.v] at HC
   obtain ⟨X, hX⟩ : ∃ r, excE m c (obsW m vl) = r := ⟨_, rfl⟩
   rw [hX] at HC
   have HXE := Lib.hid hX
   clear hX hcap
   cases X with
   | none =>
    go_wp2_with fail
    refine HC.out.mono ?_
    rintro _ w14 ⟨v14, rfl, ho14, hb14⟩
    have HWD14 := Lib.hid (HWD13.out.quiet hb14)
    clear HC hb14 ho14 a0 a1 a2 a3 a4 q0 HWD13 HV13
    dsimp only [Option.isSome_none]
    go_wp2
    go_roundw
    case rel => exact ⟨j + 1, nl + 1, c12, _, mo, _, _, _, _, _, _, L2, rfl, rfl, rfl, rfl, rfl, rfl, rfl, rfl, by go_num, by omega, by omega, by omega, hmo1, hmo2, hmo3, HWD14, HUI2⟩
    case measure => simp [intOf]; omega
   | some ws =>
    obtain ⟨p1, p2, p3, p4⟩ := HPL.out vl ws fi (by rw [HVN.out]; omega) (by have h9 := HVE.out; omega) HFI.out (by omega) HXE.out
    rw [HVN.out] at p1
    go_wp2_with fail
    refine HC.out.mono ?_
    rintro _ w14 ⟨v14, rfl, ho14, hb14⟩
    have HWD14 := Lib.hid (HWD13.out.quiet hb14)
    dsimp only [Option.isSome_some, Option.getD_some] at ho14 ⊢
    obtain ⟨WA, wc, rfl, k1, k2, k3⟩ := own_slI ho14
    have hra := HRA.out w14 HWD14.out.bel
    have HC2 := Lib.hid (word_Check_ok WA ws.length wc ws (some aa) na ca m.a.al w14 rfl k3 p3 HLA.out hra hna32 hnac hncA HWF.out.inc HWF.out.rng p4)
    obtain ⟨b0, b1', b2, b3, b4⟩ := Blk.c5 (HKW.out w14 HWD14.out.bel)
    clear HC hb14 ho14 a0 a1 a2 a3 a4 q0 HWD13 HV13 k1 k2 k3 hra p4
    generalize ws.length = wn at HC2 p3 ⊢
    go_wp2_with fail
    refine HC2.out.mono ?_
    rintro _ w15 ⟨rfl, hb15⟩
    have HWD15 := Lib.hid (HWD14.out.quiet hb15)
    clear HC2 hb15 b0 b1' b2 b3 b4 HWD14
    have hf1 : 0 ≤ fi := by omega
    go_wp2
    go_roundw
    case rel => exact ⟨j + 1, nl + 1, c12, _, _, _, _, _, _, _, _, L2, rfl, rfl, rfl, rfl, rfl, rfl, rfl, rfl, by go_num, by omega, by omega, by omega, by omega, by omega, by omega, HWD15, HUI2⟩
    case measure => simp [intOf]; omega
end Go.Proofs.Ytddhaidimadliaa
