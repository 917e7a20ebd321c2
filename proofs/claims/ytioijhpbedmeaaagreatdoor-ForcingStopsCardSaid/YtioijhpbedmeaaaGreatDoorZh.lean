/- Walks: forcing.Stops. -/
import Derived.Test.YtioijhpbedmeaaaGreatDoorUx
import Derived.Test.YtioijhpbedmeaaaGreatDoorYw
import Derived.Test.YtioijhpbedmeaaaGreatDoorNd
import Derived.Lib.SliceRun
import Derived.Deep.Cut
namespace Go.Proofs.YtioijhpbedmeaaaGreatDoor
open Go.RowKit Go Go.Maps

set_option maxRecDepth 100000 in
set_option maxHeartbeats 1600000 in
theorem stops_ok (z : SV) (q : Aut) (T : List (List Int)) (w : World) (h : z.ok w w.heap.size) (hP : Prob z.p.a z.s.a q T) (hc : chkF z.p.a z.s.a z.u z.f z.tick = 0) :
  Calls Tryz.prog 29 #[.agg (svc z).toArray] w (RetCyc (cycF q (minS q.al [z.tick])) w) := by
 have hb1 := box_below w (.cells (svc z).toArray 35)
 obtain ⟨w1, hw1⟩ : ∃ w1, w1 = w.alloc (.cells (svc z).toArray 35) := ⟨_, rfl⟩
 have vs : VarS w1 w.heap.size z := by rw [hw1]; exact VarS.new h
 rw [← hw1] at hb1
 have HC := Lib.hid (open_ok z q T w1 vs.ok hP hc)
 have HPW := Lib.hid hP.pwf
 have HB1 := Lib.hid hb1; clear hb1
 have VS := Lib.hid vs; clear vs
 have HW1 := Lib.hid hw1; clear hw1
 clear h hc hP
 go_enter Tryz.func29, Tryz.ntmps29
 go_upto_region 1 with fail
 rw [← HW1.out]
 go_wp2_with (first | refine wpList_load_sys rfl _ rfl w.heap.size z (by rfl) VS.out ?_ | fail)
 refine HC.out.mono ?_
 rintro e w2 ⟨b, x, B, nb, cb, rfl, hbl, hxa, hL, hb⟩
 have HB2 := Lib.hid (HB1.out.trans (hb.mono HB1.out.size))
 have HTK := Lib.hid (fun (W : World) (hW : Below w2.heap.size w2 W) => (show W.cell? ⟨w.heap.size, 10, none⟩ = some (.int .i64 z.tick) from ((VS.out.below hb).below hW).blk.cell (j := 10) rfl))
 have HXK := Lib.hid (fun (W : World) (hW : Below w2.heap.size w2 W) => (hL.below hW).xo)
 have HLC := Lib.hid (fun (W : World) (hW : Below w2.heap.size w2 W) => (hL.below hW).c)
 obtain ⟨A2, na2, ca2, M2, nm2, cm2, E2, ne2, ce2, q'⟩ := x
 dsimp only at hxa HXK HLC
 obtain rfl := hxa
 have HA := Lib.hid (fun (W : World) (hW : Below w2.heap.size w2 W) => (show (W.cell? ⟨b, 11, none⟩ = some (.slice A2 na2 ca2) ∧ W.cell? ⟨b, 12, none⟩ = some (.int .i64 q'.st) ∧ W.cell? ⟨b, 13, none⟩ = some (.slice M2 nm2 cm2) ∧ W.cell? ⟨b, 14, none⟩ = some (.slice E2 ne2 ce2)) ∧ W.cell? ⟨w.heap.size, 10, none⟩ = some (.int .i64 z.tick) from
  ⟨⟨HLC.out W hW 11 _ rfl, HLC.out W hW 12 _ rfl, HLC.out W hW 13 _ rfl, HLC.out W hW 14 _ rfl⟩, HTK.out W hW⟩))
 obtain ⟨sq, hsq⟩ : ∃ s, q'.st = s := ⟨_, rfl⟩
 rw [hsq] at HA
 have HSQ := Lib.hid hsq; clear hsq
 clear HC HLC hb hL HTK
 go_upto_region 4 with fail
 refine wp_region_U (fun W => (W.cell? ⟨b, 11, none⟩ = some (.slice A2 na2 ca2) ∧ W.cell? ⟨b, 12, none⟩ = some (.int .i64 sq) ∧ W.cell? ⟨b, 13, none⟩ = some (.slice M2 nm2 cm2) ∧ W.cell? ⟨b, 14, none⟩ = some (.slice E2 ne2 ce2)) ∧ W.cell? ⟨w.heap.size, 10, none⟩ = some (.int .i64 z.tick)) (fun _ => True) 21 (by kernel_rfl) ?_
 change anyU _ _ _ _ _ _ _ 22 _ _ _
 have hB0 : True := trivial
 have hbd := below_dr w2
 generalize w2.drew = wd at hbd ⊢
 have hA0 := HA.out wd hbd
 (refine uA 0 ?_ rfl hA0 hB0 (fun W hA => ?_) ?_; rotate_left; (· (go_simp; try with_reducible rfl)); refine uA 1 ?_ rfl hA0 hB0 (fun W hA => ?_) ?_; rotate_left; (· (go_simp; try with_reducible rfl)); refine uA 2 ?_ rfl hA0 hB0 (fun W hA => ?_) ?_; rotate_left; (· (go_simp; try with_reducible rfl)); (try simp only [Act.put, List.setIfInBounds_toArray, List.set_cons_zero, List.set_cons_succ]))
 (refine uA 3 ?_ rfl hA0 hB0 (fun W hA => ?_) ?_; rotate_left; (· (obtain ⟨⟨a0, a1, a2, a3⟩, _⟩ := hA; go_simp; try with_reducible rfl)); (try simp only [Act.put, List.setIfInBounds_toArray, List.set_cons_zero, List.set_cons_succ]))
 (refine uA 4 ?_ rfl hA0 hB0 (fun W hA => ?_) ?_; rotate_left; (· (go_simp; try with_reducible rfl)); refine uA 5 ?_ rfl hA0 hB0 (fun W hA => ?_) ?_; rotate_left; (· (go_simp; try with_reducible rfl)); refine uA 6 ?_ rfl hA0 hB0 (fun W hA => ?_) ?_; rotate_left; (· (go_simp; try with_reducible rfl)); refine uA 7 ?_ rfl hA0 hB0 (fun W hA => ?_) ?_; rotate_left; (· (go_simp; try with_reducible rfl)); (try simp only [Act.put, List.setIfInBounds_toArray, List.set_cons_zero, List.set_cons_succ]))
 (refine uA 8 ?_ rfl hA0 hB0 (fun W hA => ?_) ?_; rotate_left; (· (obtain ⟨⟨a0, _⟩, _⟩ := hA; go_simp; try with_reducible rfl)); (try simp only [Act.put, List.setIfInBounds_toArray, List.set_cons_zero, List.set_cons_succ]))
 (refine uA 9 ?_ rfl hA0 hB0 (fun W hA => ?_) ?_; rotate_left; (· (go_simp; try with_reducible rfl)); (try simp only [Act.put, List.setIfInBounds_toArray, List.set_cons_zero, List.set_cons_succ]))
 (refine uA 10 ?_ rfl hA0 hB0 (fun W hA => ?_) ?_; rotate_left; (· (obtain ⟨_, a0⟩ := hA; go_simp; try with_reducible rfl)); (try simp only [Act.put, List.setIfInBounds_toArray, List.set_cons_zero, List.set_cons_succ]))
 refine uOne (i := 11) rfl (by kernel_rfl) (fun K hK => ?_)
 go_simp
 have hbx := box_below wd (.cells #[.int .i64 z.tick] 3)
 have hkt := Blk.new wd 3 [.int .i64 z.tick]
 have HB3 := Lib.hid (hbd.trans (hbx.mono hbd.size))
 have HR1 := Lib.hid (show RdI (wd.alloc (.cells #[.int .i64 z.tick] 3)) (wd.alloc (.cells #[.int .i64 z.tick] 3)).heap.size (some ⟨wd.heap.size, 0, none⟩) [z.tick] from Blk.rdi hkt)
 obtain ⟨bt, hbt⟩ : ∃ b, wd.heap.size = b := ⟨_, rfl⟩
 rw [hbt] at HR1 ⊢
 generalize wd.alloc (.cells #[.int .i64 z.tick] 3) = w3 at HB3 HR1 ⊢
 clear hbx hkt hbd hA0 hbt
 have hA3 := HA.out w3 HB3.out
 (refine hK _ _ ⟨hA3, fun _ => hB0⟩ ?_; clear hK K; (try simp only [Act.put, List.setIfInBounds_toArray, List.set_cons_zero, List.set_cons_succ]))
 have hA0 := hA3
 have HMN := Lib.hid (alphabet_Minus A2 (some ⟨bt, 0, none⟩) na2 1 ca2 1 q'.al [z.tick] w3 (HXK.out w3 HB3.out).la (HXK.out w3 HB3.out).ra (HXK.out w3 HB3.out).ac (HXK.out w3 HB3.out).cA rfl HR1.out (Nat.le_refl _) (by omega) (by have h1 := HPW.out.al_le; have h2 : q'.al.length = na2 := (HXK.out w3 HB3.out).la; omega) HPW.out.inc (List.pairwise_singleton _ _))
 refine uOne (i := 12) rfl (by kernel_rfl) (fun K hK => ?_)
 go_simp
 go_at_call 56
 refine HMN.out.mono ?_
 rintro e w4 ⟨v4, rfl, ho4, hb4⟩
 obtain ⟨V4, c4, rfl, p41, p42, r4⟩ := own_slI ho4
 have HB4 := Lib.hid (HB3.out.trans (hb4.mono HB3.out.size))
 have HR4 := Lib.hid r4
 have hA4 := HA.out w4 HB4.out
 clear hA0 hA3 HMN ho4 hb4 r4 HR1
 (refine hK _ _ ⟨hA4, fun _ => hB0⟩ ?_; clear hK K; (try simp only [Act.put, List.setIfInBounds_toArray, List.set_cons_zero, List.set_cons_succ]))
 have hA0 := hA4
 have hst : q'.st = (q'.st.toNat : Int) := by have := HPW.out.st0; omega
 have HCY := Lib.hid (reach_Cycle ⟨A2, na2, ca2, M2, nm2, cm2, E2, ne2, ce2, q'⟩ w4 q'.st.toNat (HXK.out w4 HB4.out) HPW.out hst V4 _ c4 (minS q'.al [z.tick]) rfl HR4.out p41 p42 (setErr_mk (inc_flt HPW.out.inc _) (fun v hv => HPW.out.rng v ((List.mem_filter.1 hv).1))) (fun v hv => HPW.out.rng v ((List.mem_filter.1 hv).1)) _ rfl)
 dsimp only at HCY
 rw [HSQ.out] at HCY
 clear hst
 refine uOne (i := 13) rfl (by kernel_rfl) (fun K hK => ?_)
 go_simp
 go_at_call 33
 refine HCY.out.mono ?_
 rintro e w5 ⟨pv, cv, rfl, hop, hoc, hb5⟩
 have hA5 := HA.out w5 (HB4.out.trans (hb5.mono HB4.out.size))
 have hs4 := HB4.out.size
 have HF := Lib.hid (show w5.ownsRow w.heap.size 3 1 pv (cycF q' (minS q'.al [z.tick])).1.1.length (iv (cycF q' (minS q'.al [z.tick])).1.1) ∧ w5.ownsRow w.heap.size 3 1 cv (cycF q' (minS q'.al [z.tick])).1.2.length (iv (cycF q' (minS q'.al [z.tick])).1.2) ∧ Below w.heap.size w w5 from
  ⟨own_base hop (by have := HB2.out.size; omega), own_base hoc (by have := HB2.out.size; omega), HB2.out.trans ((HB4.out.trans (hb5.mono HB4.out.size)).mono HB2.out.size)⟩)
 obtain ⟨fd, hfd⟩ : ∃ f, (cycF q' (minS q'.al [z.tick])).2 = f := ⟨_, rfl⟩
 rw [hfd]
 have HFD := Lib.hid hfd; clear hfd
 clear hA0 hA4 HCY hop hoc hb5 p41 p42 HR4
 (refine hK _ _ ⟨hA5, fun _ => hB0⟩ ?_; clear hK K; (try simp only [Act.put, List.setIfInBounds_toArray, List.set_cons_zero, List.set_cons_succ]))
 have hA0 := hA5
 (refine uA 14 ?_ rfl hA0 hB0 (fun W hA => ?_) ?_; rotate_left; (· (go_simp; try with_reducible rfl)); refine uA 15 ?_ rfl hA0 hB0 (fun W hA => ?_) ?_; rotate_left; (· (go_simp; try with_reducible rfl)); refine uA 16 ?_ rfl hA0 hB0 (fun W hA => ?_) ?_; rotate_left; (· (go_simp; try with_reducible rfl)); refine uA 17 ?_ rfl hA0 hB0 (fun W hA => ?_) ?_; rotate_left; (· (go_simp; try with_reducible rfl)); refine uA 18 ?_ rfl hA0 hB0 (fun W hA => ?_) ?_; rotate_left; (· (go_simp; try with_reducible rfl)); refine uA 19 ?_ rfl hA0 hB0 (fun W hA => ?_) ?_; rotate_left; (· (go_simp; try with_reducible rfl)); refine uA 20 ?_ rfl hA0 hB0 (fun W hA => ?_) ?_; rotate_left; (· (go_simp; try with_reducible rfl)); (try simp only [Act.put, List.setIfInBounds_toArray, List.set_cons_zero, List.set_cons_succ]))
 refine uOne (i := 21) rfl (by kernel_rfl) (fun K hK => ?_)
 go_simp
 (refine hK _ _ ⟨hA5, fun h => absurd (h.symm.trans (by kernel_rfl : _ = true)) Bool.false_ne_true⟩ ?_; clear hK K; (try simp only [Act.put, List.setIfInBounds_toArray, List.set_cons_zero, List.set_cons_succ]))
 refine anyU_done (by kernel_rfl) ?_ _
 clear hA0 hA5
 go_wp2
 refine bodyPost_ret (v := .tuple #[pv, cv, .bool fd, .int .i64 0]) (by simp [results, Tryz.results29, go_sem]) rfl ?_
 exact ⟨pv, cv, by rw [HFD.out], HF.out⟩
end Go.Proofs.YtioijhpbedmeaaaGreatDoor

/- Walks: slices.DeleteFunc at ints, with a function that captures one value. -/
namespace Go.Proofs.YtioijhpbedmeaaaGreatDoor
open Go.RowKit Go

theorem idxJ_spec {p : Int → Bool} : ∀ (l : List Int), (idxJ p l = -1 ∧ l.filter (fun x => !p x) = l) ∨ ∃ (k : Nat) (x : Int), idxJ p l = (k : Int) ∧ l[k]? = some x ∧ p x = true ∧ (l.take k).filter (fun x => !p x) = l.take k
 | [] => .inl ⟨rfl, rfl⟩
 | y :: r => by
  cases hy : p y with
  | true => exact .inr ⟨0, y, by unfold idxJ; rw [hy]; rfl, rfl, hy, rfl⟩
  | false =>
   rcases idxJ_spec (p := p) r with ⟨h1, h2⟩ | ⟨k, x, h1, h2, h3, h4⟩
   ·refine .inl ⟨by unfold idxJ; rw [hy, h1]; rfl, ?_⟩
    rw [List.filter_cons_of_pos (by simp [hy]), h2]
   ·refine .inr ⟨k + 1, x, ?_, by simpa using h2, h3, ?_⟩
    ·unfold idxJ
     rw [hy, h1, if_neg (by simp), if_neg (by omega)]
     omega
    ·rw [List.take_succ_cons, List.filter_cons_of_pos (by simp [hy]), h4]
theorem setCells_grow (b : Nat) : ∀ (l : List Value) (k : Nat) (w : World), w.grownBy (w.setCells b k l) (some b)
 | [], _, w => grown_refl w _
 | v :: l, k, w => (grown_setCell w b k v).trans (setCells_grow b l (k + 1) _)
theorem setCells_mid {b : Nat} {t : TypeId} : ∀ (l : List Value) (o : Nat) {vs : List Value} {w : World}, Blk w b t vs → o + l.length ≤ vs.length → ∃ vs', Blk (w.setCells b o l) b t vs' ∧ vs'.length = vs.length ∧ vs'.take o = vs.take o
 | [], _, vs, _, h, _ => ⟨vs, h, rfl, rfl⟩
 | v :: l, o, vs, w, h, hl => by
  simp only [List.length_cons] at hl
  obtain ⟨vs', h1, h2, h3⟩ := setCells_mid l (o + 1) (h.set (j := o) (by omega) v) (by rw [List.length_set]; omega)
  refine ⟨vs', h1, by rw [h2, List.length_set], ?_⟩
  have := congrArg (List.take o) h3
  rw [List.take_take, List.take_take, Nat.min_eq_left (by omega), List.take_set, List.set_eq_of_length_le (by rw [List.length_take]; omega)] at this
  exact this
/-- the row while it is rewritten: what is kept so far, and what has not been looked at -/
structure DelM (w0 W : World) (g cap n : Nat) (l : List Int) (p : Int → Bool) (i j : Nat) : Prop where
 gr : w0.grownBy W (some g)
 row : ∃ cs : List Value, Blk W g 3 cs ∧ cs.length = cap ∧ cs.take i = iv ((l.take j).filter fun x => !p x) ∧ ∀ k, j ≤ k → k < n → cs[k]? = (iv l)[k]?
 len : i = ((l.take j).filter fun x => !p x).length
theorem take_snocD {l : List Int} {j : Nat} {x : Int} (h : l[j]? = some x) : l.take (j + 1) = l.take j ++ [x] := by
 rw [List.take_add_one, h]; rfl
theorem DelM.skip {w0 W : World} {g cap n : Nat} {l : List Int} {p : Int → Bool} {i j : Nat} {x : Int} (h : DelM w0 W g cap n l p i j) (hx : l[j]? = some x) (hp : p x = true) : DelM w0 W g cap n l p i (j + 1) := by
 have e : (l.take (j + 1)).filter (fun x => !p x) = (l.take j).filter fun x => !p x := by
  rw [take_snocD hx, List.filter_append, List.filter_cons_of_neg (by simp [hp])]; simp
 obtain ⟨cs, h1, h2, h3, h4⟩ := h.row
 exact ⟨h.gr, ⟨cs, h1, h2, by rw [e]; exact h3, fun k hk hn => h4 k (by omega) hn⟩, by rw [e]; exact h.len⟩
theorem DelM.keep {w0 W : World} {g cap n : Nat} {l : List Int} {p : Int → Bool} {i j : Nat} {x : Int} (h : DelM w0 W g cap n l p i j) (hx : l[j]? = some x) (hp : p x = false) (hij : i ≤ j) (hc : j < cap) : DelM w0 (W.setCell ⟨g, i, none⟩ (.int .i64 x)) g cap n l p (i + 1) (j + 1) := by
 have e : (l.take (j + 1)).filter (fun x => !p x) = (l.take j).filter (fun x => !p x) ++ [x] := by
  rw [take_snocD hx, List.filter_append, List.filter_cons_of_pos (by simp [hp])]; rfl
 obtain ⟨cs, h1, h2, h3, h4⟩ := h.row
 have hi : i < cs.length := by omega
 refine ⟨⟨h.gr.os, h.gr.tape, h.gr.output, by simpa [World.setCell] using h.gr.size, fun k hk hne => ?_⟩, ⟨cs.set i (.int .i64 x), h1.set hi _, by rw [List.length_set]; exact h2, ?_, fun k hk hn => ?_⟩, by rw [e, List.length_append, ← h.len]; rfl⟩
 ·have hs := h.gr.size
  rw [← h.gr.block k hk hne]
  exact (grown_setCell W g i (.int .i64 x)).block k (by omega) hne
 ·rw [e, iv_append, ← h3, List.take_add_one, List.take_set, List.getElem?_set_self hi]
  rw [List.set_eq_of_length_le (by rw [List.length_take]; omega)]
  rfl
 ·rw [List.getElem?_set_ne (by omega)]
  exact h4 k (by omega) hn
theorem DelM.cell {w0 W : World} {g cap n : Nat} {l : List Int} {p : Int → Bool} {i j : Nat} {x : Int} (h : DelM w0 W g cap n l p i j) (hx : l[j]? = some x) (hn : j < n) : W.cell? ⟨g, j, none⟩ = some (.int .i64 x) := by
 obtain ⟨cs, h1, _, _, h4⟩ := h.row
 refine h1.cell ?_
 rw [h4 j (Nat.le_refl _) hn, iv_get, hx]
 rfl
/-- what DeleteFunc returns: the row cut to what is kept -/
def RetDel (g cap : Nat) (r : List Int) (w : World) (e : Ending) (w' : World) : Prop := ∃ m, m = r.length ∧ e = .returned (.slice (some ⟨g, 0, none⟩) m cap) ∧ w.grownBy w' (some g) ∧ ∃ cs', Blk w' g 3 cs' ∧ cs'.length = cap ∧ cs'.take m = iv r
set_option maxRecDepth 100000 in
set_option maxHeartbeats 800000 in
theorem slices_DeleteFunc (g cap n : Nat) (cs : List Value) (l : List Int) (gf : Nat) (cv : Value) (p : Int → Bool) (w : World) (hk : Blk w g 3 cs) (hcs : cs.length = cap) (hc : cs.take n = iv l) (hl : l.length = n) (hn : n ≤ cap) (hcap : cap ≤ 9223372036854775807)
  (eg : ∀ args w, (callFunc gf args).run Tryz.prog w = .ok (.enter gf args) w)
  (hp : ∀ (x : Int) W, w.grownBy W (some g) → Calls Tryz.prog gf #[.int .i64 x, cv] W fun e W' => e = .returned (.bool (p x)) ∧ W = W') :
  Calls Tryz.prog 30 #[.slice (some ⟨g, 0, none⟩) n cap, .func (.func gf) #[] #[cv]] w (RetDel g cap (l.filter fun x => !p x) w) := by
 have hrd : RdI w w.heap.size (some ⟨g, 0, none⟩) l := fun k u hu => ⟨_, rfl, hk.lt, by
  rw [Addr.add_lit, Nat.zero_add]
  refine hk.cell ?_
  rw [← hc, List.getElem?_take] at hu
  split at hu
  ·exact hu
  ·cases hu⟩
 have HI := Lib.hid (ints_IndexFunc (some ⟨g, 0, none⟩) cap n l gf cv p w hl hrd (by omega) eg (fun x => hp x w (grown_refl w _)))
 have hat : ∀ k, k < n → cs[k]? = (iv l)[k]? := fun k hk' => by rw [← hc, List.getElem?_take, if_pos hk']
 have HP := Lib.hid hp; clear hp
 have HL := Lib.hid hl; clear hl
 rcases idxJ_spec (p := p) l with ⟨e1, e2⟩ | ⟨k0, x0, e1, hx0, hp0, e2⟩
 ·rw [e1] at HI
  have HK := Lib.hid hk
  have HC := Lib.hid hc
  have HE := Lib.hid e2
  clear hk hc hrd hat e1 e2
  go_enter Tryz.func30, Tryz.ntmps30
  go_wp2_with fail
  refine HI.out.mono ?_
  rintro e w' ⟨rfl, rfl⟩
  go_wp2
  go_ret
  exact ⟨n, by rw [HE.out, HL.out], rfl, grown_refl w _, cs, HK.out, hcs, by rw [HE.out]; exact HC.out⟩
 ·have hk0 : k0 < n := by have := (List.getElem?_eq_some_iff.1 hx0).1; have := HL.out; omega
  have b0 : ((k0 : Int) == -1) = false := beq_eq_false_iff_ne.2 (by omega)
  have hD0 : DelM w w g cap n l p k0 k0 := ⟨grown_refl w _, ⟨cs, hk, hcs, by
   rw [e2]
   have : cs.take k0 = (cs.take n).take k0 := by rw [List.take_take, Nat.min_eq_left (by omega)]
   rw [this, hc]; simp [iv, List.map_take], fun k _ hk' => hat k hk'⟩, by rw [e2, List.length_take]; have := HL.out; omega⟩
  have HD := Lib.hid (hD0.skip hx0 hp0)
  rw [e1] at HI
  clear hk hc hrd hat e1 e2 hD0 hx0 hp0
  go_enter Tryz.func30, Tryz.ntmps30
  go_wp2_with fail
  refine HI.out.mono ?_
  rintro e w' ⟨rfl, rfl⟩
  go_wp2
  go_loopw [5, 6, 7] (fun s5 s6 s7 wr => ∃ (i j : Nat) (v7 : Value), s5 = .int .i64 i ∧ s6 = .int .i64 j ∧ s7 = v7 ∧ i < j ∧ j ≤ n ∧ Hid (DelM w wr g cap n l p i j)) (fun _ s6 _ _ => n - (intOf s6).toNat)
  case atStart => exact ⟨k0, k0 + 1, _, rfl, by go_num, rfl, by omega, by omega, HD⟩
  case round =>
   clear HD b0
   obtain ⟨i, j, v7, rfl, rfl, rfl, hij, hjn, HM⟩ := hrel
   by_cases hlt : j < n
   ·obtain ⟨x, hx⟩ : ∃ x, l[j]? = some x := ⟨_, List.getElem?_eq_getElem (by have := HL.out; omega)⟩
    have cj := HM.out.cell hx hlt
    obtain ⟨csx, hkx, hcx, _, _⟩ := HM.out.row
    have hix : i < csx.length := by omega
    obtain ⟨u, hu⟩ : ∃ u, csx[i]? = some u := ⟨_, List.getElem?_eq_getElem hix⟩
    have ci : wr.cell? ⟨g, i, none⟩ = some u := hkx.cell hu
    have fi : wr.frozen? ⟨g, i, none⟩ = false := hkx.free _
    have li : g < wr.heap.size := hkx.lt
    have b1 : (j : Int) < (n : Int) := by omega
    have HCL := Lib.hid (HP.out x wr HM.out.gr)
    have hin : i < n := by omega
    have HX := Lib.hid hx
    clear hx hkx hcx hu hix
    cases hq : p x with
    | true =>
     rw [hq] at HCL
     have HM2 := Lib.hid (HM.out.skip HX.out hq)
     go_wp2_with (go_at_fn gf; refine HCL.out.mono ?_; rintro e w' ⟨rfl, rfl⟩)
     go_roundw
     case rel => exact ⟨i, j + 1, _, rfl, by go_num, rfl, by omega, by omega, HM2⟩
     case measure => simp [intOf]; omega
    | false =>
     rw [hq] at HCL
     have HM2 := Lib.hid (HM.out.keep HX.out hq (by omega) (by omega))
     go_wp2_with (go_at_fn gf; refine HCL.out.mono ?_; rintro e w' ⟨rfl, rfl⟩)
     go_roundw
     case rel => exact ⟨i + 1, j + 1, _, by go_num, by go_num, rfl, by omega, by omega, HM2⟩
     case measure => simp [intOf]; omega
   ·obtain rfl : j = n := by omega
    have b1 : ¬ (j : Int) < (j : Int) := by omega
    have hne : ¬ cap = i := by omega
    have t1 : (i : Int) ≤ (cap : Int) := by omega
    have t2 : (i : Int) ≤ (j : Int) := by omega
    obtain ⟨csx, hkx, hcx, htk, _⟩ := HM.out.row
    have hta : l.take j = l := List.take_of_length_le (by rw [HL.out]; exact Nat.le_refl _)
    have hlen := HM.out.len
    rw [hta] at htk hlen
    have hcl : ∀ ty, (Builtin.clear_ #[30] ty #[.slice (some ⟨g, i, none⟩) (j - i) (cap - i)]).run Tryz.prog wr = .ok (.tuple #[]) (wr.setCells g i (List.replicate (j - i) (.int .i64 0))) := fun ty =>
     Lib.run_clear_slice wr _ _ ty _ Tryz.underlying30 (fun _ => rfl) rfl rfl g i _ _ (by omega) (fun t ht => by
      rw [hkx.cell (List.getElem?_eq_getElem (show i + t < csx.length by omega))]; rfl) (fun t ht => hkx.free _)
    obtain ⟨cs2, hk2, hl2, hm2⟩ := setCells_mid (List.replicate (j - i) (.int .i64 0)) i hkx (by rw [List.length_replicate]; omega)
    have HF := Lib.hid (show i = (l.filter fun x => !p x).length ∧ w.grownBy (wr.setCells g i (List.replicate (j - i) (.int .i64 0))) (some g) ∧ ∃ cs', Blk (wr.setCells g i (List.replicate (j - i) (.int .i64 0))) g 3 cs' ∧ cs'.length = cap ∧ cs'.take i = iv (l.filter fun x => !p x) from
     ⟨hlen, HM.out.gr.trans (setCells_grow g _ i wr), cs2, hk2, by omega, by rw [hm2]; exact htk⟩)
    clear hlen htk hk2 hl2 hm2 hkx hcx
    go_wp2
    go_ret
    obtain ⟨f1, f2⟩ := HF.out
    exact ⟨i, f1, rfl, f2⟩
end Go.Proofs.YtioijhpbedmeaaaGreatDoor

/- The law ForcingStops: its walk. Printed by wip/mkz.py. -/
namespace Go.Proofs.YtioijhpbedmeaaaGreatDoor
open Go.RowKit Go Go.Maps
theorem minS_one (l : List Int) (t : Int) : minS l [t] = l.filter fun x => !(x == t) := by
 unfold minS
 congr 1
 funext z
 unfold hasB
 by_cases h : z = t
 ·subst h; simp
 ·simp [h]
theorem stops1_ok (b : Nat) (x t : Int) (w : World) (hc : w.cell? ⟨b, 10, none⟩ = some (.int .i64 t)) :
  Calls Tryz.prog 32 #[.int .i64 x, .pointer (some ⟨b, 0, none⟩)] w fun e w' => e = .returned (.bool (x == t)) ∧ w = w' := by
 go_enter Tryz.func32, Tryz.ntmps32
 go_wp2
 go_ret
 exact ⟨rfl, rfl⟩
set_option maxRecDepth 100000 in
set_option maxHeartbeats 1600000 in
theorem stops_walk (x : Sk) (w : World) (hok : x.ok) :
  Calls Tryz.prog 8 #[.agg (skcells x).toArray] w fun e w' => e = .returned (.bool true) ∧ Below w.heap.size w w' := by
 have hb1 := box_below w (.cells (skcells x).toArray 28)
 obtain ⟨w1, hw1⟩ : ∃ w1, w1 = (w.alloc (.cells (skcells x).toArray 28)) := ⟨_, rfl⟩
 have kx : Blk w1 w.heap.size 28 (skcells x) := by rw [hw1]; exact Blk.new _ _ _
 rw [← hw1] at hb1
 have HC := Lib.hid (law_known45 w1)
 have HW1 := Lib.hid hw1; clear hw1
 have HB1 := Lib.hid hb1; clear hb1
 have KX := Lib.hid kx; clear kx
 have HOK := Lib.hid hok; clear hok
 go_enter Tryz.func8, Tryz.ntmps8
 go_wp2_with fail
 rw [← HW1.out]
 refine HC.out.mono ?_
 rintro e w2 ⟨rfl, hb⟩
 have HB2 := Lib.hid (HB1.out.trans (hb.mono HB1.out.size))
 have hk2 := KX.out.below hb KX.out.lt
 have HMK := Lib.hid (law_MakeS x w2 HOK.out)
 clear HC hb KX HB1 HW1
 go_wp2_with (first | refine wpList_load_sk rfl _ rfl w.heap.size x HOK.out (by rfl) hk2 ?_ | fail)
 clear hk2
 refine HMK.out.mono ?_
 rintro e w3 ⟨z, rfl, hp, hs, hu, hf, ht, hz, hb⟩
 obtain ⟨q, T, hS, hP⟩ := SysR.of HOK.out hz hp hs hu hf ht
 have vs := VarS.new hz
 have hbx := box_below w3 (.cells #[.slice z.p.A z.p.na z.p.ca, .int .i64 z.p.a.st, .slice z.p.M z.p.nm z.p.cm, .slice z.p.E z.p.ne z.p.ce, .slice z.s.A z.s.na z.s.ca, .int .i64 z.s.a.st, .slice z.s.M z.s.nm z.s.cm, .slice z.s.E z.s.ne z.s.ce, .slice z.U z.nu z.cu, .slice z.F z.nf z.cf, .int .i64 z.tick] 35)
 have HB4 := Lib.hid (HB2.out.trans ((hb.trans (hbx.mono hb.size)).mono HB2.out.size))
 have HS := Lib.hid hS; clear hS
 clear hp hs hu hf ht hz hb hbx HMK HB2 hP
 unfold svc
 go_upto_region 4 with fail
 obtain ⟨bs, hbs⟩ : ∃ b, w3.heap.size = b := ⟨_, rfl⟩
 rw [hbs] at vs ⊢
 generalize w3.alloc (.cells #[.slice z.p.A z.p.na z.p.ca, .int .i64 z.p.a.st, .slice z.p.M z.p.nm z.p.cm, .slice z.p.E z.p.ne z.p.ce, .slice z.s.A z.s.na z.s.ca, .int .i64 z.s.a.st, .slice z.s.M z.s.nm z.s.cm, .slice z.s.E z.s.ne z.s.ce, .slice z.U z.nu z.cu, .slice z.F z.nf z.cf, .int .i64 z.tick] 35) = w4 at vs HB4 ⊢
 clear hbs
 have VS := Lib.hid vs; clear vs
 have HTL := Lib.hid (show ∀ t ∈ T, t.length = 2 from HS.out.prob.len2)
 have HST := Lib.hid (stops_ok z q T w4 VS.out.ok HS.out.prob HS.out.chk)
 have hrf := fun h => cycF_in (a := q) (evs := q.al.filter fun x => !(x == z.tick)) HS.out.prob.pwf (fun v hv => HS.out.prob.pwf.rng v ((List.mem_filter.1 hv).1)) h
 rw [minS_one] at HST
 obtain ⟨R, hR⟩ : ∃ R, cycF q (q.al.filter fun x => !(x == z.tick)) = R := ⟨_, rfl⟩
 rw [hR] at HST hrf
 obtain ⟨⟨RP, RC⟩, fd⟩ := R
 unfold RetCyc at HST
 dsimp only at HST hrf
 have HRF := Lib.hid (show fd = true → 0 < RC.length ∧ hasB RC z.tick = false from fun h => ⟨List.length_pos_iff.2 (hrf h).1, by
  cases hb : hasB RC z.tick with
  | false => rfl
  | true =>
   have := (hrf h).2 _ (hasB_mem.1 hb)
   rw [List.mem_filter] at this
   simp at this⟩)
 have HR := Lib.hid hR; clear hR
 clear hrf
 go_wp2_with (first | refine wpList_load_sys rfl _ rfl bs z (by rfl) VS.out ?_ | fail)
 refine HST.out.mono ?_
 rintro e v4 ⟨pv, cv, rfl, hop, hoc, hb⟩
 obtain ⟨PA, pc, rfl, p1, p2, rp⟩ := own_slI hop
 obtain ⟨CA, cc, rfl, k1, k2, rc⟩ := own_slI hoc
 have HRP := Lib.hid rp
 have HRC := Lib.hid rc
 have HPC := Lib.hid (And.intro p1 (And.intro p2 (And.intro k1 k2)))
 clear HST hop hoc rp rc p1 p2 k1 k2
 have HBv4 := Lib.hid (HB4.out.trans (hb.mono HB4.out.size))
 replace VS := Lib.hid (VS.out.below hb)
 clear hb HB4
 have HC := Lib.hid (HS.out.lloop VS.out.ok)
 go_wp2_with (first | refine wpList_load_sys rfl _ rfl bs z (by rfl) VS.out ?_ | fail)
 refine HC.out.mono ?_
 rintro e v5 ⟨y5, B5, nb5, cb5, C5, cc5, ws5, rfl, hya, hy, hT, tl, t1, t2, hC, hwl, u1, u2, hb⟩
 have HT5 := Lib.hid hT
 have HTL5 := Lib.hid (And.intro tl (And.intro t1 t2))
 have HW5 := Lib.hid hC
 have HWL5 := Lib.hid (And.intro hwl (And.intro u1 u2))
 have HYA5 := Lib.hid hya
 clear hT tl t1 t2 hC hwl u1 u2 hya HC
 have HBv5 := Lib.hid (HBv4.out.trans (hb.mono HBv4.out.size))
 replace VS := Lib.hid (VS.out.below hb)
 replace HRP := Lib.hid ((HRP.out.below hb).more hb.size)
 replace HRC := Lib.hid ((HRC.out.below hb).more hb.size)
 clear hb HBv4
 have VY5 := Lib.hid (VarA.new hy)
 have hx := box_below v5 (.cells #[.slice y5.A y5.na y5.ca, .int .i64 y5.a.st, .slice y5.M y5.nm y5.cm, .slice y5.E y5.ne y5.ce] 33)
 clear hy
 have HBx5 := Lib.hid (HBv5.out.trans (hx.mono HBv5.out.size))
 replace VS := Lib.hid (VS.out.below hx)
 replace HRP := Lib.hid ((HRP.out.below hx).more hx.size)
 replace HRC := Lib.hid ((HRC.out.below hx).more hx.size)
 replace HT5 := Lib.hid ((HT5.out.below hx).more hx.size)
 replace HW5 := Lib.hid ((HW5.out.below hx).more hx.size)
 clear hx HBv5
 go_upto_region 6 with fail
 obtain ⟨b5, hn⟩ : ∃ b, v5.heap.size = b := ⟨_, rfl⟩
 rw [hn] at VY5 ⊢
 generalize v5.alloc (.cells #[.slice y5.A y5.na y5.ca, .int .i64 y5.a.st, .slice y5.M y5.nm y5.cm, .slice y5.E y5.ne y5.ce] 33) = x5 at VY5 HBx5 VS HRP HRC HT5 HW5 ⊢
 clear hn
 have hla := VY5.out.ok.la
 rw [HYA5.out] at hla
 have hal := HS.out.prob.pwf.al_le
 have hpos : 0 < y5.na := by have h2 := VS.out.ok.p.la; have h3 := HS.out.ne; rw [HS.out.prob.alq] at hla; omega
 have HCL := Lib.hid (slices_Clone_n y5.A y5.ca y5.na q.al x5 hla (by have h := VY5.out.ok.ra; rw [HYA5.out] at h; exact h) (by omega))
 have q0 := VY5.out.c0
 go_wp2_with fail
 refine HCL.out.mono ?_
 rintro e w6 ⟨v6, rfl, ho6, hb6⟩
 clear q0 HCL
 rw [hla] at ho6
 rcases ho6.2 with ⟨_, h0⟩ | ⟨g6, cap6, cur6, rfl, hg6, hk6, hc6, hm6, hz6, ht6⟩
 ·exact absurd h0 (by omega)
 have hkb : Blk w6 g6 3 cur6.toList := by unfold Blk; rw [Array.toArray_toList]; exact hk6
 have HVB := Lib.hid ((VS.out.below hb6).blk)
 have hbs := VS.out.blk.lt
 have hcap : cap6 ≤ 9223372036854775807 := hm6
 have HD := Lib.hid (slices_DeleteFunc g6 cap6 y5.na cur6.toList q.al 32 (.pointer (some ⟨bs, 0, none⟩)) (fun x => x == z.tick) w6 hkb (by rw [Array.length_toList, hz6, Nat.mul_one]) (by rw [Nat.mul_one] at ht6; exact ht6) hla hc6 hcap (fun _ _ => rfl) (fun x W hg => stops1_ok bs x z.tick W ((HVB.out.kept hg (fun e => by injection e with e; omega)).cell (j := 10) rfl)))
 have HG6 := Lib.hid hg6
 have HB6 := Lib.hid hb6
 clear hk6 hz6 ht6 hkb ho6 HVB hg6 hb6 hm6 hbs
 go_wp2_with fail
 refine HD.out.mono ?_
 rintro e w7 ⟨m7, hm7, rfl, hg7, cs7, hk7, hl7, ht7⟩
 have hb : Below x5.heap.size x5 w7 := HB6.out.grown hg7 HB6.out.size (fun k e => by have := HG6.out; injection e with e; omega)
 have HR7 := Lib.hid (show RdI w7 w7.heap.size (some ⟨g6, 0, none⟩) (q.al.filter fun x => !(x == z.tick)) from fun k u hu => ⟨_, rfl, hk7.lt, by
  rw [Addr.add_lit, Nat.zero_add]
  refine hk7.cell ?_
  rw [← ht7, List.getElem?_take] at hu
  split at hu
  ·exact hu
  ·cases hu⟩)
 have hm8 : m7 ≤ cap6 := by rw [hm7]; have := List.length_filter_le (fun x => !(x == z.tick)) q.al; omega
 have HM7 := Lib.hid hm7
 clear HD hg7 hk7 hl7 ht7 hm7 HB6 HG6
 have HB7 := Lib.hid (HBx5.out.trans (hb.mono HBx5.out.size))
 replace VS := Lib.hid (VS.out.below hb)
 replace HRP := Lib.hid ((HRP.out.below hb).more hb.size)
 replace HRC := Lib.hid ((HRC.out.below hb).more hb.size)
 replace HT5 := Lib.hid ((HT5.out.below hb).more hb.size)
 replace HW5 := Lib.hid ((HW5.out.below hb).more hb.size)
 replace VY5 := Lib.hid (VY5.out.below hb)
 clear hb HBx5
 have hst : y5.a.st = (y5.a.st.toNat : Int) := by have h := HS.out.prob.pwf.st0; rw [← HYA5.out] at h; omega
 have HCY := Lib.hid (reach_Cycle y5 w7 y5.a.st.toNat VY5.out.ok (by rw [HYA5.out]; exact HS.out.prob.pwf) hst (some ⟨g6, 0, none⟩) m7 cap6 (q.al.filter fun x => !(x == z.tick)) HM7.out.symm HR7.out hm8 hcap (setErr_mk (inc_flt HS.out.prob.pwf.inc _) (fun v hv => HS.out.prob.pwf.rng v ((List.mem_filter.1 hv).1))) (fun v hv => HS.out.prob.pwf.rng v ((List.mem_filter.1 hv).1)) ((RP, RC), fd) (by rw [HYA5.out]; exact HR.out))
 unfold RetCyc at HCY
 dsimp only at HCY
 clear hst hla hal hpos hm8 hcap hc6
 have q0 := VY5.out.c0
 have q1 := VY5.out.c1
 have q2 := VY5.out.c2
 have q3 := VY5.out.c3
 go_wp2_with fail
 refine HCY.out.mono ?_
 rintro e v8 ⟨pv, cv, rfl, hop, hoc, hb⟩
 obtain ⟨PB, pd, rfl, p1, p2, rp⟩ := own_slI hop
 obtain ⟨CB, cd, rfl, k1, k2, rc⟩ := own_slI hoc
 have HRP2 := Lib.hid rp
 have HRC2 := Lib.hid rc
 clear HCY hop hoc rp rc p1 p2 k1 k2 q0 q1 q2 q3
 have HB8 := Lib.hid (HB7.out.trans (hb.mono HB7.out.size))
 replace VS := Lib.hid (VS.out.below hb)
 replace HRP := Lib.hid ((HRP.out.below hb).more hb.size)
 replace HRC := Lib.hid ((HRC.out.below hb).more hb.size)
 replace HT5 := Lib.hid ((HT5.out.below hb).more hb.size)
 replace HW5 := Lib.hid ((HW5.out.below hb).more hb.size)
 replace VY5 := Lib.hid (VY5.out.below hb)
 replace HR7 := Lib.hid ((HR7.out.below hb).more hb.size)
 clear hb HB7
 have HE1 := Lib.hid (slices_Equal_n PA PB pc pd RP.length RP.length RP RP true v8 rfl rfl (eqB_of rfl) HRP.out HPC.out.1 HPC.out.2.1 HRP2.out)
 have HE2 := Lib.hid (fun k => slices_Equal_n CA CB cc cd RC.length RC.length RC RC true (v8.drewN k) rfl rfl (eqB_of rfl) (show RdI (v8.drewN k) (v8.drewN k).heap.size CA RC from HRC.out) HPC.out.2.2.1 HPC.out.2.2.2 (show RdI (v8.drewN k) (v8.drewN k).heap.size CB RC from HRC2.out))
 have HCT := Lib.hid (fun k (h : fd = true) => slices_Contains CA cc RC.length RC z.tick false (v8.drewN k) rfl (HRF.out h).2 (show RdI (v8.drewN k) (v8.drewN k).heap.size CA RC from HRC.out) HPC.out.2.2.1 HPC.out.2.2.2)
 have HTC := Lib.hid (fun k => show (v8.drewN k).cell? ⟨bs, 10, none⟩ = some (.int .i64 z.tick) from VS.out.blk.cell (j := 10) rfl)
 have HB9 := Lib.hid (fun k => below_drewN HB8.out k)
 cases fd with
 | false =>
  go_wp2_with fail
  refine HE1.out.mono ?_
  rintro e w9 ⟨rfl, n9, rfl⟩
  go_wp2_with fail
  refine (HE2.out n9).mono ?_
  rintro e wa ⟨rfl, na, rfl⟩
  rw [World.drewN_drewN]
  generalize n9 + na = nn
  go_wp2
  go_ret
  exact ⟨rfl, HB9.out _⟩
 | true =>
  go_wp2_with fail
  refine HE1.out.mono ?_
  rintro e w9 ⟨rfl, n9, rfl⟩
  go_wp2_with fail
  refine (HE2.out n9).mono ?_
  rintro e wa ⟨rfl, na, rfl⟩
  rw [World.drewN_drewN]
  generalize n9 + na = nn
  have hl := (HRF.out (by simp)).1
  have b0 : (RC.length : Int) > 0 := by omega
  have b9 : (0 : Int) < (RC.length : Int) := by omega
  have tc := HTC.out nn
  go_wp2_with fail
  refine (HCT.out nn (by simp)).mono ?_
  rintro e wb ⟨rfl, rfl⟩
  go_wp2
  go_ret
  exact ⟨rfl, HB9.out _⟩
end Go.Proofs.YtioijhpbedmeaaaGreatDoor
