/- Walks: the statements' Make of a problem. -/
import Derived.Test.YtcchnibgehonoaaDoorPc
import Derived.Test.YtcchnibgehonoaaDoorDl
namespace Go.Proofs.YtcchnibgehonoaaDoor
open Go.RowKit Go Go.Maps

/-- the plant, the requirement and the events of a problem -/
def plA (p : Prm) : Aut := ptA p.pl
def rqA (p : Prm) : Aut := mkG (intS (setB p.rq.ev 5) (setB p.pl.ev 5)) p.rq.g
def unE (p : Prm) : List Int := setB p.un 5
theorem int_inc {a b : List Int} (h : Inc a) : Inc (intS a b) := List.Pairwise.filter _ h
theorem int_rng {a b : List Int} {n : Int} (h : ∀ x ∈ a, 0 ≤ x ∧ x < n) : ∀ x ∈ intS a b, 0 ≤ x ∧ x < n := fun x hx => h x (List.mem_filter.1 hx).1
theorem rqA_sm {p : Prm} (h : p.ok) : Sm (rqA p) := by
 have h1 := int_inc (b := setB p.pl.ev 5) (set5 p.rq.ev).1
 have h2 := int_rng (b := setB p.pl.ev 5) (set32 p.rq.ev)
 exact ⟨mkG_wf h.2.1.2 h1 h2, mkG_canon h.2.1.2 h1 h2, (mkG_st h.2.1.2 h1 h2).2, fun x hx => by unfold rqA at hx; rw [mkG_al] at hx; exact ((set5 p.rq.ev).2 x (List.mem_filter.1 hx).1).2⟩
theorem mcells_at {p : Prm} (h : p.ok) : (mcells p)[0]? = some (.int .u8 p.pl.ev) ∧ (∀ j v, (gcells p.pl.g)[j]? = some v → (mcells p)[1 + j]? = some v) ∧ (mcells p)[28]? = some (.int .u8 p.rq.ev) ∧ (∀ j v, (gcells p.rq.g)[j]? = some v → (mcells p)[29 + j]? = some v) ∧ (mcells p)[56]? = some (.int .u8 p.un) := by
 have h1 := pcells_len h.1
 have h2 := pcells_len h.2.1
 refine ⟨rfl, fun j v hj => ?_, ?_, fun j v hj => ?_, ?_⟩
 ·have hj2 := (List.getElem?_eq_some_iff.1 hj).1
  have h3 : (gcells p.pl.g).length = 27 := by have := h1; simp [pcells] at this; exact this
  unfold mcells
  rw [List.getElem?_append_left (by omega), Nat.add_comm]
  exact hj
 ·unfold mcells
  rw [List.getElem?_append_right (by omega), h1, List.getElem?_append_left (by omega)]; rfl
 ·have hj2 := (List.getElem?_eq_some_iff.1 hj).1
  have h3 : (gcells p.rq.g).length = 27 := by have := h2; simp [pcells] at this; exact this
  unfold mcells
  rw [List.getElem?_append_right (by omega), h1, List.getElem?_append_left (by omega), show 29 + j - 28 = j + 1 by omega]
  exact hj
 ·unfold mcells
  rw [List.getElem?_append_right (by omega), h1, List.getElem?_append_right (by omega), h2]; rfl
/-- the post of Make -/
def RetMk (P R : Aut) (u : List Int) (w : World) (e : Ending) (w' : World) : Prop :=
 ∃ (A : Option Addr) (na ca : Nat) (M : Option Addr) (nm cm : Nat) (E : Option Addr) (ne ce : Nat) (A' : Option Addr) (na' ca' : Nat) (M' : Option Addr) (nm' cm' : Nat) (E' : Option Addr) (ne' ce' : Nat) (U : Option Addr) (nu cu : Nat),
  e = .returned (.tuple #[.agg #[.slice A na ca, .int .i64 P.st, .slice M nm cm, .slice E ne ce], .agg #[.slice A' na' ca', .int .i64 R.st, .slice M' nm' cm', .slice E' ne' ce'], .slice U nu cu]) ∧
  AutO w' w.heap.size A na ca M nm cm E ne ce P ∧ AutO w' w.heap.size A' na' ca' M' nm' cm' E' ne' ce' R ∧ w'.ownsRow w.heap.size 3 1 (.slice U nu cu) nu (iv u) ∧ u.length = nu ∧ Below w.heap.size w w'
def MkA (W : World) (b : Nat) (p : Prm) : Prop := W.cell? ⟨b, 0, none⟩ = some (.int .u8 p.pl.ev) ∧ W.rangeAt b 1 (gcells p.pl.g) ∧ W.cell? ⟨b, 28, none⟩ = some (.int .u8 p.rq.ev) ∧ W.rangeAt b 29 (gcells p.rq.g) ∧ W.cell? ⟨b, 56, none⟩ = some (.int .u8 p.un)
theorem MkA.of {W : World} {b : Nat} {p : Prm} {t : TypeId} (h : Blk W b t (mcells p)) (hp : p.ok) : MkA W b p := by
 obtain ⟨h1, h2, h3, h4, h5⟩ := mcells_at hp
 exact ⟨h.cell h1, fun j v hj => h.cell (h2 j v hj), h.cell h3, fun j v hj => h.cell (h4 j v hj), h.cell h5⟩

set_option maxRecDepth 100000 in
set_option maxHeartbeats 6400000 in
theorem law_Make26 (p : Prm) (w : World) (hok : p.ok) : Calls Tryd.prog 26 #[.agg (mcells p).toArray] w (RetMk (plA p) (rqA p) (unE p) w) := by
 have hb1 := ((box_below w (.cells (mcells p).toArray 54)).alloc (by simp) (.cells #[.slice none 0 0, .int .i64 0, .slice none 0 0, .slice none 0 0] 25)).alloc (by simp; omega) (.cells #[.slice none 0 0, .int .i64 0, .slice none 0 0, .slice none 0 0] 25)
 obtain ⟨w1, hw1⟩ : ∃ w1, w1 = ((w.alloc (.cells (mcells p).toArray 54)).alloc (.cells #[.slice none 0 0, .int .i64 0, .slice none 0 0, .slice none 0 0] 25)).alloc (.cells #[.slice none 0 0, .int .i64 0, .slice none 0 0, .slice none 0 0] 25) := ⟨_, rfl⟩
 have kx : Blk w1 w.heap.size 54 (mcells p) := by rw [hw1]; exact ((Blk.new _ _ _).al _).al _
 have kp : Blk w1 (w.heap.size + 1) 25 [.slice none 0 0, .int .i64 0, .slice none 0 0, .slice none 0 0] := by rw [hw1]; exact (Blk.at_ _ _ [_, _, _, _] (by simp)).al _
 have kr : Blk w1 (w.heap.size + 1 + 1) 25 [.slice none 0 0, .int .i64 0, .slice none 0 0, .slice none 0 0] := by rw [hw1]; exact Blk.at_ _ _ [_, _, _, _] (by simp)
 rw [← hw1] at hb1
 have HW1 := Lib.hid hw1; clear hw1
 have HB1 := Lib.hid hb1; clear hb1
 have KX := Lib.hid kx; clear kx
 have KP := Lib.hid kp; clear kp
 have KR := Lib.hid kr; clear kr
 have HOK := Lib.hid hok; clear hok
 have HLP := Lib.hid (show (gcells p.pl.g).length = 27 by simp [gcells, bv, HOK.out.1.2.len])
 have HLR := Lib.hid (show (gcells p.rq.g).length = 27 by simp [gcells, bv, HOK.out.2.1.2.len])
 obtain ⟨nv, hnv⟩ : ∃ m, (setB p.pl.ev 5).length = m := ⟨_, rfl⟩
 obtain ⟨nw, hnw⟩ : ∃ m, (setB p.rq.ev 5).length = m := ⟨_, rfl⟩
 obtain ⟨nu, hnu⟩ : ∃ m, (setB p.un 5).length = m := ⟨_, rfl⟩
 have HNV := Lib.hid hnv; clear hnv
 have HNW := Lib.hid hnw; clear hnw
 have HNU := Lib.hid hnu; clear hnu
 have hnv5 : nv ≤ 5 := by rw [← HNV.out]; exact setB_le _ 5
 have hnw5 : nw ≤ 5 := by rw [← HNW.out]; exact setB_le _ 5
 go_enter Tryd.func26, Tryd.ntmps26
 go_upto_region 1 with fail
 rw [← HW1.out]
 -- region 1
 refine wp_region_U (fun W => MkA W w.heap.size p) (fun _ => True) 8 (by kernel_rfl) ?_
 change anyU _ _ _ _ _ _ _ 9 _ _ _
 have hB0 : True := trivial
 have HD := Lib.hid (below_dr w1)
 generalize w1.drew = wd at HD ⊢
 have hA0 : MkA wd w.heap.size p := MkA.of (KX.out.below HD.out KX.out.lt) HOK.out
 have HE1 := Lib.hid (set_Events p.pl.ev wd HOK.out.1.1.1 HOK.out.1.1.2)
 (refine uA 0 ?_ rfl hA0 hB0 (fun W hA => ?_) ?_; rotate_left; (· (go_simp; try with_reducible rfl)); refine uA 1 ?_ rfl hA0 hB0 (fun W hA => ?_) ?_; rotate_left; (· (go_simp; try with_reducible rfl)); (try simp only [Act.put, List.setIfInBounds_toArray, List.set_cons_zero, List.set_cons_succ]))
 (refine uA 2 ?_ rfl hA0 hB0 (fun W hA => ?_) ?_; rotate_left; (· (obtain ⟨a0, _⟩ := hA; go_simp; try with_reducible rfl)); (try simp only [Act.put, List.setIfInBounds_toArray, List.set_cons_zero, List.set_cons_succ]))
 (refine uA 4 ?_ rfl hA0 hB0 (fun W hA => ?_) ?_; rotate_left; (· (go_simp; try with_reducible rfl)); refine uA 5 ?_ rfl hA0 hB0 (fun W hA => ?_) ?_; rotate_left; (· (go_simp; try with_reducible rfl)); (try simp only [Act.put, List.setIfInBounds_toArray, List.set_cons_zero, List.set_cons_succ]))
 refine uTakeY (i := 6) (v := .agg (gcells p.pl.g).toArray) rfl (by kernel_rfl) (fun _ _ _ h => h) ?_ ⟨hA0, fun _ => hB0⟩ ?_
 ·exact yieldsIf_load_mid (by rfl) 41 (.tmp 10) rfl w.heap.size 1 rfl (gcells p.pl.g) _ (fun W hW => hW.2.1) Tryd.underlying41 rfl (by rw [HLP.out]; kernel_rfl)
 (try simp only [Act.put, List.setIfInBounds_toArray, List.set_cons_zero, List.set_cons_succ])
 refine uOne (i := 3) rfl (by kernel_rfl) (fun K hK => ?_)
 go_simp
 go_at_call 20
 refine HE1.out.mono ?_
 rintro e wa ⟨va, rfl, hoa, hba⟩
 rw [HNV.out] at hoa
 obtain ⟨AA, cA, rfl⟩ := own_shape hoa
 obtain ⟨hca1, hca2⟩ := own_cap' hoa
 have HDA := Lib.hid (HD.out.trans (hba.mono HD.out.size))
 have HMK := Lib.hid (law_Make AA cA nv (setB p.pl.ev 5) p.pl.g wa HNV.out (RdI.of_own hoa) hca1 hca2 HOK.out.1.2 (set5 p.pl.ev).1 (set32 p.pl.ev))
 have hA1 : MkA wa w.heap.size p := MkA.of (KX.out.below HDA.out KX.out.lt) HOK.out
 clear hA0 HE1 hoa hba
 (refine hK _ _ ⟨hA1, fun _ => hB0⟩ ?_; clear hK K; (try simp only [Act.put, List.setIfInBounds_toArray, List.set_cons_zero, List.set_cons_succ]))
 refine uOne (i := 7) rfl (by kernel_rfl) (fun K hK => ?_)
 go_simp
 go_at_call 19
 refine HMK.out.mono ?_
 rintro e wm ⟨A9, na9, ca9, M9, nm9, cm9, E9, ne9, ce9, rfl, ho9, hb9⟩
 obtain ⟨P, hP⟩ : ∃ P, plA p = P := ⟨_, rfl⟩
 rw [show mkG (setB p.pl.ev 5) p.pl.g = P from hP] at ho9 ⊢
 have HDM := Lib.hid (HDA.out.trans (hb9.mono HDA.out.size))
 have l1 := HDA.out.size
 have hA2 : MkA wm w.heap.size p := MkA.of (KX.out.below HDM.out KX.out.lt) HOK.out
 have kp2 := KP.out.below HDM.out KP.out.lt
 have f0 := kp2.free 0
 have f1 := kp2.free 1
 have f2 := kp2.free 2
 have f3 := kp2.free 3
 have e0 := kp2.cell (j := 0) rfl
 have e1 := kp2.cell (j := 1) rfl
 have e2 := kp2.cell (j := 2) rfl
 have e3 := kp2.cell (j := 3) rfl
 have lp := kp2.lt
 have hg := grown_set4 wm (w.heap.size + 1) (.slice A9 na9 ca9) (.int .i64 P.st) (.slice M9 nm9 cm9) (.slice E9 ne9 ce9)
 have KP3 := Lib.hid (kp2.set4 (.slice A9 na9 ca9) (.int .i64 P.st) (.slice M9 nm9 cm9) (.slice E9 ne9 ce9))
 have HP9 := Lib.hid ((ho9.keepB kp2 hg).down (b0 := w1.heap.size) l1)
 have KX3 := Lib.hid ((KX.out.below HDM.out KX.out.lt).kept hg (by intro e; injection e with e; omega))
 have KR3 := Lib.hid ((KR.out.below HDM.out KR.out.lt).kept hg (by intro e; injection e with e; omega))
 have HB3 := Lib.hid (below_set4 (b := w.heap.size + 1) (v0 := .slice A9 na9 ca9) (v1 := .int .i64 P.st) (v2 := .slice M9 nm9 cm9) (v3 := .slice E9 ne9 ce9) (HB1.out.trans (HDM.out.mono HB1.out.size)) (Nat.le_succ _))
 have hAf : MkA ((((wm.setCell ⟨w.heap.size + 1, 0, none⟩ (.slice A9 na9 ca9)).setCell ⟨w.heap.size + 1, 1, none⟩ (.int .i64 P.st)).setCell ⟨w.heap.size + 1, 2, none⟩ (.slice M9 nm9 cm9)).setCell ⟨w.heap.size + 1, 3, none⟩ (.slice E9 ne9 ce9)) w.heap.size p := MkA.of KX3.out HOK.out
 have HPP := Lib.hid hP
 clear hA1 HMK ho9 hb9 kp2 hg
 (refine hK _ _ ⟨hA2, fun _ => hB0⟩ ?_; clear hK K; (try simp only [Act.put, List.setIfInBounds_toArray, List.set_cons_zero, List.set_cons_succ]))
 refine uOne (i := 8) rfl (by kernel_rfl) (fun K hK => ?_)
 go_simp
 (refine hK _ _ ⟨hAf, fun h => absurd (h.symm.trans (by kernel_rfl : _ = true)) Bool.false_ne_true⟩ ?_; clear hK K; (try simp only [Act.put, List.setIfInBounds_toArray, List.set_cons_zero, List.set_cons_succ]))
 refine anyU_done (by kernel_rfl) ?_ _
 clear hA2 hAf f0 f1 f2 f3 e0 e1 e2 e3 lp
 go_upto_region 2 with fail
 generalize ((((wm.setCell ⟨w.heap.size + 1, 0, none⟩ (.slice A9 na9 ca9)).setCell ⟨w.heap.size + 1, 1, none⟩ (.int .i64 P.st)).setCell ⟨w.heap.size + 1, 2, none⟩ (.slice M9 nm9 cm9)).setCell ⟨w.heap.size + 1, 3, none⟩ (.slice E9 ne9 ce9)) = w3 at KP3 HP9 KX3 KR3 HB3 ⊢
 obtain ⟨al, hal⟩ : ∃ al, P.al = al := ⟨_, rfl⟩
 have HAL := Lib.hid (show setB p.pl.ev 5 = al by rw [← hal, ← HPP.out]; unfold plA ptA; rw [mkG_al])
 have hna9 : na9 ≤ 5 := by have h1 := HP9.out.la; rw [hal, ← HAL.out, HNV.out] at h1; omega
 refine wp_region_U (fun W => MkA W w.heap.size p ∧ W.cell? ⟨w.heap.size + 1, 0, none⟩ = some (.slice A9 na9 ca9)) (fun _ => True) 11 (by kernel_rfl) ?_
 change anyU _ _ _ _ _ _ _ 12 _ _ _
 have HD3 := Lib.hid (below_dr w3)
 generalize w3.drew = wd at HD3 ⊢
 have HAT := Lib.hid (fun (W : World) (hb : Below w3.heap.size w3 W) => (show MkA W w.heap.size p ∧ W.cell? ⟨w.heap.size + 1, 0, none⟩ = some (.slice A9 na9 ca9) from ⟨MkA.of (KX3.out.below hb KX3.out.lt) HOK.out, (KP3.out.below hb KP3.out.lt).cell (j := 0) rfl⟩))
 have hA0 := HAT.out wd HD3.out
 have HE1 := Lib.hid (set_Events p.rq.ev wd HOK.out.2.1.1.1 HOK.out.2.1.1.2)
 (refine uA 0 ?_ rfl hA0 hB0 (fun W hA => ?_) ?_; rotate_left; (· (go_simp; try with_reducible rfl)); refine uA 1 ?_ rfl hA0 hB0 (fun W hA => ?_) ?_; rotate_left; (· (go_simp; try with_reducible rfl)); (try simp only [Act.put, List.setIfInBounds_toArray, List.set_cons_zero, List.set_cons_succ]))
 (refine uA 2 ?_ rfl hA0 hB0 (fun W hA => ?_) ?_; rotate_left; (· (obtain ⟨⟨_, _, a0, _⟩, _⟩ := hA; go_simp; try with_reducible rfl)); (try simp only [Act.put, List.setIfInBounds_toArray, List.set_cons_zero, List.set_cons_succ]))
 (refine uA 4 ?_ rfl hA0 hB0 (fun W hA => ?_) ?_; rotate_left; (· (go_simp; try with_reducible rfl)); (try simp only [Act.put, List.setIfInBounds_toArray, List.set_cons_zero, List.set_cons_succ]))
 (refine uA 5 ?_ rfl hA0 hB0 (fun W hA => ?_) ?_; rotate_left; (· (obtain ⟨_, a0⟩ := hA; go_simp; try with_reducible rfl)); (try simp only [Act.put, List.setIfInBounds_toArray, List.set_cons_zero, List.set_cons_succ]))
 (refine uA 7 ?_ rfl hA0 hB0 (fun W hA => ?_) ?_; rotate_left; (· (go_simp; try with_reducible rfl)); refine uA 8 ?_ rfl hA0 hB0 (fun W hA => ?_) ?_; rotate_left; (· (go_simp; try with_reducible rfl)); (try simp only [Act.put, List.setIfInBounds_toArray, List.set_cons_zero, List.set_cons_succ]))
 refine uTakeY (i := 9) (v := .agg (gcells p.rq.g).toArray) rfl (by kernel_rfl) (fun _ _ _ h => h) ?_ ⟨hA0, fun _ => hB0⟩ ?_
 ·exact yieldsIf_load_mid (by rfl) 41 (.tmp 21) rfl w.heap.size 29 rfl (gcells p.rq.g) _ (fun W hW => hW.1.2.2.2.1) Tryd.underlying41 rfl (by rw [HLR.out]; kernel_rfl)
 (try simp only [Act.put, List.setIfInBounds_toArray, List.set_cons_zero, List.set_cons_succ])
 refine uOne (i := 3) rfl (by kernel_rfl) (fun K hK => ?_)
 go_simp
 go_at_call 20
 refine HE1.out.mono ?_
 rintro e wb ⟨va, rfl, hoa, hba⟩
 rw [HNW.out] at hoa
 obtain ⟨AB, cB, rfl⟩ := own_shape hoa
 obtain ⟨hcb1, hcb2⟩ := own_cap' hoa
 have HDB := Lib.hid (HD3.out.trans (hba.mono HD3.out.size))
 have hxr := (HP9.out.below HDB.out).rd
 have HIT := Lib.hid (alphabet_Intersect AB A9 nw na9 cB ca9 (setB p.rq.ev 5) P.al wb HNW.out (RdI.of_own hoa) hcb1 hcb2 hxr.la hxr.ra hxr.ac hxr.cA (by omega) (set5 p.rq.ev).1 (by rw [hal, ← HAL.out]; exact (set5 p.pl.ev).1))
 have hA1 := HAT.out wb HDB.out
 clear hA0 HE1 hoa hba hxr
 (refine hK _ _ ⟨hA1, fun _ => hB0⟩ ?_; clear hK K; (try simp only [Act.put, List.setIfInBounds_toArray, List.set_cons_zero, List.set_cons_succ]))
 refine uOne (i := 6) rfl (by kernel_rfl) (fun K hK => ?_)
 go_simp
 go_at_call 63
 refine HIT.out.mono ?_
 rintro e wc ⟨vc, rfl, hoc, hbc⟩
 rw [hal, ← HAL.out] at hoc
 obtain ⟨AL, hALL⟩ : ∃ l, intS (setB p.rq.ev 5) (setB p.pl.ev 5) = l := ⟨_, rfl⟩
 obtain ⟨nl, hnl⟩ : ∃ m, AL.length = m := ⟨_, rfl⟩
 rw [hALL, hnl] at hoc
 obtain ⟨AC, cC, rfl⟩ := own_shape hoc
 obtain ⟨hcc1, hcc2⟩ := own_cap' hoc
 have HDC := Lib.hid (HDB.out.trans (hbc.mono HDB.out.size))
 obtain ⟨R, hR⟩ : ∃ R, rqA p = R := ⟨_, rfl⟩
 have hMK := law_Make AC cC nl AL p.rq.g wc hnl (RdI.of_own hoc) hcc1 hcc2 HOK.out.2.1.2 (by rw [← hALL]; exact int_inc (set5 p.rq.ev).1) (by rw [← hALL]; exact int_rng (set32 p.rq.ev))
 rw [show mkG AL p.rq.g = R by rw [← hR, ← hALL]; rfl] at hMK
 have HRR := Lib.hid hR
 have HMK := Lib.hid hMK; clear hMK
 have hA2 := HAT.out wc HDC.out
 clear hA1 HIT hoc hbc hALL hnl hR
 (refine hK _ _ ⟨hA2, fun _ => hB0⟩ ?_; clear hK K; (try simp only [Act.put, List.setIfInBounds_toArray, List.set_cons_zero, List.set_cons_succ]))
 refine uOne (i := 10) rfl (by kernel_rfl) (fun K hK => ?_)
 go_simp
 go_at_call 19
 refine HMK.out.mono ?_
 rintro e wm2 ⟨A8, na8, ca8, M8, nm8, cm8, E8, ne8, ce8, rfl, ho8, hb8⟩
 have HDM2 := Lib.hid (HDC.out.trans (hb8.mono HDC.out.size))
 have l2 := HDC.out.size
 have l3 := HB3.out.size
 have l4 := HB1.out.size
 have l5 := KR3.out.lt
 have hA3 := HAT.out wm2 HDM2.out
 have kr2 := KR3.out.below HDM2.out KR3.out.lt
 have f0 := kr2.free 0
 have f1 := kr2.free 1
 have f2 := kr2.free 2
 have f3 := kr2.free 3
 have e0 := kr2.cell (j := 0) rfl
 have e1 := kr2.cell (j := 1) rfl
 have e2 := kr2.cell (j := 2) rfl
 have e3 := kr2.cell (j := 3) rfl
 have lr := kr2.lt
 have hg := grown_set4 wm2 (w.heap.size + 1 + 1) (.slice A8 na8 ca8) (.int .i64 R.st) (.slice M8 nm8 cm8) (.slice E8 ne8 ce8)
 have KR4 := Lib.hid (kr2.set4 (.slice A8 na8 ca8) (.int .i64 R.st) (.slice M8 nm8 cm8) (.slice E8 ne8 ce8))
 have HR8 := Lib.hid ((ho8.keepB kr2 hg).down (b0 := w.heap.size) (by omega))
 have HP8 := Lib.hid (((HP9.out.below HDM2.out).keepB kr2 hg).down (b0 := w.heap.size) l4)
 have KX4 := Lib.hid ((KX3.out.below HDM2.out KX3.out.lt).kept hg (by intro e; injection e with e; omega))
 have KP4 := Lib.hid ((KP3.out.below HDM2.out KP3.out.lt).kept hg (by intro e; injection e with e; omega))
 have HB4 := Lib.hid (below_set4 (b := w.heap.size + 1 + 1) (v0 := .slice A8 na8 ca8) (v1 := .int .i64 R.st) (v2 := .slice M8 nm8 cm8) (v3 := .slice E8 ne8 ce8) (HB3.out.trans (HDM2.out.mono HB3.out.size)) (by omega))
 have hAf : MkA ((((wm2.setCell ⟨w.heap.size + 1 + 1, 0, none⟩ (.slice A8 na8 ca8)).setCell ⟨w.heap.size + 1 + 1, 1, none⟩ (.int .i64 R.st)).setCell ⟨w.heap.size + 1 + 1, 2, none⟩ (.slice M8 nm8 cm8)).setCell ⟨w.heap.size + 1 + 1, 3, none⟩ (.slice E8 ne8 ce8)) w.heap.size p ∧ ((((wm2.setCell ⟨w.heap.size + 1 + 1, 0, none⟩ (.slice A8 na8 ca8)).setCell ⟨w.heap.size + 1 + 1, 1, none⟩ (.int .i64 R.st)).setCell ⟨w.heap.size + 1 + 1, 2, none⟩ (.slice M8 nm8 cm8)).setCell ⟨w.heap.size + 1 + 1, 3, none⟩ (.slice E8 ne8 ce8)).cell? ⟨w.heap.size + 1, 0, none⟩ = some (.slice A9 na9 ca9) := ⟨MkA.of KX4.out HOK.out, KP4.out.cell (j := 0) rfl⟩
 clear hA2 HMK ho8 hb8 kr2 hg HAT
 (refine hK _ _ ⟨hA3, fun _ => hB0⟩ ?_; clear hK K; (try simp only [Act.put, List.setIfInBounds_toArray, List.set_cons_zero, List.set_cons_succ]))
 refine uOne (i := 11) rfl (by kernel_rfl) (fun K hK => ?_)
 go_simp
 (refine hK _ _ ⟨hAf, fun h => absurd (h.symm.trans (by kernel_rfl : _ = true)) Bool.false_ne_true⟩ ?_; clear hK K; (try simp only [Act.put, List.setIfInBounds_toArray, List.set_cons_zero, List.set_cons_succ]))
 refine anyU_done (by kernel_rfl) ?_ _
 clear hA3 hAf f0 f1 f2 f3 e0 e1 e2 e3 lr l1 l2 l3 l4 l5 KX3 KP3 KR3 HB3 HP9
 go_upto_region 3 with fail
 generalize (((wm2.setCell ⟨w.heap.size + 1 + 1, 0, none⟩ (.slice A8 na8 ca8)).setCell ⟨w.heap.size + 1 + 1, 1, none⟩ (.int .i64 R.st)).setCell ⟨w.heap.size + 1 + 1, 2, none⟩ (.slice M8 nm8 cm8)).setCell ⟨w.heap.size + 1 + 1, 3, none⟩ (.slice E8 ne8 ce8) = w4 at KR4 HR8 HP8 KX4 KP4 HB4 ⊢
 have HAT := Lib.hid (fun (W : World) (kx : Blk W w.heap.size 54 (mcells p)) (kp : Blk W (w.heap.size + 1) 25 [.slice A9 na9 ca9, .int .i64 P.st, .slice M9 nm9 cm9, .slice E9 ne9 ce9]) (kr : Blk W (w.heap.size + 1 + 1) 25 [.slice A8 na8 ca8, .int .i64 R.st, .slice M8 nm8 cm8, .slice E8 ne8 ce8]) => (show W.cell? ⟨w.heap.size, 56, none⟩ = some (.int .u8 p.un) ∧ (W.cell? ⟨w.heap.size + 1, 0, none⟩ = some (.slice A9 na9 ca9) ∧ W.cell? ⟨w.heap.size + 1, 1, none⟩ = some (.int .i64 P.st) ∧ W.cell? ⟨w.heap.size + 1, 2, none⟩ = some (.slice M9 nm9 cm9) ∧ W.cell? ⟨w.heap.size + 1, 3, none⟩ = some (.slice E9 ne9 ce9)) ∧ (W.cell? ⟨w.heap.size + 1 + 1, 0, none⟩ = some (.slice A8 na8 ca8) ∧ W.cell? ⟨w.heap.size + 1 + 1, 1, none⟩ = some (.int .i64 R.st) ∧ W.cell? ⟨w.heap.size + 1 + 1, 2, none⟩ = some (.slice M8 nm8 cm8) ∧ W.cell? ⟨w.heap.size + 1 + 1, 3, none⟩ = some (.slice E8 ne8 ce8)) from
  ⟨(MkA.of kx HOK.out).2.2.2.2, ⟨kp.cell (j := 0) rfl, kp.cell (j := 1) rfl, kp.cell (j := 2) rfl, kp.cell (j := 3) rfl⟩, kr.cell (j := 0) rfl, kr.cell (j := 1) rfl, kr.cell (j := 2) rfl, kr.cell (j := 3) rfl⟩))
 refine wp_region_U (fun W => W.cell? ⟨w.heap.size, 56, none⟩ = some (.int .u8 p.un) ∧ (W.cell? ⟨w.heap.size + 1, 0, none⟩ = some (.slice A9 na9 ca9) ∧ W.cell? ⟨w.heap.size + 1, 1, none⟩ = some (.int .i64 P.st) ∧ W.cell? ⟨w.heap.size + 1, 2, none⟩ = some (.slice M9 nm9 cm9) ∧ W.cell? ⟨w.heap.size + 1, 3, none⟩ = some (.slice E9 ne9 ce9)) ∧ (W.cell? ⟨w.heap.size + 1 + 1, 0, none⟩ = some (.slice A8 na8 ca8) ∧ W.cell? ⟨w.heap.size + 1 + 1, 1, none⟩ = some (.int .i64 R.st) ∧ W.cell? ⟨w.heap.size + 1 + 1, 2, none⟩ = some (.slice M8 nm8 cm8) ∧ W.cell? ⟨w.heap.size + 1 + 1, 3, none⟩ = some (.slice E8 ne8 ce8))) (fun _ => True) 7 (by kernel_rfl) ?_
 change anyU _ _ _ _ _ _ _ 8 _ _ _
 have HD4 := Lib.hid (below_dr w4)
 generalize w4.drew = wd at HD4 ⊢
 have hA0 := HAT.out wd (KX4.out.below HD4.out KX4.out.lt) (KP4.out.below HD4.out KP4.out.lt) (KR4.out.below HD4.out KR4.out.lt)
 have HE1 := Lib.hid (set_Events p.un wd HOK.out.2.2.1 HOK.out.2.2.2)
 (refine uA 0 ?_ rfl hA0 hB0 (fun W hA => ?_) ?_; rotate_left; (· (obtain ⟨_, ⟨a0, a1, a2, a3⟩, _⟩ := hA; go_simp; try with_reducible rfl)); (try simp only [Act.put, List.setIfInBounds_toArray, List.set_cons_zero, List.set_cons_succ]))
 (refine uA 1 ?_ rfl hA0 hB0 (fun W hA => ?_) ?_; rotate_left; (· (obtain ⟨_, _, a0, a1, a2, a3⟩ := hA; go_simp; try with_reducible rfl)); (try simp only [Act.put, List.setIfInBounds_toArray, List.set_cons_zero, List.set_cons_succ]))
 (refine uA 2 ?_ rfl hA0 hB0 (fun W hA => ?_) ?_; rotate_left; (· (go_simp; try with_reducible rfl)); (try simp only [Act.put, List.setIfInBounds_toArray, List.set_cons_zero, List.set_cons_succ]))
 (refine uA 3 ?_ rfl hA0 hB0 (fun W hA => ?_) ?_; rotate_left; (· (obtain ⟨a0, _⟩ := hA; go_simp; try with_reducible rfl)); (try simp only [Act.put, List.setIfInBounds_toArray, List.set_cons_zero, List.set_cons_succ]))
 refine uOne (i := 4) rfl (by kernel_rfl) (fun K hK => ?_)
 go_simp
 go_at_call 20
 refine HE1.out.mono ?_
 rintro e we ⟨vu, rfl, hou, hbu⟩
 rw [HNU.out] at hou
 obtain ⟨UA, cU, rfl⟩ := own_shape hou
 have HDE := Lib.hid (HD4.out.trans (hbu.mono HD4.out.size))
 have kx5 := KX4.out.below HDE.out KX4.out.lt
 have kp5 := KP4.out.below HDE.out KP4.out.lt
 have kr5 := KR4.out.below HDE.out KR4.out.lt
 have hA1 := HAT.out we kx5 kp5 kr5
 have hg1 := grown_set4 we (w.heap.size + 1) (.slice A9 na9 ca9) (.int .i64 P.st) (.slice M9 nm9 cm9) (.slice E9 ne9 ce9)
 have kp6 := kp5.set4 (.slice A9 na9 ca9) (.int .i64 P.st) (.slice M9 nm9 cm9) (.slice E9 ne9 ce9)
 have kx6 := kx5.kept hg1 (by intro e; injection e with e; omega)
 have kr6 := kr5.kept hg1 (by intro e; injection e with e; omega)
 have hA2 := HAT.out _ kx6 kp6 kr6
 have hg2 := grown_set4 ((((we.setCell ⟨w.heap.size + 1, 0, none⟩ (.slice A9 na9 ca9)).setCell ⟨w.heap.size + 1, 1, none⟩ (.int .i64 P.st)).setCell ⟨w.heap.size + 1, 2, none⟩ (.slice M9 nm9 cm9)).setCell ⟨w.heap.size + 1, 3, none⟩ (.slice E9 ne9 ce9)) (w.heap.size + 1 + 1) (.slice A8 na8 ca8) (.int .i64 R.st) (.slice M8 nm8 cm8) (.slice E8 ne8 ce8)
 have kr7 := kr6.set4 (.slice A8 na8 ca8) (.int .i64 R.st) (.slice M8 nm8 cm8) (.slice E8 ne8 ce8)
 have kx7 := kx6.kept hg2 (by intro e; injection e with e; omega)
 have kp7 := kp6.kept hg2 (by intro e; injection e with e; omega)
 have hA3 := HAT.out _ kx7 kp7 kr7
 have HPF := Lib.hid (((HP8.out.below HDE.out).keepB kp5 hg1).keepB kr6 hg2)
 have HRF := Lib.hid (((HR8.out.below HDE.out).keepB kp5 hg1).keepB kr6 hg2)
 have hou2 := own_base (base := w.heap.size) hou (by have := HB4.out.size; have := HD4.out.size; omega)
 have hu1 := hou2.kept hg1 (own_ne_blk hou2 kp5 (by decide))
 have HUF := Lib.hid (hu1.kept hg2 (own_ne_blk hu1 kr6 (by decide)))
 have HBF := Lib.hid (below_set4 (b := w.heap.size + 1 + 1) (v0 := .slice A8 na8 ca8) (v1 := .int .i64 R.st) (v2 := .slice M8 nm8 cm8) (v3 := .slice E8 ne8 ce8) (below_set4 (b := w.heap.size + 1) (v0 := .slice A9 na9 ca9) (v1 := .int .i64 P.st) (v2 := .slice M9 nm9 cm9) (v3 := .slice E9 ne9 ce9) (HB4.out.trans (HDE.out.mono HB4.out.size)) (Nat.le_succ _)) (by omega))
 have KP7 := Lib.hid kp7
 have KR7 := Lib.hid kr7
 have f0 := kp5.free 0
 have f1 := kp5.free 1
 have f2 := kp5.free 2
 have f3 := kp5.free 3
 have e0 := kp5.cell (j := 0) rfl
 have e1 := kp5.cell (j := 1) rfl
 have e2 := kp5.cell (j := 2) rfl
 have e3 := kp5.cell (j := 3) rfl
 have lp := kp5.lt
 clear HE1 hou hbu kx5 kp5 kx6 kr5 hg1 hg2 kx7 kp7 kr7 hou2 hu1 hA0
 (refine hK _ _ ⟨hA1, fun _ => hB0⟩ ?_; clear hK K; (try simp only [Act.put, List.setIfInBounds_toArray, List.set_cons_zero, List.set_cons_succ]))
 refine uOne (i := 5) rfl (by kernel_rfl) (fun K hK => ?_)
 go_simp
 (refine hK _ _ ⟨hA2, fun _ => hB0⟩ ?_; clear hK K; (try simp only [Act.put, List.setIfInBounds_toArray, List.set_cons_zero, List.set_cons_succ]))
 clear f0 f1 f2 f3 e0 e1 e2 e3 lp
 have f0 := kr6.free 0
 have f1 := kr6.free 1
 have f2 := kr6.free 2
 have f3 := kr6.free 3
 have e0 := kr6.cell (j := 0) rfl
 have e1 := kr6.cell (j := 1) rfl
 have e2 := kr6.cell (j := 2) rfl
 have e3 := kr6.cell (j := 3) rfl
 have lp := kr6.lt
 refine uOne (i := 6) rfl (by kernel_rfl) (fun K hK => ?_)
 go_simp
 (refine hK _ _ ⟨hA3, fun _ => hB0⟩ ?_; clear hK K; (try simp only [Act.put, List.setIfInBounds_toArray, List.set_cons_zero, List.set_cons_succ]))
 refine uOne (i := 7) rfl (by kernel_rfl) (fun K hK => ?_)
 go_simp
 (refine hK _ _ ⟨hA3, fun h => absurd (h.symm.trans (by kernel_rfl : _ = true)) Bool.false_ne_true⟩ ?_; clear hK K; (try simp only [Act.put, List.setIfInBounds_toArray, List.set_cons_zero, List.set_cons_succ]))
 refine anyU_done (by kernel_rfl) ?_ _
 clear f0 f1 f2 f3 e0 e1 e2 e3 lp hA1 hA2 hA3 kp6 kr6
 go_wp2
 have z0 := KP7.out.cell (j := 0) rfl
 have z1 := KP7.out.cell (j := 1) rfl
 have z2 := KP7.out.cell (j := 2) rfl
 have z3 := KP7.out.cell (j := 3) rfl
 have y0 := KR7.out.cell (j := 0) rfl
 have y1 := KR7.out.cell (j := 1) rfl
 have y2 := KR7.out.cell (j := 2) rfl
 have y3 := KR7.out.cell (j := 3) rfl
 refine bodyPost_ret (v := .tuple #[.agg #[.slice A9 na9 ca9, .int .i64 P.st, .slice M9 nm9 cm9, .slice E9 ne9 ce9], .agg #[.slice A8 na8 ca8, .int .i64 R.st, .slice M8 nm8 cm8, .slice E8 ne8 ce8], .slice UA nu cU]) (by simp [results, Tryd.results26, go_sem, z0, z1, z2, z3, y0, y1, y2, y3]) rfl ?_
 rw [HPP.out, HRR.out]
 exact ⟨A9, na9, ca9, M9, nm9, cm9, E9, ne9, ce9, A8, na8, ca8, M8, nm8, cm8, E8, ne8, ce8, UA, nu, cU, rfl, HPF.out, HRF.out, HUF.out, HNU.out, HBF.out⟩
end Go.Proofs.YtcchnibgehonoaaDoor
