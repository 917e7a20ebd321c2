/- Walks: automaton.Words. -/
import Derived.Test.YtcchnibgehonoaaDoorNa
namespace Go.Proofs.YtcchnibgehonoaaDoor
open Go.RowKit Go

theorem own_lit2 (w : World) (v u : Value) (e : TypeId) : (w.alloc (.cells #[v, u] e)).ownsRow w.heap.size e 2 (.slice (some ⟨w.heap.size, 0, none⟩) 1 1) 1 [v, u] :=
 ⟨by simp, .inr ⟨w.heap.size, 1, #[v, u], rfl, Nat.le_refl _, heap_alloc_new w _, Nat.le_refl _, by unfold maxLen; omega, by simp, by simp⟩⟩
/-- what Words returns -/
def RetWd (RES : Option (List (List Int × Int))) (w : World) (e : Ending) (w' : World) : Prop :=
 Below w.heap.size w w' ∧ (RES = none → e = .returned (.tuple #[.slice none 0 0, .int .i64 3])) ∧ ∀ l, RES = some l → ∃ (A : Option Addr) (c : Nat) (xs : List SlV), e = .returned (.tuple #[.slice A l.length c, .int .i64 0]) ∧ xs.map SlV.l = l.map Prod.fst ∧ RdS w' w'.heap.size A xs ∧ l.length ≤ c ∧ c ≤ 9223372036854775807
/-- the words are short, the states are states -/
def WdOk (a : Aut) (m : Nat) (l : List (List Int × Int)) : Prop := ∀ x ∈ l, x.1.length ≤ m ∧ 0 ≤ x.2 ∧ x.2 < a.st
theorem WdOk.app {a : Aut} {m : Nat} {l : List (List Int × Int)} {x : List Int × Int} (h : WdOk a m l) (hw : WF a) (hx : x ∈ l) (hm : x.1.length ≠ m) {k : Nat} : WdOk a m (l ++ (wrow a x).take k) := fun y hy => by
 rcases List.mem_append.1 hy with hy | hy
 ·exact h y hy
 ·obtain ⟨e, he, rfl⟩ := List.mem_map.1 (List.mem_of_mem_take hy)
  have h1 := (h x hx).1
  have h2 := hw.ev_rng (outE_mem.1 he).1
  exact ⟨by simp only [List.length_append, List.length_singleton]; omega, by show 0 ≤ e.t; omega, by show e.t < a.st; omega⟩

/-- the list of words -/
structure LstI (w0 w : World) (lv : Value) (k : Nat) (xs : List SlV) : Prop where
 bel : Below w0.heap.size w0 w
 row : w.ownsRow w0.heap.size 22 1 lv k (xs.map SlV.v)
 len : xs.length = k
 wds : ∀ x ∈ xs, w.ownsRow w0.heap.size 3 1 x.v x.l.length (iv x.l)
theorem LstI.quiet {w0 w w' : World} {lv : Value} {k : Nat} {xs : List SlV} (h : LstI w0 w lv k xs) (hb : Below w.heap.size w w') : LstI w0 w' lv k xs :=
 ⟨h.bel.trans (hb.mono h.bel.size), own_below h.row hb, h.len, fun x hx => own_below (h.wds x hx) hb⟩
theorem LstI.push {w0 w w' : World} {lv : Value} {k : Nat} {xs : List SlV} (h : LstI w0 w lv k xs) {A : Option Addr} {c : Nat} {x : SlV} (hx : w.ownsRow w0.heap.size 3 1 x.v x.l.length (iv x.l)) (ho : w'.ownsRow w0.heap.size 22 1 (.slice A (k + 1) c) (k + 1) (xs.map SlV.v ++ [x.v])) (hg : w.grownBy w' lv.ownBlock) :
  LstI w0 w' (.slice A (k + 1) c) (k + 1) (xs ++ [x]) := by
 refine ⟨h.bel.grown hg h.bel.size fun j hj => (h.row.lt j hj).1, by simpa using ho, by simp [h.len], fun y hy => ?_⟩
 have hy : y ∈ xs ∨ y = x := by simpa using hy
 rcases hy with hy | rfl
 ·exact own_kept_ne (h.wds y hy) h.row (by decide) hg
 ·exact own_kept_ne hx h.row (by decide) hg
theorem LstI.rd {w0 w : World} {A : Option Addr} {c k : Nat} {xs : List SlV} (h : LstI w0 w (.slice A k c) k xs) : RdS w w.heap.size A xs :=
 ⟨RdV.of_own h.row, fun x hx => ⟨RdI.of_own (h.wds x hx), (own_cap' (h.wds x hx)).1, (own_cap' (h.wds x hx)).2⟩⟩
theorem words_info : (Tryd.prog.info? 22).map (fun i => (i.zero, i.size, i.bytes)) = some (some (.slice none 0 0), 1, 24) := by kernel_rfl
set_option maxRecDepth 100000 in
set_option maxHeartbeats 6400000 in
theorem automaton_Words (A M E : Option Addr) (na ca nm cm ne ce : Nat) (a : Aut) (m : Nat) (RES : Option (List (List Int × Int))) (w : World) (h : AutR w w.heap.size A na ca M nm cm E ne ce a) (hw : WF a) (hm : m ≤ 4096) (hr : wrd a m = RES) :
  Calls Tryd.prog 44 #[.agg #[.slice A na ca, .int .i64 a.st, .slice M nm cm, .slice E ne ce], .int .i64 m, .bool false] w (RetWd RES w) := by
 obtain ⟨st, hst⟩ : ∃ s, a.st = s := ⟨_, rfl⟩
 rw [hst]
 have hb1 := box_below w (.cells #[.slice A na ca, .int .i64 st, .slice M nm cm, .slice E ne ce] 25)
 obtain ⟨w1, hw1⟩ : ∃ w1, w1 = w.alloc (.cells #[.slice A na ca, .int .i64 st, .slice M nm cm, .slice E ne ce] 25) := ⟨_, rfl⟩
 have k3 : Blk w1 w.heap.size 25 [.slice A na ca, .int .i64 st, .slice M nm cm, .slice E ne ce] := by rw [hw1]; exact Blk.new _ _ [_, _, _, _]
 rw [← hw1] at hb1
 have HC := Lib.hid (automaton_Check A na ca M nm cm E ne ce a w1 ((h.below hb1).more hb1.size))
 rw [hw.chk, hst] at HC
 have hst0 := hw.st0
 have hst1 := hw.st1
 rw [hst] at hst0 hst1
 have HW1 := Lib.hid hw1; clear hw1
 have HST := Lib.hid hst; clear hst
 have HW := Lib.hid hw; clear hw
 have HB1 := Lib.hid hb1; clear hb1
 have HX := Lib.hid h; clear h
 have K3 := Lib.hid k3; clear k3
 have HR := Lib.hid hr; clear hr
 go_enter Tryd.func44, Tryd.ntmps44
 go_wp2_with fail
 rw [← HW1.out]
 refine HC.out.mono ?_
 rintro e w2 ⟨rfl, hb2⟩
 have k4 := K3.out.below hb2 K3.out.lt
 have HB2 := Lib.hid (HB1.out.trans (hb2.mono HB1.out.size))
 have c1 := k4.cell (j := 1) rfl
 have b1 : ¬ (m : Int) < 0 := by omega
 have b2 : ¬ 4096 < (m : Int) := by omega
 have K4 := Lib.hid k4; clear k4
 clear hb2 HC
 by_cases h0 : st = 0
 ·have HRZ := Lib.hid (show RES = some [] by rw [← HR.out]; unfold wrd; rw [if_pos (by rw [HST.out]; exact h0)])
  go_wp2
  refine bodyPost_ret (v := .tuple #[.slice none 0 0, .int .i64 0]) (by simp [results, Tryd.results44, go_sem]) rfl ?_
  refine ⟨HB2.out, fun e => (by rw [HRZ.out] at e; cases e), fun l e => ?_⟩
  rw [HRZ.out] at e
  injection e with e
  subst e
  exact ⟨none, 0, [], rfl, rfl, RdS.nil, Nat.le_refl _, by omega⟩
 ·have HRG := Lib.hid (show wgo a m 1025 0 [([], 0)] = RES by rw [← HR.out]; unfold wrd; rw [if_neg (by rw [HST.out]; exact h0)])
  have b0 : (st == 0) = false := by simpa using h0
  have HOK0 := Lib.hid (show WdOk a m [([], 0)] from fun x hx => by obtain rfl := List.mem_singleton.1 hx; exact ⟨Nat.zero_le _, Int.le_refl _, by rw [HST.out]; show 0 < st; omega⟩)
  have HWI := Lib.hid (show WrdI w2 (w2.alloc (.cells #[.slice none 0 0, .int .i64 0] 116)) (.slice (some ⟨w2.heap.size, 0, none⟩) 1 1) 1 [⟨⟨none, 0, []⟩, 0⟩] from
   ⟨box_below _ _, own_lit2 _ _ _ _, rfl, fun x hx => by obtain rfl := List.mem_singleton.1 hx; exact World.ownsRow_nil _ _ _ _⟩)
  go_upto_region 9 with fail
  obtain ⟨w3, hw3⟩ : ∃ w3, w3 = w2.alloc (.cells #[.slice none 0 0, .int .i64 0] 116) := ⟨_, rfl⟩
  rw [← hw3] at HWI ⊢
  clear hw3 c1 b1 b2 HR
  have HKW := Lib.hid (fun (W : World) (hb : Below w2.heap.size w2 W) => (K4.out.below hb K4.out.lt))
  have HEW := Lib.hid (fun (W : World) (hb : Below w2.heap.size w2 W) => (HX.out.re.below (HB2.out.trans (hb.mono HB2.out.size))))
  go_wp2
  go_loopw [9, 10, 12] (fun s9 s10 s12 wr => ∃ (i n : Nat) (av v12 : Value) (fs : List FW), s9 = av ∧ s12 = v12 ∧ s10 = .int .i64 i ∧ i ≤ n ∧ n ≤ 1024 ∧ Hid (WrdI w2 wr av n fs) ∧ Hid (WdOk a m (fs.map fwp)) ∧ Hid (wgo a m (1025 - i) i (fs.map fwp) = RES)) (fun _ s10 _ _ => 1024 - (intOf s10).toNat)
  case atStart => exact ⟨0, 1, _, _, _, rfl, rfl, rfl, by omega, by omega, HWI, HOK0, HRG⟩
  case round =>
   clear HWI HOK0 HRG
   obtain ⟨i, n, av, v12, fs, rfl, rfl, rfl, hi, hn, HI, HOK, HG⟩ := hrel
   obtain ⟨AA, ac, rfl⟩ := own_shape HI.out.row
   by_cases hlt : i < n
   ·have b3 : (i : Int) < (n : Int) := by omega
    obtain ⟨ad, x, hA, hx, hc0, hc1, hrd, hadb⟩ := HI.out.at_ hlt
    subst hA
    obtain ⟨⟨xA, xc, xl⟩, t⟩ := x
    obtain ⟨nl, hnl⟩ : ∃ k, xl.length = k := ⟨_, rfl⟩
    replace hc0 : wr.cell? (ad.add (i * 2)) = some (.slice xA nl xc) := by rw [hc0]; show some (Value.slice xA xl.length xc) = _; rw [hnl]
    have HXM := Lib.hid (show (xl, t) ∈ fs.map fwp from List.mem_map.2 ⟨_, List.mem_of_getElem? hx, rfl⟩)
    have HXA := Lib.hid (show (fs.map fwp)[i]? = some (xl, t) by rw [List.getElem?_map, hx]; rfl)
    have HWST := Lib.hid (show wgo a m (1025 - i) i (fs.map fwp) = if nl = m then some (fs.map fwp) else if 1024 < (fs.map fwp ++ wrow a (xl, t)).length then none else wgo a m (1025 - (i + 1)) (i + 1) (fs.map fwp ++ wrow a (xl, t)) by
     rw [show 1025 - i = (1025 - (i + 1)) + 1 by omega, wgo_step HXA.out, ← hnl])
    have HXI := Lib.hid hx; clear hx
    have HNL := Lib.hid hnl; clear hnl
    have HNB := Lib.hid (show nl ≤ 4096 by have := (HOK.out _ HXM.out).1; have h1 := HNL.out; simp only at this; omega)
    by_cases hlm : nl = m
    ·have b4 : (nl : Int) = (m : Int) := by omega
     have HRS := Lib.hid (show RES = some (fs.map fwp) by rw [← HG.out, HWST.out, if_pos hlm])
     have b5 : (nl == m) = true := by simpa using hlm
     clear HG HWST HXM HXA HXI
     go_upto_region 20 with fail
     clear hc0 hc1 hadb hrd
     obtain ⟨ws, hws⟩ : ∃ ws, wr = ws := ⟨_, rfl⟩
     rw [hws] at HI ⊢
     clear hws
     have HL0 := Lib.hid (show LstI ws ws (.slice none 0 0) 0 [] from ⟨Below.refl _ _, World.ownsRow_nil _ _ _ _, rfl, fun x hx => by cases hx⟩)
     go_wp2
     go_loopw [13, 15, 80] (fun s13 s15 s80 wr => ∃ (k : Nat) (LA : Option Addr) (lc : Nat) (v15 : Value) (xs : List SlV), s13 = .slice LA k lc ∧ s15 = v15 ∧ s80 = .int .i64 k ∧ k ≤ n ∧ Hid (xs.map SlV.l = ((fs.map fwp).take k).map Prod.fst) ∧ Hid (LstI ws wr (.slice LA k lc) k xs)) (fun _ _ s80 _ => n - (intOf s80).toNat)
     case atStart => exact ⟨0, _, _, _, _, rfl, rfl, rfl, Nat.zero_le _, Lib.hid rfl, HL0⟩
     case round =>
      clear HL0
      obtain ⟨k, LA, lc, v15, xs, rfl, rfl, rfl, hk, HXS, HL⟩ := hrel
      by_cases hkn : k < n
      ·have b9 : (k : Int) < (n : Int) := by omega
       obtain ⟨a6, x6, hA6, hx6, d0, d1, hrd6, hab6⟩ := (HI.out.quiet HL.out.bel).at_ (k := k) hkn
       obtain rfl : ad = a6 := (by injection hA6)
       have HXM6 := Lib.hid (HOK.out _ (List.mem_map.2 ⟨x6, List.mem_of_getElem? hx6, rfl⟩))
       have HX6 := Lib.hid (show (fs.map fwp)[k]? = some (fwp x6) by rw [List.getElem?_map, hx6]; rfl)
       obtain ⟨⟨yA, yc, yl⟩, y6⟩ := x6
       obtain ⟨ny, hny⟩ : ∃ j, yl.length = j := ⟨_, rfl⟩
       have hny4 : ny ≤ 4096 := by have := HXM6.out.1; simp only [fwp] at this; omega
       replace d0 := d0.trans (congrArg some (show SlV.v ⟨yA, yc, yl⟩ = Value.slice yA ny yc by show Value.slice yA yl.length yc = _; rw [hny]))
       clear hx6
       go_upto_region 24 with fail
       clear d0 d1
       have hbx := box_below wr (.cells #[.slice yA ny yc, .int .i64 y6] 116)
       have HL1 := Lib.hid (HL.out.quiet hbx)
       have kx := Blk.new wr 116 [.slice yA ny yc, .int .i64 y6]
       have hrd6 := (hrd6.below hbx).more hbx.size
       obtain ⟨w7, hw7⟩ : ∃ w7, w7 = wr.alloc (.cells #[.slice yA ny yc, .int .i64 y6] 116) := ⟨_, rfl⟩
       rw [← hw7] at HL1 kx hrd6 ⊢
       have hbz := box_below w7 (.cells #[] 3)
       have e0 := (kx.below hbz kx.lt).cell (j := 0) rfl
       have HRD := Lib.hid ((hrd6.below hbz).more hbz.size)
       have hol := own_lit w7 [] w7.heap.size 3 (Nat.le_refl _) (by simp)
       have HBZ := Lib.hid hbz
       clear hbx kx hrd6 hw7 HL hab6 hbz
       go_upto_region 25 with fail
       go_wp2_with (first
        | (at_builtin; (refine wpList_app _ rfl (.tmp 94) (.tmp 96) 22 rfl w7.heap.size 3 (.int .i64 0) 8 Tryd.underlying22 int_info rfl (.slice (some ⟨w7.heap.size, 0, none⟩) 0 0) 0 [] rfl hol _ yA ny yc (iv yl) (by simp [iv, hny]) rfl HRD.out (fun q hq => by obtain ⟨z, _, rfl⟩ := List.mem_map.1 hq; rfl) (by omega) (by omega) HBZ.out.size ?_; intro v8 w8 ho8 _ hb8 _; obtain ⟨A8, c8, rfl⟩ := own_shape ho8; simp only [Nat.zero_add, List.nil_append] at ho8 ⊢; have HL8 := Lib.hid (HL1.out.quiet (HBZ.out.trans hb8)); have HO8 := Lib.hid ho8; clear ho8 hb8 e0))
        | (at_builtin; go_loud (refine wpList_pushA w8 [.slice A8 ny c8] rfl (.tmp 93) (.tmp 98) 77 rfl ws.heap.size 22 (.slice none 0 0) 1 24 Tryd.underlying77 words_info rfl (by decide) rfl (.slice LA k lc) k _ rfl HL8.out.row rfl (fun z hz => by simp at hz; subst hz; rfl) (by omega) (by omega) HL8.out.bel.size ?_; intro A9 c9 w9 ho9 hg9 _)))
       have HL9 := Lib.hid (HL8.out.push (x := ⟨A8, c8, yl⟩) (by show w8.ownsRow ws.heap.size 3 1 (.slice A8 yl.length c8) yl.length (iv yl); rw [hny]; exact own_base HO8.out HL1.out.bel.size) (by show w9.ownsRow _ _ 1 _ _ (_ ++ [Value.slice A8 yl.length c8]); rw [hny]; exact ho9) hg9)
       have HX9 := Lib.hid (show (xs ++ [(⟨A8, c8, yl⟩ : SlV)]).map SlV.l = ((fs.map fwp).take (k + 1)).map Prod.fst by rw [List.map_append, HXS.out, take_snoc' HX6.out, List.map_append]; rfl)
       go_roundw
       case rel => exact ⟨k + 1, _, _, _, _, rfl, rfl, by go_num, by omega, HX9, HL9⟩
       case measure => simp [intOf]; omega
      ·obtain rfl : k = n := by omega
       have b9 : ¬ (k : Int) < (k : Int) := by omega
       go_wp2
       refine bodyPost_ret (v := .tuple #[.slice LA k lc, .int .i64 0]) (by simp [results, Tryd.results44, go_sem]) rfl ?_
       have hfl : (fs.map fwp).length = k := by rw [List.length_map]; exact HI.out.len
       refine ⟨HB2.out.trans ((HI.out.bel.trans (HL.out.bel.mono HI.out.bel.size)).mono HB2.out.size), fun e => (by rw [HRS.out] at e; cases e), fun l e => ?_⟩
       rw [HRS.out] at e
       injection e with e
       subst e
       rw [hfl]
       refine ⟨LA, lc, xs, rfl, ?_, HL.out.rd, (own_cap' HL.out.row).1, (own_cap' HL.out.row).2⟩
       rw [HXS.out, List.take_of_length_le (by omega)]
    ·have b4 : ¬ (nl : Int) = (m : Int) := by omega
     have b5 : (nl == m) = false := by simpa using hlm
     have HWN := Lib.hid (HWST.out.trans (if_neg hlm))
     go_upto_region 13 with fail
     refine wp_region_U (fun W => W.cell? ⟨w.heap.size, 0, none⟩ = some (.slice A na ca) ∧ W.cell? ⟨w.heap.size, 1, none⟩ = some (.int .i64 st) ∧ W.cell? ⟨w.heap.size, 2, none⟩ = some (.slice M nm cm) ∧ W.cell? ⟨w.heap.size, 3, none⟩ = some (.slice E ne ce) ∧ W.cell? ⟨(ad.add (i * 2)).block, (ad.add (i * 2)).off + 1, none⟩ = some (.int .i64 t)) (fun _ => True) 6 (by kernel_rfl) ?_
     change anyU _ _ _ _ _ _ _ 9 _ _ _
     have hB0 : True := trivial
     have HID := Lib.hid (HI.out.quiet (below_dr wr))
     have HAW := Lib.hid (fun (W : World) (hb : Below wr.heap.size wr W) => (show W.cell? ⟨w.heap.size, 0, none⟩ = some (.slice A na ca) ∧ W.cell? ⟨w.heap.size, 1, none⟩ = some (.int .i64 st) ∧ W.cell? ⟨w.heap.size, 2, none⟩ = some (.slice M nm cm) ∧ W.cell? ⟨w.heap.size, 3, none⟩ = some (.slice E ne ce) ∧ W.cell? ⟨(ad.add (i * 2)).block, (ad.add (i * 2)).off + 1, none⟩ = some (.int .i64 t) from by
      have k := HKW.out W (HI.out.bel.trans (hb.mono HI.out.bel.size))
      exact ⟨k.cell (j := 0) rfl, k.cell (j := 1) rfl, k.cell (j := 2) rfl, k.cell (j := 3) rfl, (hb.cell (p := ⟨(ad.add (i * 2)).block, (ad.add (i * 2)).off + 1, none⟩) (by show (ad.add (i * 2)).block < _; rw [block_of_add]; exact hadb)).trans hc1⟩))
     have hA0 := HAW.out wr.drew (below_dr wr)
     obtain ⟨g1, g2, g3⟩ := HOK.out _ HXM.out
     have g2 : 0 ≤ t := g2
     have g3 : t < a.st := g3
     have HO := Lib.hid (canonical_out w.heap.size A M E na ca nm cm ne ce a t wr.drew (by have := HB2.out.size; have := HID.out.bel.size; omega) HX.out.le (HEW.out _ HID.out.bel) HX.out.ec HX.out.cE HW.out g2 g3 st)
     clear hc0 hc1 hadb hrd g1 g2 g3
     have HI0 := Lib.hid (Below.refl wr.drew.heap.size wr.drew)
     have HBD := Lib.hid (below_dr wr)
     generalize wr.drew = wd at HID hA0 HO HI0 HBD ⊢
     (refine uA 0 ?_ rfl hA0 hB0 (fun W hA => ?_) ?_; rotate_left; (· (obtain ⟨a0, a1, a2, a3, _⟩ := hA; go_simp; try with_reducible rfl)); (try simp only [Act.put, List.setIfInBounds_toArray, List.set_cons_zero, List.set_cons_succ]))
     (refine uA 1 ?_ rfl hA0 hB0 (fun W hA => ?_) ?_; rotate_left; (· (go_simp; try with_reducible rfl)); refine uA 2 ?_ rfl hA0 hB0 (fun W hA => ?_) ?_; rotate_left; (· (go_simp; try with_reducible rfl)); refine uA 3 ?_ rfl hA0 hB0 (fun W hA => ?_) ?_; rotate_left; (· (go_simp; try with_reducible rfl)); refine uA 4 ?_ rfl hA0 hB0 (fun W hA => ?_) ?_; rotate_left; (· (go_simp; try with_reducible rfl)); (try simp only [Act.put, List.setIfInBounds_toArray, List.set_cons_zero, List.set_cons_succ]))
     (refine uA 5 ?_ rfl hA0 hB0 (fun W hA => ?_) ?_; rotate_left; (· (obtain ⟨_, _, _, _, a4⟩ := hA; go_simp; try with_reducible rfl)); (try simp only [Act.put, List.setIfInBounds_toArray, List.set_cons_zero, List.set_cons_succ]))
     (refine uA 8 ?_ rfl hA0 hB0 (fun W hA => ?_) ?_; rotate_left; (· (go_simp; try with_reducible rfl)); (try simp only [Act.put, List.setIfInBounds_toArray, List.set_cons_zero, List.set_cons_succ]))
     refine uOne (i := 6) rfl (by kernel_rfl) (fun K hK => ?_)
     go_simp
     go_at_call 77
     refine HO.out.mono ?_
     rintro e we ⟨E', mo, c', rfl, hol, hm32, hxo, hbo⟩
     have hA1 := HAW.out we (HBD.out.trans (hbo.mono HBD.out.size))
     have HIE := Lib.hid (HID.out.quiet hbo)
     have HOL := Lib.hid hol; clear hol
     have HXO := Lib.hid hxo; clear hxo
     have HBWE := Lib.hid HIE.out.bel
     clear hA0 hbo HO HI0 HBD HID HI
     have hA0 := hA1
     (refine hK _ _ ⟨hA1, fun _ => hB0⟩ ?_; clear hK K; (try simp only [Act.put, List.setIfInBounds_toArray, List.set_cons_zero, List.set_cons_succ]))
     (refine uA 7 ?_ rfl hA0 hB0 (fun W hA => ?_) ?_; rotate_left; (· (go_simp; try with_reducible rfl)); (try simp only [Act.put, List.setIfInBounds_toArray, List.set_cons_zero, List.set_cons_succ]))
     refine anyU_done (by kernel_rfl) ?_ _
     clear hA0 hB0 HAW
     go_wp2
     have HI0 := Lib.hid (show WrdI w2 we (.slice (some ad) n ac) n (fs ++ []) by rw [List.append_nil]; exact HIE.out)
     have HE0 := Lib.hid (show ([] : List FW).map fwp = (wrow a (xl, t)).take 0 from rfl)
     go_loopw [9, 12, 54] (fun s9 s12 s54 wr => ∃ (k : Nat) (A5 : Option Addr) (c5 : Nat) (v12 : Value) (gs : List FW), s9 = .slice A5 (n + k) c5 ∧ s12 = v12 ∧ s54 = .int .i64 k ∧ k ≤ mo ∧ Hid (gs.map fwp = (wrow a (xl, t)).take k) ∧ Hid (WrdI w2 wr (.slice A5 (n + k) c5) (n + k) (fs ++ gs))) (fun _ _ s54 _ => mo - (intOf s54).toNat)
     case atStart => exact ⟨0, _, _, _, _, rfl, rfl, rfl, Nat.zero_le _, HE0, HI0⟩
     case round =>
      clear HI0 HE0 HIE
      obtain ⟨k, A5, c5, v13, gs, rfl, rfl, rfl, hk, HE, HI⟩ := hrel
      by_cases hkm : k < mo
      ·have b6 : (k : Int) < (mo : Int) := by omega
       have hxr := (HXO.out.keep (w' := wr) fun p hp => (HI.out.bel.cell (p := p) (by have := HB2.out.size; omega)).trans (HBWE.out.cell (p := p) (by have := HB2.out.size; omega)).symm)
       obtain ⟨ed, z, hE', heb, hze, z0, z1, z2⟩ := hxr.at_ (k := k) (by rw [HOL.out]; exact hkm)
       subst hE'
       have z1 := st_cells (j := 0) z1
       have z2 := st_cells (j := 1) z2
       have HZE := Lib.hid hze; clear hze
       clear hxr
       go_upto_region 16 with fail
       clear z0 z1 z2 heb
       have hbx := box_below wr (.cells #[.int .i64 z.f, .int .i64 z.e, .int .i64 z.t] 83)
       have HI1 := Lib.hid (HI.out.quiet hbx)
       have kx := Blk.new wr 83 [.int .i64 z.f, .int .i64 z.e, .int .i64 z.t]
       have hix : (fs ++ gs)[i]? = some ⟨⟨xA, xc, xl⟩, t⟩ := by rw [List.getElem?_append_left (List.getElem?_eq_some_iff.1 HXI.out).1]; exact HXI.out
       obtain ⟨a5, x5, hA5, hx5, d0, d1, hrd, hadb⟩ := HI1.out.at_ (k := i) (by omega)
       subst hA5
       rw [hix] at hx5
       injection hx5 with hx5
       subst hx5
       have b7 : (i : Int) < (n : Int) + (k : Int) := by omega
       replace d0 : (wr.alloc (.cells #[.int .i64 z.f, .int .i64 z.e, .int .i64 z.t] 83)).cell? (a5.add (i * 2)) = some (.slice xA nl xc) := by rw [d0]; show some (Value.slice xA xl.length xc) = _; rw [HNL.out]
       have hrd : RdI _ _ xA xl := hrd
       refine wp_region_U (fun W => W.cell? ⟨wr.heap.size, 1, none⟩ = some (.int .i64 z.e) ∧ W.cell? ⟨wr.heap.size, 2, none⟩ = some (.int .i64 z.t)) (fun W => W.cell? (a5.add (i * 2)) = some (.slice xA nl xc)) 6 (by kernel_rfl) ?_
       change anyU _ _ _ _ _ _ _ 17 _ _ _
       have HID := Lib.hid (HI1.out.quiet (below_dr _))
       have hkx := kx.below (below_dr _) kx.lt
       have hd0 := ((below_dr (wr.alloc (.cells #[.int .i64 z.f, .int .i64 z.e, .int .i64 z.t] 83))).cell (p := a5.add (i * 2)) (by rw [block_of_add]; exact hadb)).trans d0
       have hrd := (hrd.below (below_dr (wr.alloc (.cells #[.int .i64 z.f, .int .i64 z.e, .int .i64 z.t] 83)))).more (below_dr _).size
       have hadd : a5.block < (wr.alloc (.cells #[.int .i64 z.f, .int .i64 z.e, .int .i64 z.t] 83)).drew.heap.size := hadb
       clear d0 d1 hadb kx hbx hix HI1 HI
       generalize (wr.alloc (.cells #[.int .i64 z.f, .int .i64 z.e, .int .i64 z.t] 83)).drew = wd at HID hkx hd0 hrd hadd ⊢
       have HXW := Lib.hid (fun (W : World) (hb : Below wd.heap.size wd W) => (show (W.cell? ⟨wr.heap.size, 1, none⟩ = some (.int .i64 z.e) ∧ W.cell? ⟨wr.heap.size, 2, none⟩ = some (.int .i64 z.t)) ∧ W.cell? (a5.add (i * 2)) = some (.slice xA nl xc) from
        ⟨⟨(hkx.below hb hkx.lt).cell (j := 1) rfl, (hkx.below hb hkx.lt).cell (j := 2) rfl⟩, (hb.cell (p := a5.add (i * 2)) (by rw [block_of_add]; exact hadd)).trans hd0⟩))
       have HXP := Lib.hid (fun (W W' : World) (hb : Below wd.heap.size wd W) (hr : W.ownsRow w2.heap.size 116 2 (.slice (some a5) (n + k) c5) (n + k) ((fs ++ gs).flatMap fwc)) (hg : W.grownBy W' (Value.slice (some a5) (n + k) c5).ownBlock) => (show W'.cell? ⟨wr.heap.size, 1, none⟩ = some (.int .i64 z.e) ∧ W'.cell? ⟨wr.heap.size, 2, none⟩ = some (.int .i64 z.t) from by
        have hk := (hkx.below hb hkx.lt).kept hg (blk_ne_own hr (hkx.below hb hkx.lt) (by decide))
        exact ⟨hk.cell (j := 1) rfl, hk.cell (j := 2) rfl⟩))
       obtain ⟨hA0, hB0⟩ := HXW.out wd (Below.refl _ _)
       have HRD := Lib.hid hrd; clear hrd
       clear hkx hd0
       (refine uA 0 ?_ rfl hA0 hB0 (fun W hA => ?_) ?_; rotate_left; (· (go_simp; try with_reducible rfl)); refine uA 1 ?_ rfl hA0 hB0 (fun W hA => ?_) ?_; rotate_left; (· (go_simp; try with_reducible rfl)); refine uA 2 ?_ rfl hA0 hB0 (fun W hA => ?_) ?_; rotate_left; (· (go_simp; try with_reducible rfl)); refine uA 3 ?_ rfl hA0 hB0 (fun W hA => ?_) ?_; rotate_left; (· (go_simp; try with_reducible rfl)); refine uA 4 ?_ rfl hA0 hB0 (fun W hA => ?_) ?_; rotate_left; (· (go_simp; try with_reducible rfl)); (try simp only [Act.put, List.setIfInBounds_toArray, List.set_cons_zero, List.set_cons_succ]))
       (refine uB 5 ?_ rfl hA0 hB0 (fun W hA hB => ?_) ?_; rotate_left; (· (go_simp; try with_reducible rfl)); (try simp only [Act.put, List.setIfInBounds_toArray, List.set_cons_zero, List.set_cons_succ]))
       (refine uA 7 ?_ rfl hA0 hB0 (fun W hA => ?_) ?_; rotate_left; (· (skip; go_simp; try with_reducible rfl)); (try simp only [Act.put, List.setIfInBounds_toArray, List.set_cons_zero, List.set_cons_succ]))
       (refine uA 8 ?_ rfl hA0 hB0 (fun W hA => ?_) ?_; rotate_left; (· (obtain ⟨a0, _⟩ := hA; go_simp; try with_reducible rfl)); (try simp only [Act.put, List.setIfInBounds_toArray, List.set_cons_zero, List.set_cons_succ]))
       (refine uA 11 ?_ rfl hA0 hB0 (fun W hA => ?_) ?_; rotate_left; (· (go_simp; try with_reducible rfl)); (try simp only [Act.put, List.setIfInBounds_toArray, List.set_cons_zero, List.set_cons_succ]))
       (refine uA 12 ?_ rfl hA0 hB0 (fun W hA => ?_) ?_; rotate_left; (· (obtain ⟨_, a0⟩ := hA; go_simp; try with_reducible rfl)); (try simp only [Act.put, List.setIfInBounds_toArray, List.set_cons_zero, List.set_cons_succ]))
       refine uTwo (i := 6) (j := 9) rfl rfl (by kernel_rfl) (fun K hK => ?_) (fun K hK => ?_)
       ·have HCL := Lib.hid (slices_Clone_n xA xc nl xl wd HNL.out HRD.out (by have := HNB.out; omega))
        go_simp
        go_at_call 55
        refine HCL.out.mono ?_
        rintro e wc ⟨v, rfl, hoc, hbc⟩
        rw [HNL.out] at hoc
        obtain ⟨CA, cc, rfl⟩ := own_shape hoc
        obtain ⟨hA1, hB1⟩ := HXW.out _ hbc
        clear hA0 hB0 HCL
        (refine hK _ _ ⟨hA1, fun _ => hB1⟩ ?_; clear hK K; (try simp only [Act.put, List.setIfInBounds_toArray, List.set_cons_zero, List.set_cons_succ]))
        refine uOne (i := 9) rfl (by kernel_rfl) (fun K hK => ?_)
        go_simp
        obtain ⟨hA2, hB2⟩ := HXW.out _ (hbc.alloc hbc.size (.cells #[.int .i64 z.e] 3))
        clear hA1 hB1
        (refine hK _ _ ⟨hA2, fun _ => hB2⟩ ?_; clear hK K; (try simp only [Act.put, List.setIfInBounds_toArray, List.set_cons_zero, List.set_cons_succ]))
        refine uOne (i := 10) rfl (by kernel_rfl) (fun K hK => ?_)
        clear hA2 hB2
        refine step_pushN wc [.int .i64 z.e] (by rfl) (.tmp 64) (.tmp 67) 22 (by rfl) wd.heap.size 3 (.int .i64 0) 1 8 Tryd.underlying22 int_info (by rfl) (by decide) (by rfl) (.slice CA nl cc) nl _ (by rfl) hoc (by rfl) (fun q hq => by simp at hq; subst hq; rfl) (by have := HNB.out; omega) (by have := HNB.out; omega) hbc.size ?_
        intro A7 c7 w7 ho7 hg7
        have HB7 := Lib.hid (hbc.grown hg7 hbc.size fun j hj => (hoc.lt j hj).1)
        obtain ⟨hA7, hB7⟩ := HXW.out _ HB7.out
        have hI7 := HID.out.quiet HB7.out
        have hw7 := own_base (base := w2.heap.size) ho7 (by have := HID.out.bel.size; omega)
        have HPU := Lib.hid (fun (A8 : Option Addr) (c8 : Nat) (w8 : World) (ho8 : w8.ownsRow w2.heap.size 116 2 (.slice A8 (n + k + 1) c8) (n + k + 1) ((fs ++ gs).flatMap fwc ++ fwc ⟨⟨A7, c7, xl ++ [z.e]⟩, z.t⟩)) (hg8 : w7.grownBy w8 (Value.slice (some a5) (n + k) c5).ownBlock) => hI7.push (x := ⟨⟨A7, c7, xl ++ [z.e]⟩, z.t⟩) (by
         show w7.ownsRow w2.heap.size 3 1 (.slice A7 (xl ++ [z.e]).length c7) (xl ++ [z.e]).length (iv (xl ++ [z.e]))
         rw [List.length_append, HNL.out, iv_append]
         exact hw7) ho8 hg8)
        have HFC := Lib.hid (show fwc ⟨⟨A7, c7, xl ++ [z.e]⟩, z.t⟩ = [.slice A7 (nl + 1) c7, .int .i64 z.t] by
         show [Value.slice A7 (xl ++ [z.e]).length c7, Value.int .i64 z.t] = _
         rw [List.length_append, HNL.out]; rfl)
        have hr7 := hI7.row
        have hs7 := hI7.bel.size
        have hA0 := hA7
        have hB0 := hB7
        clear hI7 hw7 ho7
        (refine hK _ _ ⟨hA7, fun _ => hB7⟩ ?_; clear hK K; (try simp only [Act.put, List.setIfInBounds_toArray, List.set_cons_zero, List.set_cons_succ]))
        (refine uA 13 ?_ rfl hA0 hB0 (fun W hA => ?_) ?_; rotate_left; (· (go_simp; try with_reducible rfl)); (try simp only [Act.put, List.setIfInBounds_toArray, List.set_cons_zero, List.set_cons_succ]))
        refine uOne (i := 14) rfl (by kernel_rfl) (fun K hK => ?_)
        go_simp
        obtain ⟨hA8, hB8⟩ := HXW.out _ (HB7.out.alloc HB7.out.size (.cells #[.slice A7 (nl + 1) c7, .int .i64 z.t] 116))
        clear hA0 hB0
        (refine hK _ _ ⟨hA8, fun _ => hB8⟩ ?_; clear hK K; (try simp only [Act.put, List.setIfInBounds_toArray, List.set_cons_zero, List.set_cons_succ]))
        refine uOne (i := 15) rfl (by kernel_rfl) (fun K hK => ?_)
        refine step_pushN w7 [.slice A7 (nl + 1) c7, .int .i64 z.t] (by rfl) (.tmp 58) (.tmp 72) 117 (by rfl) w2.heap.size 116 (.agg #[.slice none 0 0, .int .i64 0]) 2 32 Tryd.underlying117 found_info (by rfl) (by decide) (by rfl) (.slice (some a5) (n + k) c5) (n + k) _ (by rfl) hr7 (by rfl) (fun q hq => by simp at hq; rcases hq with rfl | rfl <;> rfl) (by omega) (by omega) hs7 ?_
        intro A9 c9 w9 ho9 hg9
        rw [← HFC.out] at ho9
        have hI9 := HPU.out A9 c9 w9 ho9 hg9
        have HI9 := Lib.hid (show WrdI w2 w9 (.slice A9 (n + (k + 1)) c9) (n + (k + 1)) (fs ++ (gs ++ [⟨⟨A7, c7, xl ++ [z.e]⟩, z.t⟩])) by rw [← List.append_assoc]; exact hI9)
        have HE9 := Lib.hid (show (gs ++ [⟨⟨A7, c7, xl ++ [z.e]⟩, z.t⟩] : List FW).map fwp = (wrow a (xl, t)).take (k + 1) by rw [List.map_append, HE.out, wrow_snoc HZE.out]; rfl)
        have hA9 : w9.cell? ⟨wr.heap.size, 1, none⟩ = some (.int .i64 z.e) ∧ w9.cell? ⟨wr.heap.size, 2, none⟩ = some (.int .i64 z.t) := HXP.out _ _ HB7.out hr7 hg9
        clear ho9 hg9 hI9 HPU hr7
        (refine hK _ _ ⟨hA9, fun h => absurd (h.symm.trans (by kernel_rfl : _ = true)) Bool.false_ne_true⟩ ?_; clear hK K; (try simp only [Act.put, List.setIfInBounds_toArray, List.set_cons_zero, List.set_cons_succ]))
        refine uOne (i := 16) rfl (by kernel_rfl) (fun K hK => ?_)
        go_simp
        (refine hK _ _ ⟨hA9, fun h => absurd (h.symm.trans (by kernel_rfl : _ = true)) Bool.false_ne_true⟩ ?_; clear hK K; (try simp only [Act.put, List.setIfInBounds_toArray, List.set_cons_zero, List.set_cons_succ]))
        refine anyU_done (by kernel_rfl) ?_ _
        clear hA9
        go_wp2
        go_roundw
        case rel => exact ⟨k + 1, _, _, _, _, rfl, rfl, by go_num, by omega, HE9, HI9⟩
        case measure => simp [intOf]; omega
       ·go_simp
        have hbl := box_below wd (.cells #[.int .i64 z.e] 3)
        have hel := Blk.new wd 3 (iv [z.e])
        obtain ⟨hA1, hB1⟩ := HXW.out _ hbl
        have HCL := Lib.hid (slices_Clone_n xA xc nl xl _ HNL.out ((HRD.out.below hbl).more hbl.size) (by have := HNB.out; omega))
        clear hA0 hB0
        (refine hK _ _ ⟨hA1, fun _ => hB1⟩ ?_; clear hK K; (try simp only [Act.put, List.setIfInBounds_toArray, List.set_cons_zero, List.set_cons_succ]))
        refine uOne (i := 6) rfl (by kernel_rfl) (fun K hK => ?_)
        go_simp
        go_at_call 55
        refine HCL.out.mono ?_
        rintro e wc ⟨v, rfl, hoc, hbc⟩
        rw [HNL.out] at hoc
        obtain ⟨CA, cc, rfl⟩ := own_shape hoc
        have hb2 := hbl.trans (hbc.mono hbl.size)
        obtain ⟨hA2, hB2⟩ := HXW.out _ hb2
        clear hA1 hB1 HCL
        (refine hK _ _ ⟨hA2, fun _ => hB2⟩ ?_; clear hK K; (try simp only [Act.put, List.setIfInBounds_toArray, List.set_cons_zero, List.set_cons_succ]))
        refine uOne (i := 10) rfl (by kernel_rfl) (fun K hK => ?_)
        clear hA2 hB2
        refine step_app wc (by rfl) (.tmp 64) (.tmp 67) 22 (by rfl) (wd.alloc (.cells #[.int .i64 z.e] 3)).heap.size 3 (.int .i64 0) 8 Tryd.underlying22 int_info (by rfl) (.slice CA nl cc) nl _ (by rfl) hoc wc.heap.size (some ⟨wd.heap.size, 0, none⟩) 1 1 (iv [z.e]) rfl (by rfl) (Blk.rdi (hel.below hbc hel.lt)) (fun q hq => by simp [iv] at hq; subst hq; rfl) (by have := HNB.out; omega) (by have := HNB.out; omega) hbc.size ?_
        intro v7 w7 ho7 hg7
        obtain ⟨A7, c7, rfl⟩ := own_shape ho7
        replace ho7 := own_base (base := wd.heap.size) ho7 hbl.size
        have HB7 := Lib.hid (hb2.grown hg7 hb2.size fun j hj => Nat.le_trans hbl.size (hoc.lt j hj).1)
        obtain ⟨hA7, hB7⟩ := HXW.out _ HB7.out
        have hI7 := HID.out.quiet HB7.out
        have hw7 := own_base (base := w2.heap.size) ho7 (by have := HID.out.bel.size; omega)
        have HPU := Lib.hid (fun (A8 : Option Addr) (c8 : Nat) (w8 : World) (ho8 : w8.ownsRow w2.heap.size 116 2 (.slice A8 (n + k + 1) c8) (n + k + 1) ((fs ++ gs).flatMap fwc ++ fwc ⟨⟨A7, c7, xl ++ [z.e]⟩, z.t⟩)) (hg8 : w7.grownBy w8 (Value.slice (some a5) (n + k) c5).ownBlock) => hI7.push (x := ⟨⟨A7, c7, xl ++ [z.e]⟩, z.t⟩) (by
         show w7.ownsRow w2.heap.size 3 1 (.slice A7 (xl ++ [z.e]).length c7) (xl ++ [z.e]).length (iv (xl ++ [z.e]))
         rw [List.length_append, HNL.out, iv_append]
         exact hw7) ho8 hg8)
        have HFC := Lib.hid (show fwc ⟨⟨A7, c7, xl ++ [z.e]⟩, z.t⟩ = [.slice A7 (nl + 1) c7, .int .i64 z.t] by
         show [Value.slice A7 (xl ++ [z.e]).length c7, Value.int .i64 z.t] = _
         rw [List.length_append, HNL.out]; rfl)
        have hr7 := hI7.row
        have hs7 := hI7.bel.size
        have hA0 := hA7
        have hB0 := hB7
        clear hI7 hw7 ho7
        (refine hK _ _ ⟨hA7, fun _ => hB7⟩ ?_; clear hK K; (try simp only [Act.put, List.setIfInBounds_toArray, List.set_cons_zero, List.set_cons_succ]))
        (refine uA 13 ?_ rfl hA0 hB0 (fun W hA => ?_) ?_; rotate_left; (· (go_simp; try with_reducible rfl)); (try simp only [Act.put, List.setIfInBounds_toArray, List.set_cons_zero, List.set_cons_succ]))
        refine uOne (i := 14) rfl (by kernel_rfl) (fun K hK => ?_)
        go_simp
        obtain ⟨hA8, hB8⟩ := HXW.out _ (HB7.out.alloc HB7.out.size (.cells #[.slice A7 (nl + 1) c7, .int .i64 z.t] 116))
        clear hA0 hB0
        (refine hK _ _ ⟨hA8, fun _ => hB8⟩ ?_; clear hK K; (try simp only [Act.put, List.setIfInBounds_toArray, List.set_cons_zero, List.set_cons_succ]))
        refine uOne (i := 15) rfl (by kernel_rfl) (fun K hK => ?_)
        refine step_pushN w7 [.slice A7 (nl + 1) c7, .int .i64 z.t] (by rfl) (.tmp 58) (.tmp 72) 117 (by rfl) w2.heap.size 116 (.agg #[.slice none 0 0, .int .i64 0]) 2 32 Tryd.underlying117 found_info (by rfl) (by decide) (by rfl) (.slice (some a5) (n + k) c5) (n + k) _ (by rfl) hr7 (by rfl) (fun q hq => by simp at hq; rcases hq with rfl | rfl <;> rfl) (by omega) (by omega) hs7 ?_
        intro A9 c9 w9 ho9 hg9
        rw [← HFC.out] at ho9
        have hI9 := HPU.out A9 c9 w9 ho9 hg9
        have HI9 := Lib.hid (show WrdI w2 w9 (.slice A9 (n + (k + 1)) c9) (n + (k + 1)) (fs ++ (gs ++ [⟨⟨A7, c7, xl ++ [z.e]⟩, z.t⟩])) by rw [← List.append_assoc]; exact hI9)
        have HE9 := Lib.hid (show (gs ++ [⟨⟨A7, c7, xl ++ [z.e]⟩, z.t⟩] : List FW).map fwp = (wrow a (xl, t)).take (k + 1) by rw [List.map_append, HE.out, wrow_snoc HZE.out]; rfl)
        have hA9 : w9.cell? ⟨wr.heap.size, 1, none⟩ = some (.int .i64 z.e) ∧ w9.cell? ⟨wr.heap.size, 2, none⟩ = some (.int .i64 z.t) := HXP.out _ _ HB7.out hr7 hg9
        clear ho9 hg9 hI9 HPU hr7
        (refine hK _ _ ⟨hA9, fun h => absurd (h.symm.trans (by kernel_rfl : _ = true)) Bool.false_ne_true⟩ ?_; clear hK K; (try simp only [Act.put, List.setIfInBounds_toArray, List.set_cons_zero, List.set_cons_succ]))
        refine uOne (i := 16) rfl (by kernel_rfl) (fun K hK => ?_)
        go_simp
        (refine hK _ _ ⟨hA9, fun h => absurd (h.symm.trans (by kernel_rfl : _ = true)) Bool.false_ne_true⟩ ?_; clear hK K; (try simp only [Act.put, List.setIfInBounds_toArray, List.set_cons_zero, List.set_cons_succ]))
        refine anyU_done (by kernel_rfl) ?_ _
        clear hA9
        go_wp2
        go_roundw
        case rel => exact ⟨k + 1, _, _, _, _, rfl, rfl, by go_num, by omega, HE9, HI9⟩
        case measure => simp [intOf]; omega
      ·obtain rfl : k = mo := by omega
       have HGS := Lib.hid (show (fs ++ gs).map fwp = fs.map fwp ++ wrow a (xl, t) by rw [List.map_append, HE.out, List.take_of_length_le (by rw [wrow_len, HOL.out]; exact Nat.le_refl _)])
       have HLN := Lib.hid (show (fs.map fwp ++ wrow a (xl, t)).length = n + k by rw [← HGS.out, List.length_map]; exact HI.out.len)
       have b8 : ¬ (k : Int) < (k : Int) := by omega
       have HOK2 := Lib.hid (show WdOk a m ((fs ++ gs).map fwp) by rw [HGS.out]; have := HOK.out.app (k := k) HW.out HXM.out (by rw [HNL.out]; exact hlm); rw [List.take_of_length_le (by rw [wrow_len, HOL.out]; exact Nat.le_refl _)] at this; exact this)
       by_cases hlim : 1024 < n + k
       ·have b9 : (1024 : Int) < (n : Int) + (k : Int) := by omega
        have HRZ := Lib.hid (show RES = none by rw [← HG.out, HWN.out, if_pos (by rw [HLN.out]; exact hlim)])
        go_wp2
        refine bodyPost_ret (v := .tuple #[.slice none 0 0, .int .i64 3]) (by simp [results, Tryd.results44, go_sem]) rfl ?_
        exact ⟨HB2.out.trans (HI.out.bel.mono HB2.out.size), fun _ => rfl, fun l e => (by rw [HRZ.out] at e; cases e)⟩
       ·have b9 : ¬ (1024 : Int) < (n : Int) + (k : Int) := by omega
        have HG2 := Lib.hid (show wgo a m (1025 - (i + 1)) (i + 1) ((fs ++ gs).map fwp) = RES by rw [HGS.out, ← HG.out, HWN.out, if_neg (by rw [HLN.out]; exact hlim)])
        go_wp2
        go_roundw
        case rel => exact ⟨i + 1, n + k, _, _, fs ++ gs, rfl, rfl, by go_num, by omega, by omega, HI, HOK2, HG2⟩
        case measure => simp [intOf]; omega
   ·have b3 : ¬ (i : Int) < (n : Int) := by omega
    have HRS := Lib.hid (show RES = some (fs.map fwp) by rw [← HG.out, wgo_end (by rw [List.length_map, HI.out.len]; exact hlt)])
    clear HG
    go_upto_region 20 with fail
    obtain ⟨ws, hws⟩ : ∃ ws, wr = ws := ⟨_, rfl⟩
    rw [hws] at HI ⊢
    clear hws
    have HL0 := Lib.hid (show LstI ws ws (.slice none 0 0) 0 [] from ⟨Below.refl _ _, World.ownsRow_nil _ _ _ _, rfl, fun x hx => by cases hx⟩)
    go_wp2
    go_loopw [13, 15, 80] (fun s13 s15 s80 wr => ∃ (k : Nat) (LA : Option Addr) (lc : Nat) (v15 : Value) (xs : List SlV), s13 = .slice LA k lc ∧ s15 = v15 ∧ s80 = .int .i64 k ∧ k ≤ n ∧ Hid (xs.map SlV.l = ((fs.map fwp).take k).map Prod.fst) ∧ Hid (LstI ws wr (.slice LA k lc) k xs)) (fun _ _ s80 _ => n - (intOf s80).toNat)
    case atStart => exact ⟨0, _, _, _, _, rfl, rfl, rfl, Nat.zero_le _, Lib.hid rfl, HL0⟩
    case round =>
     clear HL0
     obtain ⟨k, LA, lc, v15, xs, rfl, rfl, rfl, hk, HXS, HL⟩ := hrel
     by_cases hkn : k < n
     ·have b9 : (k : Int) < (n : Int) := by omega
      obtain ⟨a6, x6, hA6, hx6, d0, d1, hrd6, hab6⟩ := (HI.out.quiet HL.out.bel).at_ (k := k) hkn
      subst hA6
      have HXM6 := Lib.hid (HOK.out _ (List.mem_map.2 ⟨x6, List.mem_of_getElem? hx6, rfl⟩))
      have HX6 := Lib.hid (show (fs.map fwp)[k]? = some (fwp x6) by rw [List.getElem?_map, hx6]; rfl)
      obtain ⟨⟨yA, yc, yl⟩, y6⟩ := x6
      obtain ⟨ny, hny⟩ : ∃ j, yl.length = j := ⟨_, rfl⟩
      have hny4 : ny ≤ 4096 := by have := HXM6.out.1; simp only [fwp] at this; omega
      replace d0 := d0.trans (congrArg some (show SlV.v ⟨yA, yc, yl⟩ = Value.slice yA ny yc by show Value.slice yA yl.length yc = _; rw [hny]))
      clear hx6
      go_upto_region 24 with fail
      clear d0 d1
      have hbx := box_below wr (.cells #[.slice yA ny yc, .int .i64 y6] 116)
      have HL1 := Lib.hid (HL.out.quiet hbx)
      have kx := Blk.new wr 116 [.slice yA ny yc, .int .i64 y6]
      have hrd6 := (hrd6.below hbx).more hbx.size
      obtain ⟨w7, hw7⟩ : ∃ w7, w7 = wr.alloc (.cells #[.slice yA ny yc, .int .i64 y6] 116) := ⟨_, rfl⟩
      rw [← hw7] at HL1 kx hrd6 ⊢
      have hbz := box_below w7 (.cells #[] 3)
      have e0 := (kx.below hbz kx.lt).cell (j := 0) rfl
      have HRD := Lib.hid ((hrd6.below hbz).more hbz.size)
      have hol := own_lit w7 [] w7.heap.size 3 (Nat.le_refl _) (by simp)
      have HBZ := Lib.hid hbz
      clear hbx kx hrd6 hw7 HL hab6 hbz
      go_upto_region 25 with fail
      go_wp2_with (first
       | (at_builtin; (refine wpList_app _ rfl (.tmp 94) (.tmp 96) 22 rfl w7.heap.size 3 (.int .i64 0) 8 Tryd.underlying22 int_info rfl (.slice (some ⟨w7.heap.size, 0, none⟩) 0 0) 0 [] rfl hol _ yA ny yc (iv yl) (by simp [iv, hny]) rfl HRD.out (fun q hq => by obtain ⟨z, _, rfl⟩ := List.mem_map.1 hq; rfl) (by omega) (by omega) HBZ.out.size ?_; intro v8 w8 ho8 _ hb8 _; obtain ⟨A8, c8, rfl⟩ := own_shape ho8; simp only [Nat.zero_add, List.nil_append] at ho8 ⊢; have HL8 := Lib.hid (HL1.out.quiet (HBZ.out.trans hb8)); have HO8 := Lib.hid ho8; clear ho8 hb8 e0))
       | (at_builtin; go_loud (refine wpList_pushA w8 [.slice A8 ny c8] rfl (.tmp 93) (.tmp 98) 77 rfl ws.heap.size 22 (.slice none 0 0) 1 24 Tryd.underlying77 words_info rfl (by decide) rfl (.slice LA k lc) k _ rfl HL8.out.row rfl (fun z hz => by simp at hz; subst hz; rfl) (by omega) (by omega) HL8.out.bel.size ?_; intro A9 c9 w9 ho9 hg9 _)))
      have HL9 := Lib.hid (HL8.out.push (x := ⟨A8, c8, yl⟩) (by show w8.ownsRow ws.heap.size 3 1 (.slice A8 yl.length c8) yl.length (iv yl); rw [hny]; exact own_base HO8.out HL1.out.bel.size) (by show w9.ownsRow _ _ 1 _ _ (_ ++ [Value.slice A8 yl.length c8]); rw [hny]; exact ho9) hg9)
      have HX9 := Lib.hid (show (xs ++ [(⟨A8, c8, yl⟩ : SlV)]).map SlV.l = ((fs.map fwp).take (k + 1)).map Prod.fst by rw [List.map_append, HXS.out, take_snoc' HX6.out, List.map_append]; rfl)
      go_roundw
      case rel => exact ⟨k + 1, _, _, _, _, rfl, rfl, by go_num, by omega, HX9, HL9⟩
      case measure => simp [intOf]; omega
     ·obtain rfl : k = n := by omega
      have b9 : ¬ (k : Int) < (k : Int) := by omega
      go_wp2
      refine bodyPost_ret (v := .tuple #[.slice LA k lc, .int .i64 0]) (by simp [results, Tryd.results44, go_sem]) rfl ?_
      have hfl : (fs.map fwp).length = k := by rw [List.length_map]; exact HI.out.len
      refine ⟨HB2.out.trans ((HI.out.bel.trans (HL.out.bel.mono HI.out.bel.size)).mono HB2.out.size), fun e => (by rw [HRS.out] at e; cases e), fun l e => ?_⟩
      rw [HRS.out] at e
      injection e with e
      subst e
      rw [hfl]
      refine ⟨LA, lc, xs, rfl, ?_, HL.out.rd, (own_cap' HL.out.row).1, (own_cap' HL.out.row).2⟩
      rw [HXS.out, List.take_of_length_le (by omega)]
end Go.Proofs.YtcchnibgehonoaaDoor
