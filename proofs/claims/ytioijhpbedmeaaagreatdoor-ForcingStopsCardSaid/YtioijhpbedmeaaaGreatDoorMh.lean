/- Walks: product.Synchronous. -/
import Derived.Test.YtioijhpbedmeaaaGreatDoorMe
import Derived.Deep.RegionHeld3
namespace Go.Proofs.YtioijhpbedmeaaaGreatDoor
open Go.RowKit Go Go.Maps

/-- three slices that lie above a block -/
def Fr3 (r : Nat) (A M E : Option Addr) : Prop := (∀ ad, A = some ad → r < ad.block) ∧ (∀ ad, M = some ad → r < ad.block) ∧ (∀ ad, E = some ad → r < ad.block)
theorem own_frs {w : World} {base r : Nat} {e : TypeId} {size n c n' : Nat} {A : Option Addr} {xs : List Value} (h : w.ownsRow base e size (.slice A n c) n' xs) (hr : r < base) : ∀ ad, A = some ad → r < ad.block := by
 rintro ad rfl
 rcases h.2 with ⟨h1, _⟩ | ⟨g, cap, cur, h1, hb, _⟩
 ·cases h1
 ·injection h1 with h1
  injection h1 with h1
  subst h1
  exact Nat.lt_of_lt_of_le hr hb
theorem SynI.frs {k : Cst} {w0 w : World} {TA MA EA : Option Addr} {tc mc ec nt km ke : Nat} {ts : List SlV} {s : Bs (List Int)} {mk : List Int} (h : SynI k w0 w (.slice TA nt tc) (.slice MA km mc) (.slice EA ke ec) nt km ke ts s mk) : Fr3 k.ra k.V MA EA :=
 ⟨h.mach.fv, own_frs h.mrk (by have := h.rm; omega), own_frs h.edg (by have := h.rm; omega)⟩

/-- What Synchronous hands back. -/
def RetSyn (r : Option (Aut × List (List Int))) (er : Int) (w : World) (e : Ending) (w' : World) : Prop :=
 Below w.heap.size w w' ∧ match r with
 | none => e = .returned (.tuple #[.agg #[.slice none 0 0, .int .i64 0, .slice none 0 0, .slice none 0 0], .slice none 0 0, .int .i64 er])
 | some (a, T) => ∃ (A : Option Addr) (na ca : Nat) (M : Option Addr) (nm cm : Nat) (E : Option Addr) (ne ce : Nat) (B : Option Addr) (nb cb : Nat) (ts : List SlV),
   e = .returned (.tuple #[.agg #[.slice A na ca, .int .i64 a.st, .slice M nm cm, .slice E ne ce], .slice B nb cb, .int .i64 0]) ∧ AutR w' w'.heap.size A na ca M nm cm E ne ce a ∧ RdS w' w'.heap.size B ts ∧ ts.length = nb ∧ nb ≤ cb ∧ cb ≤ 9223372036854775807 ∧ ts.map SlV.l = T ∧ Fr3 w.heap.size A M E

set_option maxRecDepth 100000 in
set_option maxHeartbeats 12800000 in
theorem product_Synchronous (L : Option Addr) (c n : Nat) (xs : List AV) (w : World) (hl : xs.length = n) (h : RdL w w.heap.size L xs) (hc1 : n ≤ c) (hc2 : c ≤ 9223372036854775807) (hz : chkL (xs.map AV.a) = 0) (hst : ∀ a ∈ xs.map AV.a, a.st ≤ 100) :
  Calls Tryz.prog 41 #[.slice L n c] w (RetSyn (synR (xs.map AV.a)) 3 w) := by
 obtain ⟨hn, hw⟩ := chkL_wf hz
 rw [List.length_map, hl] at hn
 have hB0 := box_below w (.cells #[.slice none 0 0, .int .i64 0, .slice none 0 0, .slice none 0 0] 33)
 have hC := product_Check L c n xs _ hl ((h.below hB0).more hB0.size) hc1 hc2
 rw [hz] at hC
 have hr0 : Blk (w.alloc (.cells #[.slice none 0 0, .int .i64 0, .slice none 0 0, .slice none 0 0] 33)) w.heap.size 33 [.slice none 0 0, .int .i64 0, .slice none 0 0, .slice none 0 0] := Blk.new _ _ _
 have hmm := @run_makeMap Tryz.prog
 obtain ⟨R, hR⟩ : ∃ R, synR (xs.map AV.a) = R := ⟨_, rfl⟩
 rw [hR]
 have HRR := Lib.hid hR; clear hR
 have HC := Lib.hid hC; clear hC
 have HR0 := Lib.hid hr0; clear hr0
 have HL := Lib.hid hl; clear hl
 have HW := Lib.hid hw; clear hw
 have HST := Lib.hid hst; clear hst
 clear hz
 go_enter Tryz.func41, Tryz.ntmps41
 go_wp2_with fail
 refine HC.out.mono ?_
 rintro e w1 ⟨rfl, hb⟩
 have HR1 := Lib.hid (HR0.out.below hb (by simp))
 have HF1 := Lib.hid (hB0.trans (hb.mono hB0.size))
 have HO := Lib.hid (product_open L c n xs w1 w.heap.size HL.out (h.below HF1.out) HF1.out.size hc1 hc2 hn HW.out)
 clear HC HR0 hb
 go_wp2_with fail
 refine HO.out.mono ?_
 rintro e w2 ⟨V, nv, cv, G, cg, rfl, hM, hb⟩
 have HR2 := Lib.hid (HR1.out.below hb HR1.out.lt)
 have HF2 := Lib.hid (HF1.out.trans (hb.mono HF1.out.size))
 have f0 := HR2.out.free 0
 have e0 := HR2.out.cell (j := 0) rfl
 have l0 : w.heap.size < w2.heap.size := HR2.out.lt
 have HM := Lib.hid hM; clear hM
 clear HO HR1 HF1 hb
 go_wp2_with fail
 have hgA : w2.grownBy ((w2.setCell ⟨w.heap.size, 0, none⟩ (.slice V nv cv)).alloc (.cells #[.slice L n c, .slice V nv cv, .slice G n cg] 122)) (some w.heap.size) := (grown_setCell _ _ _ _).trans (grown_alloc _ _ _)
 have hbA : Blk ((w2.setCell ⟨w.heap.size, 0, none⟩ (.slice V nv cv)).alloc (.cells #[.slice L n c, .slice V nv cv, .slice G n cg] 122)) w.heap.size 33 [.slice V nv cv, .int .i64 0, .slice none 0 0, .slice none 0 0] := (HR2.out.set (j := 0) (by simp) _).kept (grown_alloc _ _ none) (by simp)
 have hmA : Blk ((w2.setCell ⟨w.heap.size, 0, none⟩ (.slice V nv cv)).alloc (.cells #[.slice L n c, .slice V nv cv, .slice G n cg] 122)) w2.heap.size 122 [.slice L n c, .slice V nv cv, .slice G n cg] := by
  have := Blk.new (w2.setCell ⟨w.heap.size, 0, none⟩ (.slice V nv cv)) 122 [.slice L n c, .slice V nv cv, .slice G n cg]
  rwa [show (w2.setCell ⟨w.heap.size, 0, none⟩ (.slice V nv cv)).heap.size = w2.heap.size by simp [World.setCell]] at this
 have hMA := HM.out.keep (w' := (w2.setCell ⟨w.heap.size, 0, none⟩ (.slice V nv cv)).alloc (.cells #[.slice L n c, .slice V nv cv, .slice G n cg] 122)) (Nat.le_of_lt l0) (fun j hj hne => hgA.block j hj (by intro e; injection e with e; exact hne e))
 have hFA := HF2.out.grown hgA HF2.out.size (fun j hj => by injection hj with hj; omega)
 have hszA : w2.heap.size < ((w2.setCell ⟨w.heap.size, 0, none⟩ (.slice V nv cv)).alloc (.cells #[.slice L n c, .slice V nv cv, .slice G n cg] 122)).heap.size := hmA.lt
 refine (mach_initial L n c V nv cv G cg xs _ ((hMA.mach (Nat.le_of_lt l0)).more (Nat.le_of_lt hszA)) hn).mono ?_
 rintro e w3 ⟨v3, rfl, ho3, hb3⟩
 have HB3 := Lib.hid (hbA.below hb3 hbA.lt)
 have HM3 := Lib.hid (hmA.below hb3 hmA.lt)
 have HMF3 := Lib.hid (hMA.keep (w' := w3) (Nat.le_of_lt l0) (fun j hj _ => hb3.block j (by omega)))
 have HF3 := Lib.hid (hFA.trans (hb3.mono hFA.size))
 have HO3 := Lib.hid (own_base ho3 (show w2.heap.size + 1 ≤ _ from hszA))
 have l3 : w2.heap.size < w3.heap.size := HM3.out.lt
 clear hgA hbA hmA hMA hFA hszA ho3 hb3 HR2 HF2 HM f0 e0
 have k0 := HM3.out.cell (j := 0) rfl
 have k1 := HM3.out.cell (j := 1) rfl
 have k2 := HM3.out.cell (j := 2) rfl
 have f0 := HB3.out.free 0
 have f1 := HB3.out.free 1
 have f2 := HB3.out.free 2
 have f3 := HB3.out.free 3
 have e0 := HB3.out.cell (j := 0) rfl
 have e1 := HB3.out.cell (j := 1) rfl
 have e2 := HB3.out.cell (j := 2) rfl
 have e3 := HB3.out.cell (j := 3) rfl
 obtain ⟨A3, c3, rfl⟩ := own_shape HO3.out
 cases hns : noSt (xs.map AV.a) with
 | true =>
  have hres : synR (xs.map AV.a) = some (⟨evs (xs.map AV.a), 0, [], []⟩, []) := by unfold synR; rw [if_pos hns]
  have HRES := Lib.hid (HRR.out.symm.trans hres)
  clear hres HRR
  have HNS := Lib.hid hns; clear hns
  go_wp2
  have hb3 := (((HB3.out.set (j := 0) (by simp) (.slice V nv cv)).set (j := 1) (by simp) (.int .i64 0)).set (j := 2) (by simp) (.slice none 0 0)).set (j := 3) (by simp) (.slice none 0 0)
  have z0 := hb3.cell (j := 0) rfl
  have z1 := hb3.cell (j := 1) rfl
  have z2 := hb3.cell (j := 2) rfl
  have z3 := hb3.cell (j := 3) rfl
  refine bodyPost_ret (v := .tuple #[.agg #[.slice V nv cv, .int .i64 0, .slice none 0 0, .slice none 0 0], .slice none 0 0, .int .i64 0]) (by simp [results, Tryz.results41, go_sem, z0, z1, z2, z3]) rfl ?_
  have hg4 : w3.grownBy ((((w3.setCell ⟨w.heap.size, 0, none⟩ (.slice V nv cv)).setCell ⟨w.heap.size, 1, none⟩ (.int .i64 0)).setCell ⟨w.heap.size, 2, none⟩ (.slice none 0 0)).setCell ⟨w.heap.size, 3, none⟩ (.slice none 0 0)) (some w.heap.size) := (((grown_setCell _ _ _ _).trans (grown_setCell _ _ _ _)).trans (grown_setCell _ _ _ _)).trans (grown_setCell _ _ _ _)
  have hMF := HMF3.out.keep (w' := (((w3.setCell ⟨w.heap.size, 0, none⟩ (.slice V nv cv)).setCell ⟨w.heap.size, 1, none⟩ (.int .i64 0)).setCell ⟨w.heap.size, 2, none⟩ (.slice none 0 0)).setCell ⟨w.heap.size, 3, none⟩ (.slice none 0 0)) (Nat.le_of_lt l0) (fun j hj hne => hg4.block j (by omega) (by intro e; injection e with e; exact hne e))
  have hF4 := HF3.out.grown hg4 HF3.out.size (fun j hj => by injection hj with hj; omega)
  rw [HRES.out]
  refine ⟨hF4, V, nv, cv, none, 0, 0, none, 0, 0, none, 0, 0, [], rfl, ⟨hMF.lv, hMF.vc, hMF.cV, hMF.rv.more (Nat.le_trans (by omega) hg4.size), rfl, Nat.le_refl _, by omega, RdI.nil, rfl, Nat.le_refl _, by omega, RdX.nil⟩, RdS.nil, rfl, Nat.le_refl _, by omega, rfl, hMF.fv, fun _ h => (by cases h), fun _ h => (by cases h)⟩
 | false =>
  rw [hns] at HO3
  have HNS := Lib.hid hns; clear hns
  simp only [Bool.false_eq_true, if_false] at HO3 ⊢
  have hin : (ini (xs.map AV.a)).length = n := by unfold ini; rw [List.length_replicate, List.length_map, HL.out]
  rw [hin] at HO3 ⊢
  have HIN := Lib.hid hin; clear hin
  have hini : ∀ s ∈ ini (xs.map AV.a), (0 : Int) ≤ s ∧ s < 100 := fun s hs => by
   have := List.eq_of_mem_replicate hs
   omega
  have hkz := keyS_size hini
  rw [HIN.out] at hkz
  have hB4 : Below w3.heap.size w3 ((w3.alloc (.cells #[.slice A3 n c3] 30)).alloc (.map #[] 0)) := ((Below.refl _ _).alloc (Nat.le_refl _) _).alloc (by simp) _
  have HK4 := Lib.hid (product_key A3 n c3 (ini (xs.map AV.a)) _ HIN.out (((RdI.of_own HO3.out).below hB4).more hB4.size) hn hini)
  have ht4 := TabI.made (w3.alloc (.cells #[.slice A3 n c3] 30)) Tryz.prog 9 3 Value.string
  rw [show (w3.alloc (.cells #[.slice A3 n c3] 30)).heap.size = w3.heap.size + 1 by simp] at ht4
  have HT4 := Lib.hid ht4
  have HINI := Lib.hid hini
  have HKEY := Lib.hid (strKey (keyS (ini (xs.map AV.a))) (by omega))
  clear hini ht4 hkz hB4
  go_wp2_with fail
  refine HK4.out.mono ?_
  rintro e w5 ⟨rfl, hb5⟩
  have HT5 := Lib.hid (TabI.below HT4.out hb5 (by simp))
  have HB5 := Lib.hid hb5
  clear hb5 HT4 HK4
  go_wp2_with (refine wpList_tab_insert rfl (.tmp 38) (.tmp 40) (.const (.int .i64 0)) 126 rfl strLaw Tryz.underlying126 Tryz.underlying3 rfl HT5.out (by omega) (keyS (ini (xs.map AV.a))) rfl HKEY.out 0 rfl (by decide) (idxO [keyS (ini (xs.map AV.a))]) (fun d hd => by injection hd with hd; subst hd; simp [idxO, idx]) (fun d hd => by have hd' : ¬ keyS (ini (xs.map AV.a)) = d := fun e => hd (by rw [e]); simp [idxO, idx, hd']) ?_; intro w6 hT6 hg6)
  have HS := Lib.hid (SynI.start (k := ⟨w.heap.size, w2.heap.size, w3.heap.size + 1, L, n, c, V, nv, cv, G, cg, xs⟩) (w0 := w) HB3.out HM3.out HMF3.out HF3.out HO3.out HIN.out l0 rfl HB5.out hT6 hg6 HINI.out)
  clear hT6 hg6 HT5 HB5 HKEY HO3 HB3 HM3 HMF3 HF3 k0 k1 k2 f0 f1 f2 f3 e0 e1 e2 e3
  have HBI := Lib.hid (BInv.begin (C := 4096) (st := stp (xs.map AV.a)) (V := evs (xs.map AV.a)) (x0 := ini (xs.map AV.a)) (by omega))
  have HRS := Lib.hid (show bsR 4096 (stp (xs.map AV.a)) (evs (xs.map AV.a)) (4097 - 0) 0 ⟨[ini (xs.map AV.a)], []⟩ = synS (xs.map AV.a) from rfl)
  have hsr : synR (xs.map AV.a) = (synS (xs.map AV.a)).map (fun s => (autOf (evs (xs.map AV.a)) (mkT (xs.map AV.a)) s, s.ts)) := by unfold synR; rw [if_neg (by rw [HNS.out]; simp)]
  have HSR := Lib.hid hsr; clear hsr
  have hn12 := hn
  have l3' : w.heap.size < w3.heap.size := by omega
  go_wp2
  go_loopw [3, 10] (fun s3 s10 wr => ∃ (i nt km ke : Nat) (tv mv ev : Value) (ts : List SlV) (s : Bs (List Int)) (mk : List Int), s10 = .int .i64 i ∧ s3 = tv ∧ i ≤ nt ∧ nt ≤ 4096 ∧ km ≤ i ∧ ke ≤ i * 32 ∧ Hid (SynI ⟨w.heap.size, w2.heap.size, w3.heap.size + 1, L, n, c, V, nv, cv, G, cg, xs⟩ w wr tv mv ev nt km ke ts s mk) ∧
   Hid (mk = mksN (mkT (xs.map AV.a)) s.ts i) ∧ Hid (BInv 4096 (stp (xs.map AV.a)) (evs (xs.map AV.a)) (ini (xs.map AV.a)) i s) ∧ Hid (bsR 4096 (stp (xs.map AV.a)) (evs (xs.map AV.a)) (4097 - i) i s = synS (xs.map AV.a))) (fun _ s10 _ => 4097 - (intOf s10).toNat)
  case atStart => exact ⟨0, 1, 0, 0, _, _, _, _, _, _, rfl, rfl, by omega, by omega, by omega, by omega, HS, Lib.hid rfl, HBI, HRS⟩
  case round =>
   obtain ⟨i, nt, km, ke, tv, mv, ev, ts, s, mk, rfl, rfl, hin', hnt, hkm, hke, HS1, HMK, HBI1, HRS1⟩ := hrel
   clear HS HBI HRS
   obtain ⟨wo, rfl⟩ : ∃ wo : World, wo = wr := ⟨_, rfl⟩
   obtain ⟨TA, tc, rfl⟩ := own_shape HS1.out.own
   obtain ⟨MA, mc, rfl⟩ := own_shape HS1.out.mrk
   obtain ⟨EA, ec, rfl⟩ := own_shape HS1.out.edg
   have k0 : wo.cell? ⟨w2.heap.size, 0, none⟩ = some (.slice L n c) := HS1.out.mbk.cell (j := 0) rfl
   have k1 : wo.cell? ⟨w2.heap.size, 1, none⟩ = some (.slice V nv cv) := HS1.out.mbk.cell (j := 1) rfl
   have k2 : wo.cell? ⟨w2.heap.size, 2, none⟩ = some (.slice G n cg) := HS1.out.mbk.cell (j := 2) rfl
   have kl : w2.heap.size < wo.heap.size := HS1.out.mbk.lt
   by_cases hlt : i < nt
   ·obtain ⟨x, hx⟩ : ∃ x, ts[i]? = some x := ⟨_, List.getElem?_eq_getElem (by rw [HS1.out.tn]; exact hlt)⟩
    have hxt : s.ts[i]? = some x.l := by rw [← HS1.out.tsl, List.getElem?_map, hx]; rfl
    obtain ⟨hxo, hxl, hxd⟩ := HS1.out.tup x (List.mem_of_getElem? hx)
    obtain ⟨td, e9, htd, htc⟩ := RdV.of_own HS1.out.own i x.v (by rw [List.getElem?_map, hx]; rfl)
    subst e9
    obtain ⟨XA, xc, t⟩ := x
    have htc' : wo.cell? (td.add i) = some (.slice XA n xc) := by rw [htc]; show some (Value.slice XA t.length xc) = _; rw [show t.length = n from hxl]
    have hxo' : wo.ownsRow (w2.heap.size + 1) 3 1 (.slice XA n xc) n (iv t) := by
     have : wo.ownsRow (w2.heap.size + 1) 3 1 (.slice XA t.length xc) n (iv t) := hxo
     rwa [show t.length = n from hxl] at this
    have hcap := own_cap' hxo'
    have htT := rch_tup HW.out HNS.out (HBI1.out.rch t (List.mem_of_getElem? hxt))
    have b1 : (i : Int) < (nt : Int) := by omega
    have HMR := Lib.hid ((HS1.out.mach.mach (Nat.le_of_lt HS1.out.rm)).more (Nat.le_of_lt kl))
    have HXR := Lib.hid (RdI.of_own hxo')
    have HXL : Hid (t.length = n) := Lib.hid hxl
    obtain ⟨hcap1, hcap2⟩ := hcap
    obtain ⟨q, hq⟩ : ∃ q, mkT (xs.map AV.a) t = q := ⟨_, rfl⟩
    have hMARK := fun (W : World) (hW1 : MachR W W.heap.size L n c V nv cv G cg xs) (hW2 : RdI W W.heap.size XA t) => mach_marked L n c V nv cv G cg xs XA xc t q W hW1 HXL.out hW2 hcap1 HW.out hq
    have HMARK := Lib.hid hMARK; clear hMARK
    have HQ := Lib.hid hq; clear hq
    have HX := Lib.hid hx; clear hx
    have HXT := Lib.hid hxt; clear hxt
    have HXO := Lib.hid hxo'; clear hxo'
    have HTT := Lib.hid htT; clear htT
    clear hxo hxl htc hxd
    go_wp2
    go_region_held3 (fun w' => w'.cell? ⟨w2.heap.size, 0, none⟩ = some (.slice L n c) ∧ w'.cell? ⟨w2.heap.size, 1, none⟩ = some (.slice V nv cv) ∧ w'.cell? ⟨w2.heap.size, 2, none⟩ = some (.slice G n cg) ∧ w'.cell? (td.add i) = some (.slice XA n xc)) (first | exact ⟨k0, k1, k2, htc'⟩ | exact ⟨y0, y1, y2, y3⟩ | go_keep)
     (first | (go_at_call 78; (with_reducible refine (HMARK.out _ ?_ ?_).mono ?_); exact HMR.out.same rfl (Nat.le_refl _); exact HXR.out; rintro e w7 ⟨rfl, hb7⟩; replace hb7 : Below wo.heap.size wo w7 := ⟨hb7.os, hb7.tape, hb7.output, hb7.size, hb7.block⟩; have y0 := (hb7.cell (p := ⟨w2.heap.size, 0, none⟩) kl).trans k0; have y1 := (hb7.cell (p := ⟨w2.heap.size, 1, none⟩) kl).trans k1; have y2 := (hb7.cell (p := ⟨w2.heap.size, 2, none⟩) kl).trans k2; have y3 := (hb7.cell (p := td.add i) (by rw [block_of_add]; exact htd)).trans htc') | fail)
    have HS7 := Lib.hid (HS1.out.quiet hb7)
    have g1 : w7.cell? ⟨w2.heap.size, 1, none⟩ = some (.slice V nv cv) := y1
    have g2 : w7.cell? ⟨w.heap.size, 2, none⟩ = some (.slice MA km mc) := HS7.out.blk.cell (j := 2) rfl
    have gl : w2.heap.size < w7.heap.size := HS7.out.mbk.lt
    have hbs : w2.heap.size + 1 ≤ w7.heap.size := by omega
    clear y0 y1 y2 y3 HMR HXR HMARK k0 k1 k2 hb7
    try clear hs
    cases q with
    | true =>
     have HMK2 := Lib.hid (show mk ++ [(i : Int)] = mksN (mkT (xs.map AV.a)) s.ts (i + 1) by rw [mksN_yes HXT.out HQ.out, HMK.out])
     go_wp2_with (at_builtin; refine wpList_pushA _ [.int .i64 (i : Int)] rfl (.tmp 55) (.tmp 57) 30 rfl (w2.heap.size + 1) 3 (.int .i64 0) 1 8 Tryz.underlying30 int_info rfl (by decide) rfl (.slice MA km mc) km _ rfl HS7.out.mrk rfl (fun u hu => by simp at hu; subst hu; rfl) (by omega) (by omega) hbs ?_; intro MA2 mc2 w8 ho8 hg8 hl8; have B8 := HS7.out.blk.kept hg8 (own_lt_ne HS7.out.mrk (Nat.lt_succ_of_lt l0)); have e8 : w8.cell? ⟨w.heap.size, 2, none⟩ = some (.slice MA km mc) := B8.cell (j := 2) rfl; have f8 : w8.frozen? ⟨w.heap.size, 2, none⟩ = false := B8.free 2; have l8 : w.heap.size < w8.heap.size := B8.lt; have HS8 := Lib.hid (HS7.out.mark (i := (i : Int)) (by rw [iv_append]; exact ho8) hg8 hl8); have g8 : (w8.setCell ⟨w.heap.size, 2, none⟩ (.slice MA2 (km + 1) mc2)).cell? ⟨w2.heap.size, 1, none⟩ = some (.slice V nv cv) := HS8.out.mbk.cell (j := 1) rfl; clear B8 ho8 hg8 hl8)
     have HRS2 := Lib.hid (show bsC 4096 (stp (xs.map AV.a)) (evs (xs.map AV.a)) (4096 - i) i (bsF 4096 (stp (xs.map AV.a)) i t ((evs (xs.map AV.a)).drop 0) s) = synS (xs.map AV.a) by
      have := HRS1.out
      rw [show 4097 - i = 4096 - i + 1 by omega] at this
      rw [← this, bsR_bsC HXT.out])
     have HFI := Lib.hid (show FInv 4096 (stp (xs.map AV.a)) (evs (xs.map AV.a)) (ini (xs.map AV.a)) i t ((evs (xs.map AV.a)).take 0) s from HBI1.out.enter HXT.out)
     have HPR := Lib.hid (List.prefix_refl s.ts)
     go_loopw [3, 63] (fun s3 s63 wr => ∃ (j nu kf : Nat) (tv ev : Value) (us : List SlV) (z : Bs (List Int)), s63 = .int .i64 j ∧ s3 = tv ∧ j ≤ nv ∧ i < nu ∧ nu ≤ 4096 ∧ kf ≤ i * 32 + j ∧ Hid (SynI ⟨w.heap.size, w2.heap.size, w3.heap.size + 1, L, n, c, V, nv, cv, G, cg, xs⟩ w wr tv (.slice MA2 ((km + 1)) mc2) ev nu ((km + 1)) kf us z ((mk ++ [(i : Int)]))) ∧
      Hid (s.ts <+: z.ts) ∧ Hid (FInv 4096 (stp (xs.map AV.a)) (evs (xs.map AV.a)) (ini (xs.map AV.a)) i t ((evs (xs.map AV.a)).take j) z) ∧ Hid (bsC 4096 (stp (xs.map AV.a)) (evs (xs.map AV.a)) (4096 - i) i (bsF 4096 (stp (xs.map AV.a)) i t ((evs (xs.map AV.a)).drop j) z) = synS (xs.map AV.a))) (fun _ s63 _ => nv - (intOf s63).toNat)
     case atStart => exact ⟨0, nt, ke, _, _, ts, s, rfl, rfl, Nat.zero_le _, hlt, hnt, by omega, HS8, HPR, HFI, HRS2⟩
     case round =>
      clear HRS1 HRS2 HFI HPR HBI1
      obtain ⟨j, nu, kf, tv, ev, us, z, rfl, rfl, hjv, hinu, hnu, hkf, HSZ, HPR, HFI, HRZ⟩ := hrel
      obtain ⟨TB, tb, rfl⟩ := own_shape HSZ.out.own
      obtain ⟨EB, eb, rfl⟩ := own_shape HSZ.out.edg
      have k0 : wr.cell? ⟨w2.heap.size, 0, none⟩ = some (.slice L n c) := HSZ.out.mbk.cell (j := 0) rfl
      have k1 : wr.cell? ⟨w2.heap.size, 1, none⟩ = some (.slice V nv cv) := HSZ.out.mbk.cell (j := 1) rfl
      have k2 : wr.cell? ⟨w2.heap.size, 2, none⟩ = some (.slice G n cg) := HSZ.out.mbk.cell (j := 2) rfl
      have klz : w2.heap.size < wr.heap.size := HSZ.out.mbk.lt
      by_cases hjl : j < nv
      ·skip
       have hlv : (evs (xs.map AV.a)).length = nv := HSZ.out.mach.lv
       have hvr : RdI wr w2.heap.size V (evs (xs.map AV.a)) := HSZ.out.mach.rv
       have hnv := evs_le HW.out
       rw [hlv] at hnv
       obtain ⟨vd, v, hV, hvb, hve, hvc⟩ := hvr.at_ (k := j) (by rw [hlv]; exact hjl)
       subst hV
       obtain ⟨x, hx⟩ : ∃ x, us[i]? = some x := ⟨_, List.getElem?_eq_getElem (by rw [HSZ.out.tn]; exact hinu)⟩
       obtain ⟨hxo, hxl, hxd⟩ := HSZ.out.tup x (List.mem_of_getElem? hx)
       obtain ⟨td2, e9, htd2, htc⟩ := RdV.of_own HSZ.out.own i x.v (by rw [List.getElem?_map, hx]; rfl)
       subst e9
       have hxt2 : x.l = t := by
        have h1 := HFI.out.at_
        rw [← HSZ.out.tsl, List.getElem?_map, hx] at h1
        simpa using h1
       obtain ⟨XB, xb, t2⟩ := x
       have hxt3 : t2 = t := hxt2
       subst hxt3
       have htc' : wr.cell? (td2.add i) = some (.slice XB n xb) := by rw [htc]; show some (Value.slice XB t2.length xb) = _; rw [show t2.length = n from hxl]
       have hxo' : wr.ownsRow (w2.heap.size + 1) 3 1 (.slice XB n xb) n (iv t2) := by
        have : wr.ownsRow (w2.heap.size + 1) 3 1 (.slice XB t2.length xb) n (iv t2) := hxo
        rwa [show t2.length = n from hxl] at this
       obtain ⟨hcb1, hcb2⟩ := own_cap' hxo'
       have bj : (j : Int) < (nv : Int) := by omega
       have bi : (i : Int) < (nu : Int) := by omega
       have hvm := List.mem_of_getElem? hve
       obtain ⟨r, hr⟩ : ∃ r, stp (xs.map AV.a) t2 v = r := ⟨_, rfl⟩
       have HMR := Lib.hid ((HSZ.out.mach.mach (Nat.le_of_lt HSZ.out.rm)).more (Nat.le_of_lt klz))
       have HXR := Lib.hid (RdI.of_own hxo')
       have hSTEP := fun (W : World) (hW1 : MachR W W.heap.size L n c (some vd) nv cv G cg xs) (hW2 : RdI W W.heap.size XB t2) => mach_step L n c (some vd) nv cv G cg xs XB xb t2 v r W hW1 hn hW2 hcb1 HW.out HTT.out hr
       have HSTEP := Lib.hid hSTEP; clear hSTEP
       have HLV := Lib.hid hlv; clear hlv
       have HVE := Lib.hid hve; clear hve
       have HVM := Lib.hid hvm; clear hvm
       have HR := Lib.hid hr; clear hr
       clear hxo hxl htc hxd hx hxo' hxt2 hvr
       go_wp2
       go_region_held3 (fun w' => w'.cell? ⟨w2.heap.size, 0, none⟩ = some (.slice L n c) ∧ w'.cell? ⟨w2.heap.size, 1, none⟩ = some (.slice (some vd) nv cv) ∧ w'.cell? ⟨w2.heap.size, 2, none⟩ = some (.slice G n cg) ∧ w'.cell? (td2.add i) = some (.slice XB n xb)) (first | exact ⟨k0, k1, k2, htc'⟩ | exact ⟨y0, y1, y2, y3⟩ | go_keep)
        (first | (go_at_call 79; (with_reducible refine (HSTEP.out _ ?_ ?_).mono ?_); exact HMR.out.same rfl (Nat.le_refl _); exact HXR.out; rintro e wA ⟨vA, rfl, hoA, hbA⟩; replace hbA : Below wr.heap.size wr wA := ⟨hbA.os, hbA.tape, hbA.output, hbA.size, hbA.block⟩; have y0 := (hbA.cell (p := ⟨w2.heap.size, 0, none⟩) klz).trans k0; have y1 := (hbA.cell (p := ⟨w2.heap.size, 1, none⟩) klz).trans k1; have y2 := (hbA.cell (p := ⟨w2.heap.size, 2, none⟩) klz).trans k2; have y3 := (hbA.cell (p := td2.add i) (by rw [block_of_add]; exact htd2)).trans htc') | fail)
       have hbA2 : Below wr.heap.size wr wA := hbA
       have hoA2 : wA.ownsRow wr.heap.size 3 1 vA (r.getD []).length (iv (r.getD [])) := hoA
       have HSA := Lib.hid (HSZ.out.quiet hbA2)
       have HOA := Lib.hid (own_base (base := w2.heap.size + 1) hoA2 (by omega))
       have HOF := Lib.hid hoA2
       have hsA : w2.heap.size + 1 ≤ wA.heap.size := by have := hbA2.size; omega
       clear y0 y1 y2 y3 HMR HXR HSTEP k0 k1 k2 hoA htc' hbA hbA2 hoA2
       try clear hs
       cases r with
       | none =>
        have HF2 : Hid (FInv 4096 (stp (xs.map AV.a)) (evs (xs.map AV.a)) (ini (xs.map AV.a)) i t2 ((evs (xs.map AV.a)).take (j + 1)) z) := by
         rcases HFI.out.step HVM.out with ⟨s1, q1, q2, q3⟩ | ⟨q1, _⟩
         ·rw [bsE_none HR.out] at q1
          injection q1 with q1; subst q1
          rw [take_snoc' HVE.out]; exact Lib.hid q2
         ·rw [bsE_none HR.out] at q1; cases q1
        have HRZ2 := Lib.hid (HRZ.out.symm.trans (by rw [bsF_go HVE.out (bsE_none HR.out)]) : synS (xs.map AV.a) = bsC 4096 (stp (xs.map AV.a)) (evs (xs.map AV.a)) (4096 - i) i (bsF 4096 (stp (xs.map AV.a)) i t2 ((evs (xs.map AV.a)).drop (j + 1)) z))
        go_wp2
        go_roundw
        case rel => exact ⟨j + 1, nu, kf, _, _, us, z, by go_num, rfl, by omega, hinu, hnu, by omega, HSA, HPR, HF2, Lib.hid HRZ2.out.symm⟩
        case measure => simp [intOf]; omega
       | some u =>
        have hTu := stp_tup HW.out HTT.out HR.out
        have hul : u.length = n := by rw [hTu.len, List.length_map, HL.out]
        have hus := tup_ok hTu HST.out
        have hoU : wA.ownsRow (w2.heap.size + 1) 3 1 vA n (iv u) := by
         have := HOA.out
         rw [show ((some u).getD [] : List Int) = u from rfl, hul] at this; exact this
        have hoF : wA.ownsRow wr.heap.size 3 1 vA n (iv u) := by
         have := HOF.out
         rw [show ((some u).getD [] : List Int) = u from rfl, hul] at this; exact this
        obtain ⟨UA, uc, rfl⟩ := own_shape hoU
        have hne := fresh_ne hoF (Nat.le_refl _) HSZ.out.mrk
        have HKC := Lib.hid (product_key UA n uc u wA hul (RdI.of_own hoU) hn hus)
        have hks := keyS_size hus
        rw [hul] at hks
        have HKEY := Lib.hid (strKey (keyS u) (by omega))
        have HUL := Lib.hid hul; clear hul
        have HUS := Lib.hid hus; clear hus
        have HOU := Lib.hid hoU; clear hoU
        have HNE := Lib.hid hne; clear hne
        have HTU := Lib.hid hTu; clear hTu
        clear HOA HOF hoF
        go_wp2_with fail
        refine HKC.out.mono ?_
        rintro e wB ⟨rfl, hbB⟩
        have HSB := Lib.hid (HSA.out.quiet hbB)
        have HOUB := Lib.hid (own_below HOU.out hbB)
        have hsB : w2.heap.size + 1 ≤ wB.heap.size := by have := hbB.size; omega
        clear HKC HSA HOU
        have hko := idxO_key (ts := z.ts) (x := u) HSB.out.tok HUS.out
        by_cases hmem : u ∈ z.ts
        ·obtain ⟨y, hy1, hy2⟩ := idx_yes hmem
         have hyo : idxO (z.ts.map keyS) (keyS u) = some (y : Int) := by rw [hko]; unfold idxO; rw [hy1, if_neg (by omega)]
         have hbe : bsE 4096 (stp (xs.map AV.a)) i t2 z v = some ⟨z.ts, z.es ++ [⟨i, v, y⟩]⟩ := by rw [bsE_old HR.out (by rw [hy1]; omega), hy1]
         have HYO := Lib.hid hyo; clear hyo
         have HBE := Lib.hid hbe; clear hbe
         have HMEM := Lib.hid hmem; clear hmem
         clear hy1 hy2 hko
         have HF2 : Hid (FInv 4096 (stp (xs.map AV.a)) (evs (xs.map AV.a)) (ini (xs.map AV.a)) i t2 ((evs (xs.map AV.a)).take (j + 1)) ⟨z.ts, z.es ++ [⟨i, v, y⟩]⟩) := by
          rcases HFI.out.step HVM.out with ⟨s1, q1, q2, q3⟩ | ⟨q1, _⟩
          ·rw [HBE.out] at q1
           injection q1 with q1; subst q1
           rw [take_snoc' HVE.out]; exact Lib.hid q2
          ·rw [HBE.out] at q1; cases q1
         have HRZ2 := Lib.hid (HRZ.out.symm.trans (by rw [bsF_go HVE.out HBE.out]) : synS (xs.map AV.a) = bsC 4096 (stp (xs.map AV.a)) (evs (xs.map AV.a)) (4096 - i) i (bsF 4096 (stp (xs.map AV.a)) i t2 ((evs (xs.map AV.a)).drop (j + 1)) ⟨z.ts, z.es ++ [⟨i, v, y⟩]⟩))
         have e3 : wB.cell? ⟨w.heap.size, 3, none⟩ = some (.slice EB kf eb) := HSB.out.blk.cell (j := 3) rfl
         go_wp2_with (first
          | (at_lookup; refine wpList_tab_hit rfl (.tmp 80) (.tmp 82) 126 rfl strLaw Tryz.underlying126 Tryz.underlying3 rfl rfl HSB.out.tab (keyS u) rfl HKEY.out (y : Int) HYO.out ?_)
          | (at_builtin; refine wpList_pushA _ [.int .i64 (i : Int), .int .i64 v, .int .i64 (y : Int)] rfl (.tmp 103) (.tmp 108) 31 rfl (w2.heap.size + 1) 49 (.agg #[.int .i64 0, .int .i64 0, .int .i64 0]) 3 24 Tryz.underlying31 edge_info rfl (by decide) rfl (.slice EB kf eb) kf _ rfl HSB.out.edg rfl (fun q hq => by simp at hq; rcases hq with rfl | rfl | rfl <;> rfl) (by omega) (by omega) hsB ?_; intro A9 c9 w9 ho9 hg9 hl9; have B9 := HSB.out.blk.kept hg9 (own_lt_ne HSB.out.edg (Nat.lt_succ_of_lt l0)); have e9 : w9.cell? ⟨w.heap.size, 3, none⟩ = some (.slice EB kf eb) := B9.cell (j := 3) rfl; have f9 : w9.frozen? ⟨w.heap.size, 3, none⟩ = false := B9.free 3; have l9 : w.heap.size < w9.heap.size := B9.lt; have HS9 := Lib.hid (HSB.out.edge (x := ⟨i, v, y⟩) ho9 hg9); clear B9 ho9 hg9 hl9))
         go_roundw
         case rel => exact ⟨j + 1, nu, kf + 1, _, _, us, _, by go_num, rfl, by omega, hinu, hnu, by omega, HS9, HPR, HF2, Lib.hid HRZ2.out.symm⟩
         case measure => simp [intOf]; omega
        ·have hyo : idxO (z.ts.map keyS) (keyS u) = none := by rw [hko]; unfold idxO; rw [idx_no hmem]; rfl
         have hzl : z.ts.length = nu := by rw [← HSB.out.tsl, List.length_map, HSB.out.tn]
         have HYO := Lib.hid hyo; clear hyo
         have HMEM := Lib.hid hmem; clear hmem
         clear hko
         by_cases hfull : nu = 4096
         ·have bfull : ((nu : Int) == 4096) = true := by rw [beq_iff_eq]; omega
          have hbe : bsE 4096 (stp (xs.map AV.a)) i t2 z v = none := bsE_full HR.out (idx_neg.2 HMEM.out) (by rw [hzl]; exact hfull)
          have hsn : synS (xs.map AV.a) = none := by rw [← HRZ.out, bsF_full HVE.out hbe]; rfl
          have hRn : R = none := by rw [← HRR.out, HSR.out, hsn]; rfl
          have HRN := Lib.hid hRn; clear hRn
          have f0 : wB.frozen? ⟨w.heap.size, 0, none⟩ = false := HSB.out.blk.free 0
          have f1 : wB.frozen? ⟨w.heap.size, 1, none⟩ = false := HSB.out.blk.free 1
          have f2 : wB.frozen? ⟨w.heap.size, 2, none⟩ = false := HSB.out.blk.free 2
          have f3 : wB.frozen? ⟨w.heap.size, 3, none⟩ = false := HSB.out.blk.free 3
          have e0 : wB.cell? ⟨w.heap.size, 0, none⟩ = some (.slice (some vd) nv cv) := HSB.out.blk.cell (j := 0) rfl
          have e1 : wB.cell? ⟨w.heap.size, 1, none⟩ = some (.int .i64 0) := HSB.out.blk.cell (j := 1) rfl
          have e2 : wB.cell? ⟨w.heap.size, 2, none⟩ = some (.slice MA2 ((km + 1)) mc2) := HSB.out.blk.cell (j := 2) rfl
          have e3 : wB.cell? ⟨w.heap.size, 3, none⟩ = some (.slice EB kf eb) := HSB.out.blk.cell (j := 3) rfl
          have lB : w.heap.size < wB.heap.size := HSB.out.blk.lt
          clear hbe hsn hzl hfull
          go_wp2_with (at_lookup; refine wpList_tab_miss rfl (.tmp 80) (.tmp 82) 126 rfl strLaw Tryz.underlying126 Tryz.underlying3 rfl rfl HSB.out.tab (keyS u) rfl HKEY.out HYO.out ?_)
          have hb3 : Blk ((((wB.setCell ⟨w.heap.size, 0, none⟩ (.slice none 0 0)).setCell ⟨w.heap.size, 1, none⟩ (.int .i64 0)).setCell ⟨w.heap.size, 2, none⟩ (.slice none 0 0)).setCell ⟨w.heap.size, 3, none⟩ (.slice none 0 0)) w.heap.size 33 [.slice none 0 0, .int .i64 0, .slice none 0 0, .slice none 0 0] := (((HSB.out.blk.set (j := 0) (by simp) (.slice none 0 0)).set (j := 1) (by simp) (.int .i64 0)).set (j := 2) (by simp) (.slice none 0 0)).set (j := 3) (by simp) (.slice none 0 0)
          have z0 := hb3.cell (j := 0) rfl
          have z1 := hb3.cell (j := 1) rfl
          have z2 := hb3.cell (j := 2) rfl
          have z3 := hb3.cell (j := 3) rfl
          refine bodyPost_ret (v := .tuple #[.agg #[.slice none 0 0, .int .i64 0, .slice none 0 0, .slice none 0 0], .slice none 0 0, .int .i64 3]) (by simp [results, Tryz.results41, go_sem, z0, z1, z2, z3]) rfl ?_
          rw [HRN.out]
          exact ⟨(((HSB.out.bel.setCell (Nat.le_refl _) _).setCell (Nat.le_refl _) _).setCell (Nat.le_refl _) _).setCell (Nat.le_refl _) _, rfl⟩
         ·have bfull : ((nu : Int) == 4096) = false := by rw [beq_eq_false_iff_ne]; omega
          have hbe : bsE 4096 (stp (xs.map AV.a)) i t2 z v = some ⟨z.ts ++ [u], z.es ++ [⟨i, v, (nu : Int)⟩]⟩ := by rw [bsE_new HR.out (idx_neg.2 HMEM.out) (by rw [hzl]; exact hfull), hzl]
          have hknm : keyS u ∉ z.ts.map keyS := by
           intro hm
           obtain ⟨t3, h3, h4⟩ := List.mem_map.1 hm
           exact HMEM.out (by rw [← keyS_inj (HSB.out.tok t3 h3) HUS.out h4]; exact h3)
          have hkml : (z.ts.map keyS).length = nu := by rw [List.length_map, hzl]
          have HBE := Lib.hid hbe; clear hbe
          have HKN := Lib.hid hknm; clear hknm
          have HKL := Lib.hid hkml; clear hkml
          clear hzl
          have HF2 : Hid (FInv 4096 (stp (xs.map AV.a)) (evs (xs.map AV.a)) (ini (xs.map AV.a)) i t2 ((evs (xs.map AV.a)).take (j + 1)) ⟨z.ts ++ [u], z.es ++ [⟨i, v, (nu : Int)⟩]⟩) := by
           rcases HFI.out.step HVM.out with ⟨s1, q1, q2, q3⟩ | ⟨q1, _⟩
           ·rw [HBE.out] at q1
            injection q1 with q1; subst q1
            rw [take_snoc' HVE.out]; exact Lib.hid q2
           ·rw [HBE.out] at q1; cases q1
          have HRZ2 := Lib.hid (HRZ.out.symm.trans (by rw [bsF_go HVE.out HBE.out]) : synS (xs.map AV.a) = bsC 4096 (stp (xs.map AV.a)) (evs (xs.map AV.a)) (4096 - i) i (bsF 4096 (stp (xs.map AV.a)) i t2 ((evs (xs.map AV.a)).drop (j + 1)) ⟨z.ts ++ [u], z.es ++ [⟨i, v, (nu : Int)⟩]⟩))
          have HPR2 := Lib.hid (HPR.out.trans (List.prefix_append z.ts [u]))
          have HKC2 := Lib.hid (product_key UA n uc u wB HUL.out (RdI.of_own HOUB.out) hn HUS.out)
          go_wp2_with (at_lookup; refine wpList_tab_miss rfl (.tmp 80) (.tmp 82) 126 rfl strLaw Tryz.underlying126 Tryz.underlying3 rfl rfl HSB.out.tab (keyS u) rfl HKEY.out HYO.out ?_)
          refine HKC2.out.mono ?_
          rintro e wC ⟨rfl, hbC⟩
          have HSC := Lib.hid (HSB.out.quiet hbC)
          have HOUC := Lib.hid (own_below HOUB.out hbC)
          have hsC : w2.heap.size + 1 ≤ wC.heap.size := by have := hbC.size; omega
          clear HKC2 HSB HOUB
          go_wp2_with (first
           | (at_mapUpdate; refine wpList_tab_put rfl (.tmp 94) (.tmp 96) (.tmp 97) 126 rfl strLaw Tryz.underlying126 Tryz.underlying3 rfl HSC.out.tab (by omega) (keyS u) rfl HKEY.out (nu : Int) rfl (WalkArith.wf_i64 (by omega)) (idxO ((z.ts ++ [u]).map keyS)) (fun d hd => by injection hd with hd; subst hd; rw [List.map_append, List.map_cons, List.map_nil, idxO_snoc_new HKN.out, HKL.out]) (fun d hd => by rw [List.map_append, List.map_cons, List.map_nil]; exact idxO_snoc_other (fun e => hd (by rw [e]))) ?_; intro wD hTD hgD; have HOD := Lib.hid (HSC.out.putOwn hgD); have hsD : w2.heap.size + 1 ≤ wD.heap.size := by have := hgD.size; omega)
           | (at_builtin; refine wpList_pushA _ [.slice UA n uc] rfl (.tmp 98) (.tmp 100) 52 rfl (w2.heap.size + 1) 30 (.slice none 0 0) 1 24 Tryz.underlying52 ints_info rfl (by decide) rfl (.slice (some td2) nu tb) nu _ rfl HOD.out rfl (fun q hq => by simp at hq; subst hq; rfl) (by omega) (by omega) hsD ?_; intro A8 c8 w8 ho8 hg8 hl8; have HS8 := Lib.hid (HSC.out.tuple HOUC.out HUL.out HNE.out HUS.out hTD hgD ho8 hg8); have e3 : w8.cell? ⟨w.heap.size, 3, none⟩ = some (.slice EB kf eb) := HS8.out.blk.cell (j := 3) rfl; have hs8 : w2.heap.size + 1 ≤ w8.heap.size := by have := hg8.size; omega)
           | (at_builtin; refine wpList_pushA _ [.int .i64 (i : Int), .int .i64 v, .int .i64 (nu : Int)] rfl (.tmp 103) (.tmp 108) 31 rfl (w2.heap.size + 1) 49 (.agg #[.int .i64 0, .int .i64 0, .int .i64 0]) 3 24 Tryz.underlying31 edge_info rfl (by decide) rfl (.slice EB kf eb) kf _ rfl HS8.out.edg rfl (fun q hq => by simp at hq; rcases hq with rfl | rfl | rfl <;> rfl) (by omega) (by omega) hs8 ?_; intro A9 c9 w9 ho9 hg9 hl9; have B9 := HS8.out.blk.kept hg9 (own_lt_ne HS8.out.edg (Nat.lt_succ_of_lt l0)); have e9 : w9.cell? ⟨w.heap.size, 3, none⟩ = some (.slice EB kf eb) := B9.cell (j := 3) rfl; have f9 : w9.frozen? ⟨w.heap.size, 3, none⟩ = false := B9.free 3; have l9 : w.heap.size < w9.heap.size := B9.lt; have HS9 := Lib.hid (HS8.out.edge (x := ⟨i, v, (nu : Int)⟩) ho9 hg9); clear B9 ho9 hg9 hl9))
          go_roundw
          case rel => exact ⟨j + 1, nu + 1, kf + 1, _, _, _, _, by go_num, rfl, by omega, by omega, by omega, by omega, HS9, HPR2, HF2, Lib.hid HRZ2.out.symm⟩
          case measure => simp [intOf]; omega
      ·have hlv : (evs (xs.map AV.a)).length = nv := HSZ.out.mach.lv
       have hnv := evs_le HW.out
       rw [hlv] at hnv
       have hje : j = nv := by omega
       have hBI : BInv 4096 (stp (xs.map AV.a)) (evs (xs.map AV.a)) (ini (xs.map AV.a)) (i + 1) z := by
        have := HFI.out
        rw [List.take_of_length_le (by rw [hlv]; omega)] at this
        exact this.leave
       have hRZ := HRZ.out
       rw [bsF_end (by rw [hlv]; omega)] at hRZ
       have HRZ2 := Lib.hid (show bsR 4096 (stp (xs.map AV.a)) (evs (xs.map AV.a)) (4097 - (i + 1)) (i + 1) z = synS (xs.map AV.a) by rw [show 4097 - (i + 1) = 4096 - i by omega]; exact hRZ)
       have HMK3 := Lib.hid (HMK2.out.trans (mksN_pre HPR.out (by have := (List.getElem?_eq_some_iff.1 HXT.out).1; omega)).symm)
       have HBI2 := Lib.hid hBI; clear hBI
       subst hje
       clear hRZ hlv HFI HRZ
       go_wp2
       go_roundw
       case rel => exact ⟨i + 1, nu, (km + 1), kf, _, _, _, us, z, _, by go_num, rfl, by omega, hnu, by omega, by omega, HSZ, HMK3, HBI2, HRZ2⟩
       case measure => simp [intOf]; omega
    | false =>
     have HMK2 := Lib.hid (show mk = mksN (mkT (xs.map AV.a)) s.ts (i + 1) by rw [mksN_no HXT.out HQ.out, HMK.out])
     go_wp2
     have HRS2 := Lib.hid (show bsC 4096 (stp (xs.map AV.a)) (evs (xs.map AV.a)) (4096 - i) i (bsF 4096 (stp (xs.map AV.a)) i t ((evs (xs.map AV.a)).drop 0) s) = synS (xs.map AV.a) by
      have := HRS1.out
      rw [show 4097 - i = 4096 - i + 1 by omega] at this
      rw [← this, bsR_bsC HXT.out])
     have HFI := Lib.hid (show FInv 4096 (stp (xs.map AV.a)) (evs (xs.map AV.a)) (ini (xs.map AV.a)) i t ((evs (xs.map AV.a)).take 0) s from HBI1.out.enter HXT.out)
     have HPR := Lib.hid (List.prefix_refl s.ts)
     go_loopw [3, 63] (fun s3 s63 wr => ∃ (j nu kf : Nat) (tv ev : Value) (us : List SlV) (z : Bs (List Int)), s63 = .int .i64 j ∧ s3 = tv ∧ j ≤ nv ∧ i < nu ∧ nu ≤ 4096 ∧ kf ≤ i * 32 + j ∧ Hid (SynI ⟨w.heap.size, w2.heap.size, w3.heap.size + 1, L, n, c, V, nv, cv, G, cg, xs⟩ w wr tv (.slice MA (km) mc) ev nu (km) kf us z (mk)) ∧
      Hid (s.ts <+: z.ts) ∧ Hid (FInv 4096 (stp (xs.map AV.a)) (evs (xs.map AV.a)) (ini (xs.map AV.a)) i t ((evs (xs.map AV.a)).take j) z) ∧ Hid (bsC 4096 (stp (xs.map AV.a)) (evs (xs.map AV.a)) (4096 - i) i (bsF 4096 (stp (xs.map AV.a)) i t ((evs (xs.map AV.a)).drop j) z) = synS (xs.map AV.a))) (fun _ s63 _ => nv - (intOf s63).toNat)
     case atStart => exact ⟨0, nt, ke, _, _, ts, s, rfl, rfl, Nat.zero_le _, hlt, hnt, by omega, HS7, HPR, HFI, HRS2⟩
     case round =>
      clear HRS1 HRS2 HFI HPR HBI1
      obtain ⟨j, nu, kf, tv, ev, us, z, rfl, rfl, hjv, hinu, hnu, hkf, HSZ, HPR, HFI, HRZ⟩ := hrel
      obtain ⟨TB, tb, rfl⟩ := own_shape HSZ.out.own
      obtain ⟨EB, eb, rfl⟩ := own_shape HSZ.out.edg
      have k0 : wr.cell? ⟨w2.heap.size, 0, none⟩ = some (.slice L n c) := HSZ.out.mbk.cell (j := 0) rfl
      have k1 : wr.cell? ⟨w2.heap.size, 1, none⟩ = some (.slice V nv cv) := HSZ.out.mbk.cell (j := 1) rfl
      have k2 : wr.cell? ⟨w2.heap.size, 2, none⟩ = some (.slice G n cg) := HSZ.out.mbk.cell (j := 2) rfl
      have klz : w2.heap.size < wr.heap.size := HSZ.out.mbk.lt
      by_cases hjl : j < nv
      ·skip
       have hlv : (evs (xs.map AV.a)).length = nv := HSZ.out.mach.lv
       have hvr : RdI wr w2.heap.size V (evs (xs.map AV.a)) := HSZ.out.mach.rv
       have hnv := evs_le HW.out
       rw [hlv] at hnv
       obtain ⟨vd, v, hV, hvb, hve, hvc⟩ := hvr.at_ (k := j) (by rw [hlv]; exact hjl)
       subst hV
       obtain ⟨x, hx⟩ : ∃ x, us[i]? = some x := ⟨_, List.getElem?_eq_getElem (by rw [HSZ.out.tn]; exact hinu)⟩
       obtain ⟨hxo, hxl, hxd⟩ := HSZ.out.tup x (List.mem_of_getElem? hx)
       obtain ⟨td2, e9, htd2, htc⟩ := RdV.of_own HSZ.out.own i x.v (by rw [List.getElem?_map, hx]; rfl)
       subst e9
       have hxt2 : x.l = t := by
        have h1 := HFI.out.at_
        rw [← HSZ.out.tsl, List.getElem?_map, hx] at h1
        simpa using h1
       obtain ⟨XB, xb, t2⟩ := x
       have hxt3 : t2 = t := hxt2
       subst hxt3
       have htc' : wr.cell? (td2.add i) = some (.slice XB n xb) := by rw [htc]; show some (Value.slice XB t2.length xb) = _; rw [show t2.length = n from hxl]
       have hxo' : wr.ownsRow (w2.heap.size + 1) 3 1 (.slice XB n xb) n (iv t2) := by
        have : wr.ownsRow (w2.heap.size + 1) 3 1 (.slice XB t2.length xb) n (iv t2) := hxo
        rwa [show t2.length = n from hxl] at this
       obtain ⟨hcb1, hcb2⟩ := own_cap' hxo'
       have bj : (j : Int) < (nv : Int) := by omega
       have bi : (i : Int) < (nu : Int) := by omega
       have hvm := List.mem_of_getElem? hve
       obtain ⟨r, hr⟩ : ∃ r, stp (xs.map AV.a) t2 v = r := ⟨_, rfl⟩
       have HMR := Lib.hid ((HSZ.out.mach.mach (Nat.le_of_lt HSZ.out.rm)).more (Nat.le_of_lt klz))
       have HXR := Lib.hid (RdI.of_own hxo')
       have hSTEP := fun (W : World) (hW1 : MachR W W.heap.size L n c (some vd) nv cv G cg xs) (hW2 : RdI W W.heap.size XB t2) => mach_step L n c (some vd) nv cv G cg xs XB xb t2 v r W hW1 hn hW2 hcb1 HW.out HTT.out hr
       have HSTEP := Lib.hid hSTEP; clear hSTEP
       have HLV := Lib.hid hlv; clear hlv
       have HVE := Lib.hid hve; clear hve
       have HVM := Lib.hid hvm; clear hvm
       have HR := Lib.hid hr; clear hr
       clear hxo hxl htc hxd hx hxo' hxt2 hvr
       go_wp2
       go_region_held3 (fun w' => w'.cell? ⟨w2.heap.size, 0, none⟩ = some (.slice L n c) ∧ w'.cell? ⟨w2.heap.size, 1, none⟩ = some (.slice (some vd) nv cv) ∧ w'.cell? ⟨w2.heap.size, 2, none⟩ = some (.slice G n cg) ∧ w'.cell? (td2.add i) = some (.slice XB n xb)) (first | exact ⟨k0, k1, k2, htc'⟩ | exact ⟨y0, y1, y2, y3⟩ | go_keep)
        (first | (go_at_call 79; (with_reducible refine (HSTEP.out _ ?_ ?_).mono ?_); exact HMR.out.same rfl (Nat.le_refl _); exact HXR.out; rintro e wA ⟨vA, rfl, hoA, hbA⟩; replace hbA : Below wr.heap.size wr wA := ⟨hbA.os, hbA.tape, hbA.output, hbA.size, hbA.block⟩; have y0 := (hbA.cell (p := ⟨w2.heap.size, 0, none⟩) klz).trans k0; have y1 := (hbA.cell (p := ⟨w2.heap.size, 1, none⟩) klz).trans k1; have y2 := (hbA.cell (p := ⟨w2.heap.size, 2, none⟩) klz).trans k2; have y3 := (hbA.cell (p := td2.add i) (by rw [block_of_add]; exact htd2)).trans htc') | fail)
       have hbA2 : Below wr.heap.size wr wA := hbA
       have hoA2 : wA.ownsRow wr.heap.size 3 1 vA (r.getD []).length (iv (r.getD [])) := hoA
       have HSA := Lib.hid (HSZ.out.quiet hbA2)
       have HOA := Lib.hid (own_base (base := w2.heap.size + 1) hoA2 (by omega))
       have HOF := Lib.hid hoA2
       have hsA : w2.heap.size + 1 ≤ wA.heap.size := by have := hbA2.size; omega
       clear y0 y1 y2 y3 HMR HXR HSTEP k0 k1 k2 hoA htc' hbA hbA2 hoA2
       try clear hs
       cases r with
       | none =>
        have HF2 : Hid (FInv 4096 (stp (xs.map AV.a)) (evs (xs.map AV.a)) (ini (xs.map AV.a)) i t2 ((evs (xs.map AV.a)).take (j + 1)) z) := by
         rcases HFI.out.step HVM.out with ⟨s1, q1, q2, q3⟩ | ⟨q1, _⟩
         ·rw [bsE_none HR.out] at q1
          injection q1 with q1; subst q1
          rw [take_snoc' HVE.out]; exact Lib.hid q2
         ·rw [bsE_none HR.out] at q1; cases q1
        have HRZ2 := Lib.hid (HRZ.out.symm.trans (by rw [bsF_go HVE.out (bsE_none HR.out)]) : synS (xs.map AV.a) = bsC 4096 (stp (xs.map AV.a)) (evs (xs.map AV.a)) (4096 - i) i (bsF 4096 (stp (xs.map AV.a)) i t2 ((evs (xs.map AV.a)).drop (j + 1)) z))
        go_wp2
        go_roundw
        case rel => exact ⟨j + 1, nu, kf, _, _, us, z, by go_num, rfl, by omega, hinu, hnu, by omega, HSA, HPR, HF2, Lib.hid HRZ2.out.symm⟩
        case measure => simp [intOf]; omega
       | some u =>
        have hTu := stp_tup HW.out HTT.out HR.out
        have hul : u.length = n := by rw [hTu.len, List.length_map, HL.out]
        have hus := tup_ok hTu HST.out
        have hoU : wA.ownsRow (w2.heap.size + 1) 3 1 vA n (iv u) := by
         have := HOA.out
         rw [show ((some u).getD [] : List Int) = u from rfl, hul] at this; exact this
        have hoF : wA.ownsRow wr.heap.size 3 1 vA n (iv u) := by
         have := HOF.out
         rw [show ((some u).getD [] : List Int) = u from rfl, hul] at this; exact this
        obtain ⟨UA, uc, rfl⟩ := own_shape hoU
        have hne := fresh_ne hoF (Nat.le_refl _) HSZ.out.mrk
        have HKC := Lib.hid (product_key UA n uc u wA hul (RdI.of_own hoU) hn hus)
        have hks := keyS_size hus
        rw [hul] at hks
        have HKEY := Lib.hid (strKey (keyS u) (by omega))
        have HUL := Lib.hid hul; clear hul
        have HUS := Lib.hid hus; clear hus
        have HOU := Lib.hid hoU; clear hoU
        have HNE := Lib.hid hne; clear hne
        have HTU := Lib.hid hTu; clear hTu
        clear HOA HOF hoF
        go_wp2_with fail
        refine HKC.out.mono ?_
        rintro e wB ⟨rfl, hbB⟩
        have HSB := Lib.hid (HSA.out.quiet hbB)
        have HOUB := Lib.hid (own_below HOU.out hbB)
        have hsB : w2.heap.size + 1 ≤ wB.heap.size := by have := hbB.size; omega
        clear HKC HSA HOU
        have hko := idxO_key (ts := z.ts) (x := u) HSB.out.tok HUS.out
        by_cases hmem : u ∈ z.ts
        ·obtain ⟨y, hy1, hy2⟩ := idx_yes hmem
         have hyo : idxO (z.ts.map keyS) (keyS u) = some (y : Int) := by rw [hko]; unfold idxO; rw [hy1, if_neg (by omega)]
         have hbe : bsE 4096 (stp (xs.map AV.a)) i t2 z v = some ⟨z.ts, z.es ++ [⟨i, v, y⟩]⟩ := by rw [bsE_old HR.out (by rw [hy1]; omega), hy1]
         have HYO := Lib.hid hyo; clear hyo
         have HBE := Lib.hid hbe; clear hbe
         have HMEM := Lib.hid hmem; clear hmem
         clear hy1 hy2 hko
         have HF2 : Hid (FInv 4096 (stp (xs.map AV.a)) (evs (xs.map AV.a)) (ini (xs.map AV.a)) i t2 ((evs (xs.map AV.a)).take (j + 1)) ⟨z.ts, z.es ++ [⟨i, v, y⟩]⟩) := by
          rcases HFI.out.step HVM.out with ⟨s1, q1, q2, q3⟩ | ⟨q1, _⟩
          ·rw [HBE.out] at q1
           injection q1 with q1; subst q1
           rw [take_snoc' HVE.out]; exact Lib.hid q2
          ·rw [HBE.out] at q1; cases q1
         have HRZ2 := Lib.hid (HRZ.out.symm.trans (by rw [bsF_go HVE.out HBE.out]) : synS (xs.map AV.a) = bsC 4096 (stp (xs.map AV.a)) (evs (xs.map AV.a)) (4096 - i) i (bsF 4096 (stp (xs.map AV.a)) i t2 ((evs (xs.map AV.a)).drop (j + 1)) ⟨z.ts, z.es ++ [⟨i, v, y⟩]⟩))
         have e3 : wB.cell? ⟨w.heap.size, 3, none⟩ = some (.slice EB kf eb) := HSB.out.blk.cell (j := 3) rfl
         go_wp2_with (first
          | (at_lookup; refine wpList_tab_hit rfl (.tmp 80) (.tmp 82) 126 rfl strLaw Tryz.underlying126 Tryz.underlying3 rfl rfl HSB.out.tab (keyS u) rfl HKEY.out (y : Int) HYO.out ?_)
          | (at_builtin; refine wpList_pushA _ [.int .i64 (i : Int), .int .i64 v, .int .i64 (y : Int)] rfl (.tmp 103) (.tmp 108) 31 rfl (w2.heap.size + 1) 49 (.agg #[.int .i64 0, .int .i64 0, .int .i64 0]) 3 24 Tryz.underlying31 edge_info rfl (by decide) rfl (.slice EB kf eb) kf _ rfl HSB.out.edg rfl (fun q hq => by simp at hq; rcases hq with rfl | rfl | rfl <;> rfl) (by omega) (by omega) hsB ?_; intro A9 c9 w9 ho9 hg9 hl9; have B9 := HSB.out.blk.kept hg9 (own_lt_ne HSB.out.edg (Nat.lt_succ_of_lt l0)); have e9 : w9.cell? ⟨w.heap.size, 3, none⟩ = some (.slice EB kf eb) := B9.cell (j := 3) rfl; have f9 : w9.frozen? ⟨w.heap.size, 3, none⟩ = false := B9.free 3; have l9 : w.heap.size < w9.heap.size := B9.lt; have HS9 := Lib.hid (HSB.out.edge (x := ⟨i, v, y⟩) ho9 hg9); clear B9 ho9 hg9 hl9))
         go_roundw
         case rel => exact ⟨j + 1, nu, kf + 1, _, _, us, _, by go_num, rfl, by omega, hinu, hnu, by omega, HS9, HPR, HF2, Lib.hid HRZ2.out.symm⟩
         case measure => simp [intOf]; omega
        ·have hyo : idxO (z.ts.map keyS) (keyS u) = none := by rw [hko]; unfold idxO; rw [idx_no hmem]; rfl
         have hzl : z.ts.length = nu := by rw [← HSB.out.tsl, List.length_map, HSB.out.tn]
         have HYO := Lib.hid hyo; clear hyo
         have HMEM := Lib.hid hmem; clear hmem
         clear hko
         by_cases hfull : nu = 4096
         ·have bfull : ((nu : Int) == 4096) = true := by rw [beq_iff_eq]; omega
          have hbe : bsE 4096 (stp (xs.map AV.a)) i t2 z v = none := bsE_full HR.out (idx_neg.2 HMEM.out) (by rw [hzl]; exact hfull)
          have hsn : synS (xs.map AV.a) = none := by rw [← HRZ.out, bsF_full HVE.out hbe]; rfl
          have hRn : R = none := by rw [← HRR.out, HSR.out, hsn]; rfl
          have HRN := Lib.hid hRn; clear hRn
          have f0 : wB.frozen? ⟨w.heap.size, 0, none⟩ = false := HSB.out.blk.free 0
          have f1 : wB.frozen? ⟨w.heap.size, 1, none⟩ = false := HSB.out.blk.free 1
          have f2 : wB.frozen? ⟨w.heap.size, 2, none⟩ = false := HSB.out.blk.free 2
          have f3 : wB.frozen? ⟨w.heap.size, 3, none⟩ = false := HSB.out.blk.free 3
          have e0 : wB.cell? ⟨w.heap.size, 0, none⟩ = some (.slice (some vd) nv cv) := HSB.out.blk.cell (j := 0) rfl
          have e1 : wB.cell? ⟨w.heap.size, 1, none⟩ = some (.int .i64 0) := HSB.out.blk.cell (j := 1) rfl
          have e2 : wB.cell? ⟨w.heap.size, 2, none⟩ = some (.slice MA (km) mc) := HSB.out.blk.cell (j := 2) rfl
          have e3 : wB.cell? ⟨w.heap.size, 3, none⟩ = some (.slice EB kf eb) := HSB.out.blk.cell (j := 3) rfl
          have lB : w.heap.size < wB.heap.size := HSB.out.blk.lt
          clear hbe hsn hzl hfull
          go_wp2_with (at_lookup; refine wpList_tab_miss rfl (.tmp 80) (.tmp 82) 126 rfl strLaw Tryz.underlying126 Tryz.underlying3 rfl rfl HSB.out.tab (keyS u) rfl HKEY.out HYO.out ?_)
          have hb3 : Blk ((((wB.setCell ⟨w.heap.size, 0, none⟩ (.slice none 0 0)).setCell ⟨w.heap.size, 1, none⟩ (.int .i64 0)).setCell ⟨w.heap.size, 2, none⟩ (.slice none 0 0)).setCell ⟨w.heap.size, 3, none⟩ (.slice none 0 0)) w.heap.size 33 [.slice none 0 0, .int .i64 0, .slice none 0 0, .slice none 0 0] := (((HSB.out.blk.set (j := 0) (by simp) (.slice none 0 0)).set (j := 1) (by simp) (.int .i64 0)).set (j := 2) (by simp) (.slice none 0 0)).set (j := 3) (by simp) (.slice none 0 0)
          have z0 := hb3.cell (j := 0) rfl
          have z1 := hb3.cell (j := 1) rfl
          have z2 := hb3.cell (j := 2) rfl
          have z3 := hb3.cell (j := 3) rfl
          refine bodyPost_ret (v := .tuple #[.agg #[.slice none 0 0, .int .i64 0, .slice none 0 0, .slice none 0 0], .slice none 0 0, .int .i64 3]) (by simp [results, Tryz.results41, go_sem, z0, z1, z2, z3]) rfl ?_
          rw [HRN.out]
          exact ⟨(((HSB.out.bel.setCell (Nat.le_refl _) _).setCell (Nat.le_refl _) _).setCell (Nat.le_refl _) _).setCell (Nat.le_refl _) _, rfl⟩
         ·have bfull : ((nu : Int) == 4096) = false := by rw [beq_eq_false_iff_ne]; omega
          have hbe : bsE 4096 (stp (xs.map AV.a)) i t2 z v = some ⟨z.ts ++ [u], z.es ++ [⟨i, v, (nu : Int)⟩]⟩ := by rw [bsE_new HR.out (idx_neg.2 HMEM.out) (by rw [hzl]; exact hfull), hzl]
          have hknm : keyS u ∉ z.ts.map keyS := by
           intro hm
           obtain ⟨t3, h3, h4⟩ := List.mem_map.1 hm
           exact HMEM.out (by rw [← keyS_inj (HSB.out.tok t3 h3) HUS.out h4]; exact h3)
          have hkml : (z.ts.map keyS).length = nu := by rw [List.length_map, hzl]
          have HBE := Lib.hid hbe; clear hbe
          have HKN := Lib.hid hknm; clear hknm
          have HKL := Lib.hid hkml; clear hkml
          clear hzl
          have HF2 : Hid (FInv 4096 (stp (xs.map AV.a)) (evs (xs.map AV.a)) (ini (xs.map AV.a)) i t2 ((evs (xs.map AV.a)).take (j + 1)) ⟨z.ts ++ [u], z.es ++ [⟨i, v, (nu : Int)⟩]⟩) := by
           rcases HFI.out.step HVM.out with ⟨s1, q1, q2, q3⟩ | ⟨q1, _⟩
           ·rw [HBE.out] at q1
            injection q1 with q1; subst q1
            rw [take_snoc' HVE.out]; exact Lib.hid q2
           ·rw [HBE.out] at q1; cases q1
          have HRZ2 := Lib.hid (HRZ.out.symm.trans (by rw [bsF_go HVE.out HBE.out]) : synS (xs.map AV.a) = bsC 4096 (stp (xs.map AV.a)) (evs (xs.map AV.a)) (4096 - i) i (bsF 4096 (stp (xs.map AV.a)) i t2 ((evs (xs.map AV.a)).drop (j + 1)) ⟨z.ts ++ [u], z.es ++ [⟨i, v, (nu : Int)⟩]⟩))
          have HPR2 := Lib.hid (HPR.out.trans (List.prefix_append z.ts [u]))
          have HKC2 := Lib.hid (product_key UA n uc u wB HUL.out (RdI.of_own HOUB.out) hn HUS.out)
          go_wp2_with (at_lookup; refine wpList_tab_miss rfl (.tmp 80) (.tmp 82) 126 rfl strLaw Tryz.underlying126 Tryz.underlying3 rfl rfl HSB.out.tab (keyS u) rfl HKEY.out HYO.out ?_)
          refine HKC2.out.mono ?_
          rintro e wC ⟨rfl, hbC⟩
          have HSC := Lib.hid (HSB.out.quiet hbC)
          have HOUC := Lib.hid (own_below HOUB.out hbC)
          have hsC : w2.heap.size + 1 ≤ wC.heap.size := by have := hbC.size; omega
          clear HKC2 HSB HOUB
          go_wp2_with (first
           | (at_mapUpdate; refine wpList_tab_put rfl (.tmp 94) (.tmp 96) (.tmp 97) 126 rfl strLaw Tryz.underlying126 Tryz.underlying3 rfl HSC.out.tab (by omega) (keyS u) rfl HKEY.out (nu : Int) rfl (WalkArith.wf_i64 (by omega)) (idxO ((z.ts ++ [u]).map keyS)) (fun d hd => by injection hd with hd; subst hd; rw [List.map_append, List.map_cons, List.map_nil, idxO_snoc_new HKN.out, HKL.out]) (fun d hd => by rw [List.map_append, List.map_cons, List.map_nil]; exact idxO_snoc_other (fun e => hd (by rw [e]))) ?_; intro wD hTD hgD; have HOD := Lib.hid (HSC.out.putOwn hgD); have hsD : w2.heap.size + 1 ≤ wD.heap.size := by have := hgD.size; omega)
           | (at_builtin; refine wpList_pushA _ [.slice UA n uc] rfl (.tmp 98) (.tmp 100) 52 rfl (w2.heap.size + 1) 30 (.slice none 0 0) 1 24 Tryz.underlying52 ints_info rfl (by decide) rfl (.slice (some td2) nu tb) nu _ rfl HOD.out rfl (fun q hq => by simp at hq; subst hq; rfl) (by omega) (by omega) hsD ?_; intro A8 c8 w8 ho8 hg8 hl8; have HS8 := Lib.hid (HSC.out.tuple HOUC.out HUL.out HNE.out HUS.out hTD hgD ho8 hg8); have e3 : w8.cell? ⟨w.heap.size, 3, none⟩ = some (.slice EB kf eb) := HS8.out.blk.cell (j := 3) rfl; have hs8 : w2.heap.size + 1 ≤ w8.heap.size := by have := hg8.size; omega)
           | (at_builtin; refine wpList_pushA _ [.int .i64 (i : Int), .int .i64 v, .int .i64 (nu : Int)] rfl (.tmp 103) (.tmp 108) 31 rfl (w2.heap.size + 1) 49 (.agg #[.int .i64 0, .int .i64 0, .int .i64 0]) 3 24 Tryz.underlying31 edge_info rfl (by decide) rfl (.slice EB kf eb) kf _ rfl HS8.out.edg rfl (fun q hq => by simp at hq; rcases hq with rfl | rfl | rfl <;> rfl) (by omega) (by omega) hs8 ?_; intro A9 c9 w9 ho9 hg9 hl9; have B9 := HS8.out.blk.kept hg9 (own_lt_ne HS8.out.edg (Nat.lt_succ_of_lt l0)); have e9 : w9.cell? ⟨w.heap.size, 3, none⟩ = some (.slice EB kf eb) := B9.cell (j := 3) rfl; have f9 : w9.frozen? ⟨w.heap.size, 3, none⟩ = false := B9.free 3; have l9 : w.heap.size < w9.heap.size := B9.lt; have HS9 := Lib.hid (HS8.out.edge (x := ⟨i, v, (nu : Int)⟩) ho9 hg9); clear B9 ho9 hg9 hl9))
          go_roundw
          case rel => exact ⟨j + 1, nu + 1, kf + 1, _, _, _, _, by go_num, rfl, by omega, by omega, by omega, by omega, HS9, HPR2, HF2, Lib.hid HRZ2.out.symm⟩
          case measure => simp [intOf]; omega
      ·have hlv : (evs (xs.map AV.a)).length = nv := HSZ.out.mach.lv
       have hnv := evs_le HW.out
       rw [hlv] at hnv
       have hje : j = nv := by omega
       have hBI : BInv 4096 (stp (xs.map AV.a)) (evs (xs.map AV.a)) (ini (xs.map AV.a)) (i + 1) z := by
        have := HFI.out
        rw [List.take_of_length_le (by rw [hlv]; omega)] at this
        exact this.leave
       have hRZ := HRZ.out
       rw [bsF_end (by rw [hlv]; omega)] at hRZ
       have HRZ2 := Lib.hid (show bsR 4096 (stp (xs.map AV.a)) (evs (xs.map AV.a)) (4097 - (i + 1)) (i + 1) z = synS (xs.map AV.a) by rw [show 4097 - (i + 1) = 4096 - i by omega]; exact hRZ)
       have HMK3 := Lib.hid (HMK2.out.trans (mksN_pre HPR.out (by have := (List.getElem?_eq_some_iff.1 HXT.out).1; omega)).symm)
       have HBI2 := Lib.hid hBI; clear hBI
       subst hje
       clear hRZ hlv HFI HRZ
       go_wp2
       go_roundw
       case rel => exact ⟨i + 1, nu, km, kf, _, _, _, us, z, _, by go_num, rfl, by omega, hnu, by omega, by omega, HSZ, HMK3, HBI2, HRZ2⟩
       case measure => simp [intOf]; omega
   ·obtain rfl : i = nt := by omega
    have htl : s.ts.length = i := by rw [← HS1.out.tsl, List.length_map, HS1.out.tn]
    have hRS := HRS1.out
    rw [bsR_end (by rw [htl]; omega)] at hRS
    have hRn : R = some (autOf (evs (xs.map AV.a)) (mkT (xs.map AV.a)) s, s.ts) := by rw [← HRR.out, HSR.out, ← hRS]; rfl
    have HRN := Lib.hid hRn; clear hRn
    have HTL := Lib.hid htl; clear htl
    clear hRS HRS1
    have f0 : wo.frozen? ⟨w.heap.size, 0, none⟩ = false := HS1.out.blk.free 0
    have f1 : wo.frozen? ⟨w.heap.size, 1, none⟩ = false := HS1.out.blk.free 1
    have f2 : wo.frozen? ⟨w.heap.size, 2, none⟩ = false := HS1.out.blk.free 2
    have f3 : wo.frozen? ⟨w.heap.size, 3, none⟩ = false := HS1.out.blk.free 3
    have e0 : wo.cell? ⟨w.heap.size, 0, none⟩ = some (.slice V nv cv) := HS1.out.blk.cell (j := 0) rfl
    have e1 : wo.cell? ⟨w.heap.size, 1, none⟩ = some (.int .i64 0) := HS1.out.blk.cell (j := 1) rfl
    have e2 : wo.cell? ⟨w.heap.size, 2, none⟩ = some (.slice MA km mc) := HS1.out.blk.cell (j := 2) rfl
    have e3 : wo.cell? ⟨w.heap.size, 3, none⟩ = some (.slice EA ke ec) := HS1.out.blk.cell (j := 3) rfl
    have lB : w.heap.size < wo.heap.size := HS1.out.blk.lt
    clear k0 k1 k2
    go_wp2
    have hb3 := ((((HS1.out.blk.set (j := 1) (by simp) (.int .i64 (i : Int))).set (j := 0) (by simp) (.slice V nv cv)).set (j := 1) (by simp) (.int .i64 (i : Int))).set (j := 2) (by simp) (.slice MA km mc)).set (j := 3) (by simp) (.slice EA ke ec)
    have z0 : (((((wo.setCell ⟨w.heap.size, 1, none⟩ (.int .i64 (i : Int))).setCell ⟨w.heap.size, 0, none⟩ (.slice V nv cv)).setCell ⟨w.heap.size, 1, none⟩ (.int .i64 (i : Int))).setCell ⟨w.heap.size, 2, none⟩ (.slice MA km mc)).setCell ⟨w.heap.size, 3, none⟩ (.slice EA ke ec)).cell? ⟨w.heap.size, 0, none⟩ = some (.slice V nv cv) := hb3.cell (j := 0) rfl
    have z1 : (((((wo.setCell ⟨w.heap.size, 1, none⟩ (.int .i64 (i : Int))).setCell ⟨w.heap.size, 0, none⟩ (.slice V nv cv)).setCell ⟨w.heap.size, 1, none⟩ (.int .i64 (i : Int))).setCell ⟨w.heap.size, 2, none⟩ (.slice MA km mc)).setCell ⟨w.heap.size, 3, none⟩ (.slice EA ke ec)).cell? ⟨w.heap.size, 1, none⟩ = some (.int .i64 (i : Int)) := hb3.cell (j := 1) rfl
    have z2 : (((((wo.setCell ⟨w.heap.size, 1, none⟩ (.int .i64 (i : Int))).setCell ⟨w.heap.size, 0, none⟩ (.slice V nv cv)).setCell ⟨w.heap.size, 1, none⟩ (.int .i64 (i : Int))).setCell ⟨w.heap.size, 2, none⟩ (.slice MA km mc)).setCell ⟨w.heap.size, 3, none⟩ (.slice EA ke ec)).cell? ⟨w.heap.size, 2, none⟩ = some (.slice MA km mc) := hb3.cell (j := 2) rfl
    have z3 : (((((wo.setCell ⟨w.heap.size, 1, none⟩ (.int .i64 (i : Int))).setCell ⟨w.heap.size, 0, none⟩ (.slice V nv cv)).setCell ⟨w.heap.size, 1, none⟩ (.int .i64 (i : Int))).setCell ⟨w.heap.size, 2, none⟩ (.slice MA km mc)).setCell ⟨w.heap.size, 3, none⟩ (.slice EA ke ec)).cell? ⟨w.heap.size, 3, none⟩ = some (.slice EA ke ec) := hb3.cell (j := 3) rfl
    refine bodyPost_ret (v := .tuple #[.agg #[.slice V nv cv, .int .i64 (i : Int), .slice MA km mc, .slice EA ke ec], .slice TA i tc, .int .i64 0]) (by simp [results, Tryz.results41, go_sem, z0, z1, z2, z3]) rfl ?_
    have hg5 : wo.grownBy (((((wo.setCell ⟨w.heap.size, 1, none⟩ (.int .i64 (i : Int))).setCell ⟨w.heap.size, 0, none⟩ (.slice V nv cv)).setCell ⟨w.heap.size, 1, none⟩ (.int .i64 (i : Int))).setCell ⟨w.heap.size, 2, none⟩ (.slice MA km mc)).setCell ⟨w.heap.size, 3, none⟩ (.slice EA ke ec)) (some w.heap.size) := ((((grown_setCell _ _ _ _).trans (grown_setCell _ _ _ _)).trans (grown_setCell _ _ _ _)).trans (grown_setCell _ _ _ _)).trans (grown_setCell _ _ _ _)
    obtain ⟨r1, r2, r3, r4⟩ := HS1.out.fin (p := mkT (xs.map AV.a)) hg5 (by rw [HTL.out]; exact HMK.out)
    rw [HRN.out]
    refine ⟨HS1.out.bel.grown hg5 (Nat.le_of_lt lB) (fun j hj => by injection hj with hj; exact Nat.le_of_eq hj), V, nv, cv, MA, km, mc, EA, ke, ec, TA, i, tc, ts, ?_, r1, r2, HS1.out.tn, r3, r4, HS1.out.tsl, HS1.out.frs⟩
    show Ending.returned (.tuple #[.agg #[.slice V nv cv, .int .i64 (i : Int), .slice MA km mc, .slice EA ke ec], .slice TA i tc, .int .i64 0]) = Ending.returned (.tuple #[.agg #[.slice V nv cv, .int .i64 (s.ts.length : Int), .slice MA km mc, .slice EA ke ec], .slice TA i tc, .int .i64 0])
    rw [HTL.out]
end Go.Proofs.YtioijhpbedmeaaaGreatDoor
