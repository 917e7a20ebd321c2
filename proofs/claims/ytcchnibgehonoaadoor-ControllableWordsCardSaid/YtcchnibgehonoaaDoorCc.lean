/- Walks: controllable.closure. -/
import Derived.Test.YtcchnibgehonoaaDoorMa
import Derived.Test.YtcchnibgehonoaaDoorMi
import Derived.Test.YtcchnibgehonoaaDoorTu
import Derived.Test.YtcchnibgehonoaaDoorGa
import Derived.Deep.Cut
namespace Go.Proofs.YtcchnibgehonoaaDoor
open Go.RowKit Go Go.Maps

theorem cell_flag {w : World} {b : Nat} {N : List Bool} {s : Int} {q : Bool} (h : Blk w b 4 (bvl N)) (hq : fl N s = q) (h0 : 0 ≤ s) (h1 : s < (N.length : Int)) : w.cell? ⟨b, s.toNat, none⟩ = some (.bool q) :=
 h.cell (by rw [bvl_get, fl_get hq h0 h1]; rfl)
theorem EdIn.of {a : Aut} {n : Nat} (hw : WF a) (hn : a.st = (n : Int)) : EdIn n a.ed := fun x hx => by
 have := hw.ev_rng hx; rw [hn] at this; omega

/-- closure's memory -/
structure ClM (w wr : World) (bx : List Value) (N : List Bool) : Prop where
 bel : Below w.heap.size w wr
 box : Blk wr w.heap.size 25 bx
 num : Blk wr (w.heap.size + 1) 4 (bvl N)
section
variable {w wr w' : World} {bx : List Value} {N : List Bool}
theorem ClM.lt (h : ClM w wr bx N) : w.heap.size + 1 < wr.heap.size := h.num.lt
theorem ClM.quiet (h : ClM w wr bx N) (hb : Below wr.heap.size wr w') : ClM w w' bx N :=
 ⟨h.bel.trans (hb.mono (by have := h.lt; omega)), h.box.below hb h.box.lt, h.num.below hb h.lt⟩
theorem ClM.put (h : ClM w wr bx N) {s : Int} (h0 : 0 ≤ s) (h1 : s < (N.length : Int)) : ClM w (wr.setCell ⟨w.heap.size + 1, s.toNat, none⟩ (.bool true)) bx (fset N s) := by
 refine ⟨h.bel.setCell (p := ⟨w.heap.size + 1, s.toNat, none⟩) (Nat.le_succ _) _, h.box.kept (grown_setCell wr (w.heap.size + 1) s.toNat _) (by intro e; injection e with e; omega), ?_⟩
 have := h.num.set (j := s.toNat) (by rw [bvl_length]; omega) (.bool true)
 rwa [bvl_set] at this
end

set_option maxRecDepth 100000 in
set_option maxHeartbeats 3200000 in
theorem closure_false (A M E : Option Addr) (na ca nm cm ne ce : Nat) (a : Aut) (S : Option Addr) (cs ns : Nat) (set : List Int) (V : Option Addr) (cv nv : Nat) (ev : List Int) (n : Nat) (w : World) (h : AutR w w.heap.size A na ca M nm cm E ne ce a) (hw : WF a) (hn : a.st = (n : Int))
  (hsl : set.length = ns) (hS : RdI w w.heap.size S set) (hset : ∀ s ∈ set, 0 ≤ s ∧ s < (n : Int)) (hs1 : ns ≤ cs) (hs2 : cs ≤ 9223372036854775807) (hvl : ev.length = nv) (hV : RdI w w.heap.size V ev) (hvi : Inc ev) (hv1 : nv ≤ 4611686018427387903) :
  Calls Tryd.prog 51 #[.agg #[.slice A na ca, .int .i64 a.st, .slice M nm cm, .slice E ne ce], .slice S ns cs, .slice V nv cv, .bool false] w fun e w' => ∃ (v : Value) (N : List Bool), e = .returned v ∧ w'.ownsRow w.heap.size 3 1 v (onF N).length (iv (onF N)) ∧ Hid (Fl a.ed ev false set n N ∧ Clo ev false a.ed N) ∧ Below w.heap.size w w' := by
 have hn4 : n ≤ 4096 := by have := hw.st1; omega
 rw [hn]
 have hB0 := box_below w (.cells #[.slice A na ca, .int .i64 (n : Int), .slice M nm cm, .slice E ne ce] 25)
 have k3 : Blk (w.alloc (.cells #[.slice A na ca, .int .i64 (n : Int), .slice M nm cm, .slice E ne ce] 25)) w.heap.size 25 [.slice A na ca, .int .i64 (n : Int), .slice M nm cm, .slice E ne ce] := Blk.new _ _ _
 have hm : ∀ W : World, (Instr.makeSlice 110 (.int .i64 (n : Int)) (.int .i64 (n : Int))).run Tryd.prog W = .ok (.slice (some ⟨W.heap.size, 0, none⟩) n n) (W.alloc (.cells (madeCells #[.bool false] n) 4)) := fun W => run_make_row' 110 4 (.bool false) 1 Tryd.underlying110 bool_info rfl .i64 .i64 n (by omega) (by omega) W
 have HC0 := Lib.hid (show ClM w ((w.alloc (.cells #[.slice A na ca, .int .i64 (n : Int), .slice M nm cm, .slice E ne ce] 25)).alloc (.cells (madeCells #[.bool false] n) 4)) [.slice A na ca, .int .i64 (n : Int), .slice M nm cm, .slice E ne ce] (List.replicate n false) from by
  refine ⟨hB0.alloc hB0.size _, k3.below (box_below _ _) k3.lt, ?_⟩
  rw [made_bools]
  have := Blk.new (w.alloc (.cells #[.slice A na ca, .int .i64 (n : Int), .slice M nm cm, .slice E ne ce] 25)) 4 (bvl (List.replicate n false))
  rwa [World.size_alloc] at this)
 have HRE := Lib.hid h.re
 have HSS := Lib.hid hS
 have HVV := Lib.hid hV
 have hle := h.le
 have hec := h.ec
 have hcE := h.cE
 have hedl := hw.ed_le
 rw [hle] at hedl
 have HEN := Lib.hid (EdIn.of hw hn)
 have c1 : (w.alloc (.cells #[.slice A na ca, .int .i64 (n : Int), .slice M nm cm, .slice E ne ce] 25)).cell? ⟨w.heap.size, 1, none⟩ = some (.int .i64 (n : Int)) := k3.cell (j := 1) rfl
 have HLE := Lib.hid hle; clear hle
 have HSL := Lib.hid hsl; clear hsl
 have HSET := Lib.hid hset; clear hset
 have HVL := Lib.hid hvl; clear hvl
 have HVI := Lib.hid hvi; clear hvi
 clear hB0 k3 h hS hV hw hn
 go_enter Tryd.func51, Tryd.ntmps51
 go_wp2
 clear c1 hm
 go_loopw [25] (fun s25 wr => ∃ (k : Nat) (N : List Bool), s25 = .int .i64 k ∧ k ≤ ns ∧ Hid (N.length = n ∧ (∀ j s, j < k → set[j]? = some s → fl N s = true) ∧ ∀ s : Int, 0 ≤ s → fl N s = true → s ∈ set) ∧ Hid (ClM w wr [.slice A na ca, .int .i64 (n : Int), .slice M nm cm, .slice E ne ce] N)) (fun s25 _ => ns - (intOf s25).toNat)
 case atStart => exact ⟨0, _, rfl, Nat.zero_le _, Lib.hid ⟨by simp, fun j s hj => by omega, fun s h0 hs => by
   exfalso
   unfold fl at hs
   rw [List.getD_eq_getElem?_getD, List.getElem?_replicate] at hs
   split at hs <;> simp at hs⟩, HC0⟩
 case round =>
  clear HC0
  obtain ⟨k, N, rfl, hk, HN, HC⟩ := hrel
  by_cases hlt : k < ns
  ·obtain ⟨sd, s, rfl, hsb, hss, hsc⟩ := (HSS.out.below HC.out.bel).at_ (k := k) (by have := HSL.out; omega)
   have b1 : (k : Int) < (ns : Int) := by omega
   obtain ⟨s0, s1⟩ := HSET.out s (List.mem_of_getElem? hss)
   have g1 : ∃ q, wr.cell? ⟨w.heap.size + 1, s.toNat, none⟩ = some (.bool q) := ⟨_, cell_flag HC.out.num rfl s0 (by rw [HN.out.1]; exact s1)⟩
   obtain ⟨q, g1⟩ := g1
   have g2 : wr.frozen? ⟨w.heap.size + 1, s.toNat, none⟩ = false := HC.out.num.free _
   have g3 : w.heap.size + 1 < wr.heap.size := HC.out.lt
   have HC2 := Lib.hid (HC.out.put s0 (by rw [HN.out.1]; exact s1))
   have HN2 := Lib.hid (show (fset N s).length = n ∧ (∀ j s', j < k + 1 → set[j]? = some s' → fl (fset N s) s' = true) ∧ ∀ s' : Int, 0 ≤ s' → fl (fset N s) s' = true → s' ∈ set from by
    have hr : 0 ≤ s ∧ s < (N.length : Int) := ⟨s0, by rw [HN.out.1]; exact s1⟩
    refine ⟨by rw [fset_len]; exact HN.out.1, fun j s' hj hs' => ?_, fun s' h0 hs' => ?_⟩
    ·rw [fl_set hr (HSET.out s' (List.mem_of_getElem? hs')).1]
     rcases Nat.lt_or_ge j k with h1 | h1
     ·rw [HN.out.2.1 j s' h1 hs', Bool.or_true]
     ·obtain rfl : j = k := by omega
      rw [hss] at hs'; injection hs' with hs'; subst hs'; simp
    ·rw [fl_set hr h0, Bool.or_eq_true, decide_eq_true_eq] at hs'
     rcases hs' with rfl | hs'
     ·exact List.mem_of_getElem? hss
     ·exact HN.out.2.2 s' h0 hs')
   clear hss
   go_wp2
   go_roundw
   case rel => exact ⟨k + 1, _, by go_num, by omega, HN2, HC2⟩
   case measure => simp [intOf]; omega
  ·have b1 : ¬ (k : Int) < (ns : Int) := by omega
   have HFL := Lib.hid (show Fl a.ed ev false set n N from ⟨HN.out.1, fun s hs => by
    obtain ⟨j, hj⟩ := List.getElem?_of_mem hs
    exact HN.out.2.1 j s (by have := (List.getElem?_eq_some_iff.1 hj).1; have := HSL.out; omega) hj, fun s h0 hs => .base (HN.out.2.2 s h0 hs)⟩)
   clear HN
   go_wp2
   go_loopw [12] (fun s12 wr => ∃ (N : List Bool) (more : Bool), s12 = .bool more ∧ Hid (Fl a.ed ev false set n N) ∧ Hid (more = false → Clo ev false a.ed N) ∧ Hid (ClM w wr [.slice A na ca, .int .i64 (n : Int), .slice M nm cm, .slice E ne ce] N)) (fun s12 wr => 2 * cntW wr (w.heap.size + 1) + mB s12)
   case atStart => exact ⟨N, true, rfl, HFL, Lib.hid (fun hh => by cases hh), HC⟩
   case round =>
    clear HFL HC
    obtain ⟨N0, more, rfl, HFL, HMR, HC⟩ := hrel
    have HLN := Lib.hid HFL.out.len
    cases more with
    | true =>
     have d3 : wr.cell? ⟨w.heap.size, 3, none⟩ = some (.slice E ne ce) := HC.out.box.cell (j := 3) rfl
     have HCW := Lib.hid (cntW_blk HC.out.num)
     obtain ⟨wo, rfl⟩ : ∃ wo : World, wo = wr := ⟨_, rfl⟩
     go_wp2
     clear d3
     go_loopw [12, 37] (fun s12 s37 wr => ∃ (q : Nat) (more : Bool), s37 = .int .i64 q ∧ s12 = .bool more ∧ q ≤ ne ∧ Hid ((more = false ∧ passF ev false (a.ed.take q) N0 = N0) ∨ (more = true ∧ cntF (passF ev false (a.ed.take q) N0) < cntF N0)) ∧ Hid (ClM w wr [.slice A na ca, .int .i64 (n : Int), .slice M nm cm, .slice E ne ce] (passF ev false (a.ed.take q) N0))) (fun _ s37 _ => ne - (intOf s37).toNat)
     case atStart => exact ⟨0, false, rfl, rfl, Nat.zero_le _, Lib.hid (.inl ⟨rfl, rfl⟩), HC⟩
     case round =>
      clear HC
      obtain ⟨q, more, rfl, rfl, hq, HMO, HC⟩ := hrel
      by_cases hql : q < ne
      ·obtain ⟨ed, x, rfl, hbe, hxe, g0, g1, g2⟩ := (HRE.out.below HC.out.bel).at_ (k := q) (by have := HLE.out; omega)
       have c1 : (q : Int) < (ne : Int) := by omega
       have r1 : wr.cell? ⟨(ed.add (q * 3)).block, (ed.add (q * 3)).off + 1, none⟩ = some (.int .i64 x.e) := st_cells (j := 0) g1
       have r2 : wr.cell? ⟨(ed.add (q * 3)).block, (ed.add (q * 3)).off + 2, none⟩ = some (.int .i64 x.t) := st_cells (j := 1) g2
       have hmem := List.mem_of_getElem? hxe
       have hfr := HEN.out.fr hmem false
       have hto := HEN.out.to hmem false
       obtain ⟨Nq, hNq⟩ : ∃ Nq, passF ev false (a.ed.take q) N0 = Nq := ⟨_, rfl⟩
       have HPS := Lib.hid (passF_snoc (V := ev) (back := false) hxe N0)
       rw [hNq] at HPS HC HMO
       have hlen : Nq.length = n := by rw [← hNq, passF_len]; exact HLN.out
       have HSC := Lib.hid (stepF_cases (V := ev) (back := false) (N := Nq) (x := x) hlen hto)
       have HF2 := Lib.hid (passF_len (V := ev) (back := false) (a.ed.take q) N0)
       have HC1 := HC
       have HCX := Lib.hid (HC.out.quiet (box_below wr (.cells #[.int .i64 x.f, .int .i64 x.e, .int .i64 x.t] 83)))
       have kx : Blk (wr.alloc (.cells #[.int .i64 x.f, .int .i64 x.e, .int .i64 x.t] 83)) wr.heap.size 83 [.int .i64 x.f, .int .i64 x.e, .int .i64 x.t] := Blk.new _ _ _
       have k0 := kx.cell (j := 0) rfl
       have k1 := kx.cell (j := 1) rfl
       have k2 := kx.cell (j := 2) rfl
       have HLEN := Lib.hid hlen; clear hlen
       have KX := Lib.hid kx; clear kx
       clear hmem hNq HC
       have hfr0 : 0 ≤ x.f := hfr.1
       have hfr1 : x.f < (n : Int) := hfr.2
       have hto0 : 0 ≤ x.t := hto.1
       have hto1 : x.t < (n : Int) := hto.2
       clear hfr hto
       go_wp2
       go_quiet (fail)
       have HCQ := Lib.hid (HCX.out.quiet (below_drewN (Below.refl _ _) nq))
       clear k0 k2 g0 r1 r2
       have hNl : (Nq.length : Int) = (n : Int) := by rw [HLEN.out]
       cases hqf : fl Nq x.f with
       | false =>
        have g5 : (wr.alloc (.cells #[.int .i64 x.f, .int .i64 x.e, .int .i64 x.t] 83)).cell? ⟨w.heap.size + 1, (x.f).toNat, none⟩ = some (.bool false) := cell_flag HCX.out.num hqf hfr0 (by omega)
        have HST := Lib.hid (show stepF ev false Nq x = Nq by unfold stepF goE; rw [show fl Nq (eFr false x) = false from hqf]; rfl)
        clear hqf
        go_wp2
        go_roundw
        case rel => exact ⟨q + 1, more, by go_num, rfl, by omega, Lib.hid (by rw [HPS.out, HST.out]; exact HMO.out), Lib.hid (by rw [HPS.out, HST.out]; exact HCQ.out)⟩
        case measure => simp [intOf]; omega
       | true =>
        have g5 : (wr.alloc (.cells #[.int .i64 x.f, .int .i64 x.e, .int .i64 x.t] 83)).cell? ⟨w.heap.size + 1, (x.f).toNat, none⟩ = some (.bool true) := cell_flag HCX.out.num hqf hfr0 (by omega)
        cases hqt : fl Nq x.t with
        | true =>
         have g6 : (wr.alloc (.cells #[.int .i64 x.f, .int .i64 x.e, .int .i64 x.t] 83)).cell? ⟨w.heap.size + 1, (x.t).toNat, none⟩ = some (.bool true) := cell_flag HCX.out.num hqt hto0 (by omega)
         have HST := Lib.hid (show stepF ev false Nq x = Nq by
          rcases HSC.out with ⟨h1, _⟩ | ⟨_, h1, _⟩
          ·exact h1
          ·rw [show fl Nq (eTo false x) = true from hqt] at h1; cases h1)
         clear hqf hqt
         go_wp2
         go_roundw
         case rel => exact ⟨q + 1, more, by go_num, rfl, by omega, Lib.hid (by rw [HPS.out, HST.out]; exact HMO.out), Lib.hid (by rw [HPS.out, HST.out]; exact HCQ.out)⟩
         case measure => simp [intOf]; omega
        | false =>
         have g6 : (wr.alloc (.cells #[.int .i64 x.f, .int .i64 x.e, .int .i64 x.t] 83)).cell? ⟨w.heap.size + 1, (x.t).toNat, none⟩ = some (.bool false) := cell_flag HCX.out.num hqt hto0 (by omega)
         obtain ⟨q9, hq9⟩ : ∃ q9, hasB ev x.e = q9 := ⟨_, rfl⟩
         have HCO := Lib.hid (alphabet_Contains_n V cv nv ev x.e q9 ((wr.alloc (.cells #[.int .i64 x.f, .int .i64 x.e, .int .i64 x.t] 83)).drewN nq) HVL.out hq9 ((HVV.out.below HCQ.out.bel).more HCQ.out.bel.size) hv1 HVI.out)
         cases q9 with
         | false =>
          have HST := Lib.hid (show stepF ev false Nq x = Nq by unfold stepF goE; rw [hq9, Bool.and_false]; rfl)
          clear hqf hqt hq9
          go_wp2_with fail
          refine HCO.out.mono ?_
          rintro e w9 ⟨rfl, rfl⟩
          go_wp2
          go_roundw
          case rel => exact ⟨q + 1, more, by go_num, rfl, by omega, Lib.hid (by rw [HPS.out, HST.out]; exact HMO.out), Lib.hid (by rw [HPS.out, HST.out]; exact HCQ.out)⟩
          case measure => simp [intOf]; omega
         | true =>
          have HGO := Lib.hid (show goE ev false Nq x = true by unfold goE; rw [show fl Nq (eFr false x) = true from hqf, hq9]; rfl)
          have HST := Lib.hid (show stepF ev false Nq x = fset Nq (eTo false x) by unfold stepF; rw [if_pos HGO.out])
          have HCT := Lib.hid (show cntF (stepF ev false Nq x) + 1 = cntF Nq by
           rcases HSC.out with ⟨_, h1⟩ | ⟨_, _, h1⟩
           ·have := h1 HGO.out; rw [show fl Nq (eTo false x) = false from hqt] at this; cases this
           ·exact h1)
          have HLT2 : Hid (cntF (passF ev false (a.ed.take (q + 1)) N0) < cntF N0) := Lib.hid (by
           rw [HPS.out]
           have h1 := HCT.out
           rcases HMO.out with ⟨_, h2⟩ | ⟨_, h2⟩
           ·rw [h2] at h1 ⊢; omega
           ·omega)
          have HC9 := Lib.hid (show ClM w (((wr.alloc (.cells #[.int .i64 x.f, .int .i64 x.e, .int .i64 x.t] 83)).drewN nq).setCell ⟨w.heap.size + 1, (x.t).toNat, none⟩ (.bool true)) [.slice A na ca, .int .i64 (n : Int), .slice M nm cm, .slice (some ed) ne ce] (fset Nq (eTo false x)) from HCQ.out.put (s := eTo false x) hto0 (by show (x.t : Int) < _; omega))
          have g7 : (wr.alloc (.cells #[.int .i64 x.f, .int .i64 x.e, .int .i64 x.t] 83)).frozen? ⟨w.heap.size + 1, (x.t).toNat, none⟩ = false := HCX.out.num.free _
          have g8 : w.heap.size + 1 < wr.heap.size := by
           have h1 := HCX.out.lt
           rw [World.size_alloc] at h1
           have h2 := HC1.out.lt
           exact h2
          clear hqf hqt hq9
          go_wp2_with fail
          refine HCO.out.mono ?_
          rintro e w9 ⟨rfl, rfl⟩
          go_wp2
          go_roundw
          case rel => exact ⟨q + 1, true, by go_num, rfl, by omega, Lib.hid (.inr ⟨rfl, HLT2.out⟩), Lib.hid (by rw [HPS.out, HST.out]; exact HC9.out)⟩
          case measure => simp [intOf]; omega
      ·obtain rfl : q = ne := by omega
       have b1 : ¬ (q : Int) < (q : Int) := by omega
       have htk : a.ed.take q = a.ed := List.take_of_length_le (by rw [HLE.out]; exact Nat.le_refl _)
       rw [htk] at HMO HC
       have HF9 := Lib.hid (show Fl a.ed ev false set n (passF ev false a.ed N0) from by
        have := HFL.out.pass (fun s hs => (HSET.out s hs).1) HEN.out q
        rwa [htk] at this)
       have HM9 := Lib.hid (show more = false → Clo ev false a.ed (passF ev false a.ed N0) from fun hh => by
        subst hh
        rcases HMO.out with ⟨_, h1⟩ | ⟨h1, _⟩
        ·rw [h1]
         rcases passF_cases (V := ev) (back := false) a.ed N0 HLN.out HEN.out with ⟨_, h2⟩ | h2
         ·exact h2
         ·rw [h1] at h2; omega
        ·cases h1)
       clear htk
       go_wp2
       go_roundw
       case rel => exact ⟨_, more, rfl, HF9, HM9, HC⟩
       case measure =>
        have h1 := cntW_blk HC.out.num
        have h2 := HCW.out
        rw [h1, h2]
        rcases HMO.out with ⟨h3, h4⟩ | ⟨h3, h4⟩
        ·rw [h3, h4]; simp [mB]
        ·rw [h3]; simp [mB]; omega
    | false =>
     have HCL := Lib.hid (HMR.out rfl)
     clear HMR
     have HO0 := Lib.hid (World.ownsRow_nil wr (w.heap.size + 2) 3 1)
     go_wp2
     go_loopw [17, 71] (fun s17 s71 wr => ∃ (k m : Nat) (v : Value), s71 = .int .i64 k ∧ s17 = v ∧ k ≤ n ∧ m ≤ k ∧ Hid (((rngI (k : Int)).filter (fun s => fl N0 s)).length = m) ∧ Hid (wr.ownsRow (w.heap.size + 2) 3 1 v m (iv ((rngI (k : Int)).filter (fun s => fl N0 s)))) ∧ Hid (ClM w wr [.slice A na ca, .int .i64 (n : Int), .slice M nm cm, .slice E ne ce] N0)) (fun _ s71 _ => n - (intOf s71).toNat)
     case atStart => exact ⟨0, 0, _, rfl, rfl, Nat.zero_le _, Nat.le_refl _, Lib.hid rfl, HO0, HC⟩
     case round =>
      clear HO0 HC
      obtain ⟨k, m, v, rfl, rfl, hk, hmk, HML, HO, HC⟩ := hrel
      obtain ⟨OA, oc, rfl⟩ := own_shape HO.out
      by_cases hlt : k < n
      ·have b1 : (k : Int) < (n : Int) := by omega
       obtain ⟨q, hq⟩ : ∃ q, N0[k]? = some q := ⟨_, List.getElem?_eq_getElem (by rw [HLN.out]; exact hlt)⟩
       have g1 : wr.cell? ⟨w.heap.size + 1, k, none⟩ = some (.bool q) := HC.out.num.cell (by rw [bvl_get, hq]; rfl)
       have HSN := Lib.hid (onF_snoc hq)
       have hbs : w.heap.size + 2 ≤ wr.heap.size := HC.out.lt
       clear hq
       cases q with
       | true =>
        go_wp2_with (at_builtin; refine wpList_push wr (.int .i64 (k : Int)) rfl (.tmp 77) (.tmp 79) 22 rfl (w.heap.size + 2) 3 (.int .i64 0) 8 Tryd.underlying22 int_info rfl (.slice OA m oc) m _ rfl HO.out rfl rfl (by omega) (by omega) hbs ?_; intro v' w' ho' hg' hb1)
        have HC9 := Lib.hid (show ClM w w' [.slice A na ca, .int .i64 (n : Int), .slice M nm cm, .slice E ne ce] N0 from ⟨HC.out.bel.trans (hb1.mono (by omega)), HC.out.box.below hb1 (by omega), HC.out.num.below hb1 (by omega)⟩)
        go_roundw
        case rel => exact ⟨k + 1, m + 1, _, by go_num, rfl, by omega, by omega, Lib.hid (by rw [Int.natCast_succ, HSN.out, List.length_append, HML.out]; rfl), Lib.hid (by rw [Int.natCast_succ, HSN.out, iv_append]; exact ho'), HC9⟩
        case measure => simp [intOf]; omega
       | false =>
        go_wp2
        go_roundw
        case rel => exact ⟨k + 1, m, _, by go_num, rfl, by omega, by omega, Lib.hid (by rw [Int.natCast_succ, HSN.out]; simpa using HML.out), Lib.hid (by rw [Int.natCast_succ, HSN.out]; simpa using HO.out), HC⟩
        case measure => simp [intOf]; omega
      ·obtain rfl : k = n := by omega
       have b1 : ¬ (k : Int) < (k : Int) := by omega
       have HON := Lib.hid (show (rngI (k : Int)).filter (fun s => fl N0 s) = onF N0 by unfold onF; rw [HLN.out])
       go_wp2
       go_ret
       have ho := HO.out
       rw [HON.out] at ho
       have hml := HML.out
       rw [HON.out] at hml
       exact ⟨_, rfl, N0, by rw [hml]; exact own_base ho (by omega), Lib.hid ⟨HFL.out, HCL.out⟩, HC.out.bel⟩
set_option maxRecDepth 100000 in
set_option maxHeartbeats 3200000 in
theorem closure_true (A M E : Option Addr) (na ca nm cm ne ce : Nat) (a : Aut) (S : Option Addr) (cs ns : Nat) (set : List Int) (V : Option Addr) (cv nv : Nat) (ev : List Int) (n : Nat) (w : World) (h : AutR w w.heap.size A na ca M nm cm E ne ce a) (hw : WF a) (hn : a.st = (n : Int))
  (hsl : set.length = ns) (hS : RdI w w.heap.size S set) (hset : ∀ s ∈ set, 0 ≤ s ∧ s < (n : Int)) (hs1 : ns ≤ cs) (hs2 : cs ≤ 9223372036854775807) (hvl : ev.length = nv) (hV : RdI w w.heap.size V ev) (hvi : Inc ev) (hv1 : nv ≤ 4611686018427387903) :
  Calls Tryd.prog 51 #[.agg #[.slice A na ca, .int .i64 a.st, .slice M nm cm, .slice E ne ce], .slice S ns cs, .slice V nv cv, .bool true] w fun e w' => ∃ (v : Value) (N : List Bool), e = .returned v ∧ w'.ownsRow w.heap.size 3 1 v (onF N).length (iv (onF N)) ∧ Hid (Fl a.ed ev true set n N ∧ Clo ev true a.ed N) ∧ Below w.heap.size w w' := by
 have hn4 : n ≤ 4096 := by have := hw.st1; omega
 rw [hn]
 have hB0 := box_below w (.cells #[.slice A na ca, .int .i64 (n : Int), .slice M nm cm, .slice E ne ce] 25)
 have k3 : Blk (w.alloc (.cells #[.slice A na ca, .int .i64 (n : Int), .slice M nm cm, .slice E ne ce] 25)) w.heap.size 25 [.slice A na ca, .int .i64 (n : Int), .slice M nm cm, .slice E ne ce] := Blk.new _ _ _
 have hm : ∀ W : World, (Instr.makeSlice 110 (.int .i64 (n : Int)) (.int .i64 (n : Int))).run Tryd.prog W = .ok (.slice (some ⟨W.heap.size, 0, none⟩) n n) (W.alloc (.cells (madeCells #[.bool false] n) 4)) := fun W => run_make_row' 110 4 (.bool false) 1 Tryd.underlying110 bool_info rfl .i64 .i64 n (by omega) (by omega) W
 have HC0 := Lib.hid (show ClM w ((w.alloc (.cells #[.slice A na ca, .int .i64 (n : Int), .slice M nm cm, .slice E ne ce] 25)).alloc (.cells (madeCells #[.bool false] n) 4)) [.slice A na ca, .int .i64 (n : Int), .slice M nm cm, .slice E ne ce] (List.replicate n false) from by
  refine ⟨hB0.alloc hB0.size _, k3.below (box_below _ _) k3.lt, ?_⟩
  rw [made_bools]
  have := Blk.new (w.alloc (.cells #[.slice A na ca, .int .i64 (n : Int), .slice M nm cm, .slice E ne ce] 25)) 4 (bvl (List.replicate n false))
  rwa [World.size_alloc] at this)
 have HRE := Lib.hid h.re
 have HSS := Lib.hid hS
 have HVV := Lib.hid hV
 have hle := h.le
 have hec := h.ec
 have hcE := h.cE
 have hedl := hw.ed_le
 rw [hle] at hedl
 have HEN := Lib.hid (EdIn.of hw hn)
 have c1 : (w.alloc (.cells #[.slice A na ca, .int .i64 (n : Int), .slice M nm cm, .slice E ne ce] 25)).cell? ⟨w.heap.size, 1, none⟩ = some (.int .i64 (n : Int)) := k3.cell (j := 1) rfl
 have HLE := Lib.hid hle; clear hle
 have HSL := Lib.hid hsl; clear hsl
 have HSET := Lib.hid hset; clear hset
 have HVL := Lib.hid hvl; clear hvl
 have HVI := Lib.hid hvi; clear hvi
 clear hB0 k3 h hS hV hw hn
 go_enter Tryd.func51, Tryd.ntmps51
 go_wp2
 clear c1 hm
 go_loopw [25] (fun s25 wr => ∃ (k : Nat) (N : List Bool), s25 = .int .i64 k ∧ k ≤ ns ∧ Hid (N.length = n ∧ (∀ j s, j < k → set[j]? = some s → fl N s = true) ∧ ∀ s : Int, 0 ≤ s → fl N s = true → s ∈ set) ∧ Hid (ClM w wr [.slice A na ca, .int .i64 (n : Int), .slice M nm cm, .slice E ne ce] N)) (fun s25 _ => ns - (intOf s25).toNat)
 case atStart => exact ⟨0, _, rfl, Nat.zero_le _, Lib.hid ⟨by simp, fun j s hj => by omega, fun s h0 hs => by
   exfalso
   unfold fl at hs
   rw [List.getD_eq_getElem?_getD, List.getElem?_replicate] at hs
   split at hs <;> simp at hs⟩, HC0⟩
 case round =>
  clear HC0
  obtain ⟨k, N, rfl, hk, HN, HC⟩ := hrel
  by_cases hlt : k < ns
  ·obtain ⟨sd, s, rfl, hsb, hss, hsc⟩ := (HSS.out.below HC.out.bel).at_ (k := k) (by have := HSL.out; omega)
   have b1 : (k : Int) < (ns : Int) := by omega
   obtain ⟨s0, s1⟩ := HSET.out s (List.mem_of_getElem? hss)
   have g1 : ∃ q, wr.cell? ⟨w.heap.size + 1, s.toNat, none⟩ = some (.bool q) := ⟨_, cell_flag HC.out.num rfl s0 (by rw [HN.out.1]; exact s1)⟩
   obtain ⟨q, g1⟩ := g1
   have g2 : wr.frozen? ⟨w.heap.size + 1, s.toNat, none⟩ = false := HC.out.num.free _
   have g3 : w.heap.size + 1 < wr.heap.size := HC.out.lt
   have HC2 := Lib.hid (HC.out.put s0 (by rw [HN.out.1]; exact s1))
   have HN2 := Lib.hid (show (fset N s).length = n ∧ (∀ j s', j < k + 1 → set[j]? = some s' → fl (fset N s) s' = true) ∧ ∀ s' : Int, 0 ≤ s' → fl (fset N s) s' = true → s' ∈ set from by
    have hr : 0 ≤ s ∧ s < (N.length : Int) := ⟨s0, by rw [HN.out.1]; exact s1⟩
    refine ⟨by rw [fset_len]; exact HN.out.1, fun j s' hj hs' => ?_, fun s' h0 hs' => ?_⟩
    ·rw [fl_set hr (HSET.out s' (List.mem_of_getElem? hs')).1]
     rcases Nat.lt_or_ge j k with h1 | h1
     ·rw [HN.out.2.1 j s' h1 hs', Bool.or_true]
     ·obtain rfl : j = k := by omega
      rw [hss] at hs'; injection hs' with hs'; subst hs'; simp
    ·rw [fl_set hr h0, Bool.or_eq_true, decide_eq_true_eq] at hs'
     rcases hs' with rfl | hs'
     ·exact List.mem_of_getElem? hss
     ·exact HN.out.2.2 s' h0 hs')
   clear hss
   go_wp2
   go_roundw
   case rel => exact ⟨k + 1, _, by go_num, by omega, HN2, HC2⟩
   case measure => simp [intOf]; omega
  ·have b1 : ¬ (k : Int) < (ns : Int) := by omega
   have HFL := Lib.hid (show Fl a.ed ev true set n N from ⟨HN.out.1, fun s hs => by
    obtain ⟨j, hj⟩ := List.getElem?_of_mem hs
    exact HN.out.2.1 j s (by have := (List.getElem?_eq_some_iff.1 hj).1; have := HSL.out; omega) hj, fun s h0 hs => .base (HN.out.2.2 s h0 hs)⟩)
   clear HN
   go_wp2
   go_loopw [12] (fun s12 wr => ∃ (N : List Bool) (more : Bool), s12 = .bool more ∧ Hid (Fl a.ed ev true set n N) ∧ Hid (more = false → Clo ev true a.ed N) ∧ Hid (ClM w wr [.slice A na ca, .int .i64 (n : Int), .slice M nm cm, .slice E ne ce] N)) (fun s12 wr => 2 * cntW wr (w.heap.size + 1) + mB s12)
   case atStart => exact ⟨N, true, rfl, HFL, Lib.hid (fun hh => by cases hh), HC⟩
   case round =>
    clear HFL HC
    obtain ⟨N0, more, rfl, HFL, HMR, HC⟩ := hrel
    have HLN := Lib.hid HFL.out.len
    cases more with
    | true =>
     have d3 : wr.cell? ⟨w.heap.size, 3, none⟩ = some (.slice E ne ce) := HC.out.box.cell (j := 3) rfl
     have HCW := Lib.hid (cntW_blk HC.out.num)
     obtain ⟨wo, rfl⟩ : ∃ wo : World, wo = wr := ⟨_, rfl⟩
     go_wp2
     clear d3
     go_loopw [12, 37] (fun s12 s37 wr => ∃ (q : Nat) (more : Bool), s37 = .int .i64 q ∧ s12 = .bool more ∧ q ≤ ne ∧ Hid ((more = false ∧ passF ev true (a.ed.take q) N0 = N0) ∨ (more = true ∧ cntF (passF ev true (a.ed.take q) N0) < cntF N0)) ∧ Hid (ClM w wr [.slice A na ca, .int .i64 (n : Int), .slice M nm cm, .slice E ne ce] (passF ev true (a.ed.take q) N0))) (fun _ s37 _ => ne - (intOf s37).toNat)
     case atStart => exact ⟨0, false, rfl, rfl, Nat.zero_le _, Lib.hid (.inl ⟨rfl, rfl⟩), HC⟩
     case round =>
      clear HC
      obtain ⟨q, more, rfl, rfl, hq, HMO, HC⟩ := hrel
      by_cases hql : q < ne
      ·obtain ⟨ed, x, rfl, hbe, hxe, g0, g1, g2⟩ := (HRE.out.below HC.out.bel).at_ (k := q) (by have := HLE.out; omega)
       have c1 : (q : Int) < (ne : Int) := by omega
       have r1 : wr.cell? ⟨(ed.add (q * 3)).block, (ed.add (q * 3)).off + 1, none⟩ = some (.int .i64 x.e) := st_cells (j := 0) g1
       have r2 : wr.cell? ⟨(ed.add (q * 3)).block, (ed.add (q * 3)).off + 2, none⟩ = some (.int .i64 x.t) := st_cells (j := 1) g2
       have hmem := List.mem_of_getElem? hxe
       have hfr := HEN.out.fr hmem true
       have hto := HEN.out.to hmem true
       obtain ⟨Nq, hNq⟩ : ∃ Nq, passF ev true (a.ed.take q) N0 = Nq := ⟨_, rfl⟩
       have HPS := Lib.hid (passF_snoc (V := ev) (back := true) hxe N0)
       rw [hNq] at HPS HC HMO
       have hlen : Nq.length = n := by rw [← hNq, passF_len]; exact HLN.out
       have HSC := Lib.hid (stepF_cases (V := ev) (back := true) (N := Nq) (x := x) hlen hto)
       have HF2 := Lib.hid (passF_len (V := ev) (back := true) (a.ed.take q) N0)
       have HC1 := HC
       have HCX := Lib.hid (HC.out.quiet (box_below wr (.cells #[.int .i64 x.f, .int .i64 x.e, .int .i64 x.t] 83)))
       have kx : Blk (wr.alloc (.cells #[.int .i64 x.f, .int .i64 x.e, .int .i64 x.t] 83)) wr.heap.size 83 [.int .i64 x.f, .int .i64 x.e, .int .i64 x.t] := Blk.new _ _ _
       have k0 := kx.cell (j := 0) rfl
       have k1 := kx.cell (j := 1) rfl
       have k2 := kx.cell (j := 2) rfl
       have HLEN := Lib.hid hlen; clear hlen
       have KX := Lib.hid kx; clear kx
       clear hmem hNq HC
       have hfr0 : 0 ≤ x.t := hfr.1
       have hfr1 : x.t < (n : Int) := hfr.2
       have hto0 : 0 ≤ x.f := hto.1
       have hto1 : x.f < (n : Int) := hto.2
       clear hfr hto
       go_wp2
       go_quiet (fail)
       have HCQ := Lib.hid (HCX.out.quiet (below_drewN (Below.refl _ _) nq))
       clear k0 k2 g0 r1 r2
       have hNl : (Nq.length : Int) = (n : Int) := by rw [HLEN.out]
       cases hqf : fl Nq x.t with
       | false =>
        have g5 : (wr.alloc (.cells #[.int .i64 x.f, .int .i64 x.e, .int .i64 x.t] 83)).cell? ⟨w.heap.size + 1, (x.t).toNat, none⟩ = some (.bool false) := cell_flag HCX.out.num hqf hfr0 (by omega)
        have HST := Lib.hid (show stepF ev true Nq x = Nq by unfold stepF goE; rw [show fl Nq (eFr true x) = false from hqf]; rfl)
        clear hqf
        go_wp2
        go_roundw
        case rel => exact ⟨q + 1, more, by go_num, rfl, by omega, Lib.hid (by rw [HPS.out, HST.out]; exact HMO.out), Lib.hid (by rw [HPS.out, HST.out]; exact HCQ.out)⟩
        case measure => simp [intOf]; omega
       | true =>
        have g5 : (wr.alloc (.cells #[.int .i64 x.f, .int .i64 x.e, .int .i64 x.t] 83)).cell? ⟨w.heap.size + 1, (x.t).toNat, none⟩ = some (.bool true) := cell_flag HCX.out.num hqf hfr0 (by omega)
        cases hqt : fl Nq x.f with
        | true =>
         have g6 : (wr.alloc (.cells #[.int .i64 x.f, .int .i64 x.e, .int .i64 x.t] 83)).cell? ⟨w.heap.size + 1, (x.f).toNat, none⟩ = some (.bool true) := cell_flag HCX.out.num hqt hto0 (by omega)
         have HST := Lib.hid (show stepF ev true Nq x = Nq by
          rcases HSC.out with ⟨h1, _⟩ | ⟨_, h1, _⟩
          ·exact h1
          ·rw [show fl Nq (eTo true x) = true from hqt] at h1; cases h1)
         clear hqf hqt
         go_wp2
         go_roundw
         case rel => exact ⟨q + 1, more, by go_num, rfl, by omega, Lib.hid (by rw [HPS.out, HST.out]; exact HMO.out), Lib.hid (by rw [HPS.out, HST.out]; exact HCQ.out)⟩
         case measure => simp [intOf]; omega
        | false =>
         have g6 : (wr.alloc (.cells #[.int .i64 x.f, .int .i64 x.e, .int .i64 x.t] 83)).cell? ⟨w.heap.size + 1, (x.f).toNat, none⟩ = some (.bool false) := cell_flag HCX.out.num hqt hto0 (by omega)
         obtain ⟨q9, hq9⟩ : ∃ q9, hasB ev x.e = q9 := ⟨_, rfl⟩
         have HCO := Lib.hid (alphabet_Contains_n V cv nv ev x.e q9 ((wr.alloc (.cells #[.int .i64 x.f, .int .i64 x.e, .int .i64 x.t] 83)).drewN nq) HVL.out hq9 ((HVV.out.below HCQ.out.bel).more HCQ.out.bel.size) hv1 HVI.out)
         cases q9 with
         | false =>
          have HST := Lib.hid (show stepF ev true Nq x = Nq by unfold stepF goE; rw [hq9, Bool.and_false]; rfl)
          clear hqf hqt hq9
          go_wp2_with fail
          refine HCO.out.mono ?_
          rintro e w9 ⟨rfl, rfl⟩
          go_wp2
          go_roundw
          case rel => exact ⟨q + 1, more, by go_num, rfl, by omega, Lib.hid (by rw [HPS.out, HST.out]; exact HMO.out), Lib.hid (by rw [HPS.out, HST.out]; exact HCQ.out)⟩
          case measure => simp [intOf]; omega
         | true =>
          have HGO := Lib.hid (show goE ev true Nq x = true by unfold goE; rw [show fl Nq (eFr true x) = true from hqf, hq9]; rfl)
          have HST := Lib.hid (show stepF ev true Nq x = fset Nq (eTo true x) by unfold stepF; rw [if_pos HGO.out])
          have HCT := Lib.hid (show cntF (stepF ev true Nq x) + 1 = cntF Nq by
           rcases HSC.out with ⟨_, h1⟩ | ⟨_, _, h1⟩
           ·have := h1 HGO.out; rw [show fl Nq (eTo true x) = false from hqt] at this; cases this
           ·exact h1)
          have HLT2 : Hid (cntF (passF ev true (a.ed.take (q + 1)) N0) < cntF N0) := Lib.hid (by
           rw [HPS.out]
           have h1 := HCT.out
           rcases HMO.out with ⟨_, h2⟩ | ⟨_, h2⟩
           ·rw [h2] at h1 ⊢; omega
           ·omega)
          have HC9 := Lib.hid (show ClM w (((wr.alloc (.cells #[.int .i64 x.f, .int .i64 x.e, .int .i64 x.t] 83)).drewN nq).setCell ⟨w.heap.size + 1, (x.f).toNat, none⟩ (.bool true)) [.slice A na ca, .int .i64 (n : Int), .slice M nm cm, .slice (some ed) ne ce] (fset Nq (eTo true x)) from HCQ.out.put (s := eTo true x) hto0 (by show (x.f : Int) < _; omega))
          have g7 : (wr.alloc (.cells #[.int .i64 x.f, .int .i64 x.e, .int .i64 x.t] 83)).frozen? ⟨w.heap.size + 1, (x.f).toNat, none⟩ = false := HCX.out.num.free _
          have g8 : w.heap.size + 1 < wr.heap.size := by
           have h1 := HCX.out.lt
           rw [World.size_alloc] at h1
           have h2 := HC1.out.lt
           exact h2
          clear hqf hqt hq9
          go_wp2_with fail
          refine HCO.out.mono ?_
          rintro e w9 ⟨rfl, rfl⟩
          go_wp2
          go_roundw
          case rel => exact ⟨q + 1, true, by go_num, rfl, by omega, Lib.hid (.inr ⟨rfl, HLT2.out⟩), Lib.hid (by rw [HPS.out, HST.out]; exact HC9.out)⟩
          case measure => simp [intOf]; omega
      ·obtain rfl : q = ne := by omega
       have b1 : ¬ (q : Int) < (q : Int) := by omega
       have htk : a.ed.take q = a.ed := List.take_of_length_le (by rw [HLE.out]; exact Nat.le_refl _)
       rw [htk] at HMO HC
       have HF9 := Lib.hid (show Fl a.ed ev true set n (passF ev true a.ed N0) from by
        have := HFL.out.pass (fun s hs => (HSET.out s hs).1) HEN.out q
        rwa [htk] at this)
       have HM9 := Lib.hid (show more = false → Clo ev true a.ed (passF ev true a.ed N0) from fun hh => by
        subst hh
        rcases HMO.out with ⟨_, h1⟩ | ⟨h1, _⟩
        ·rw [h1]
         rcases passF_cases (V := ev) (back := true) a.ed N0 HLN.out HEN.out with ⟨_, h2⟩ | h2
         ·exact h2
         ·rw [h1] at h2; omega
        ·cases h1)
       clear htk
       go_wp2
       go_roundw
       case rel => exact ⟨_, more, rfl, HF9, HM9, HC⟩
       case measure =>
        have h1 := cntW_blk HC.out.num
        have h2 := HCW.out
        rw [h1, h2]
        rcases HMO.out with ⟨h3, h4⟩ | ⟨h3, h4⟩
        ·rw [h3, h4]; simp [mB]
        ·rw [h3]; simp [mB]; omega
    | false =>
     have HCL := Lib.hid (HMR.out rfl)
     clear HMR
     have HO0 := Lib.hid (World.ownsRow_nil wr (w.heap.size + 2) 3 1)
     go_wp2
     go_loopw [17, 71] (fun s17 s71 wr => ∃ (k m : Nat) (v : Value), s71 = .int .i64 k ∧ s17 = v ∧ k ≤ n ∧ m ≤ k ∧ Hid (((rngI (k : Int)).filter (fun s => fl N0 s)).length = m) ∧ Hid (wr.ownsRow (w.heap.size + 2) 3 1 v m (iv ((rngI (k : Int)).filter (fun s => fl N0 s)))) ∧ Hid (ClM w wr [.slice A na ca, .int .i64 (n : Int), .slice M nm cm, .slice E ne ce] N0)) (fun _ s71 _ => n - (intOf s71).toNat)
     case atStart => exact ⟨0, 0, _, rfl, rfl, Nat.zero_le _, Nat.le_refl _, Lib.hid rfl, HO0, HC⟩
     case round =>
      clear HO0 HC
      obtain ⟨k, m, v, rfl, rfl, hk, hmk, HML, HO, HC⟩ := hrel
      obtain ⟨OA, oc, rfl⟩ := own_shape HO.out
      by_cases hlt : k < n
      ·have b1 : (k : Int) < (n : Int) := by omega
       obtain ⟨q, hq⟩ : ∃ q, N0[k]? = some q := ⟨_, List.getElem?_eq_getElem (by rw [HLN.out]; exact hlt)⟩
       have g1 : wr.cell? ⟨w.heap.size + 1, k, none⟩ = some (.bool q) := HC.out.num.cell (by rw [bvl_get, hq]; rfl)
       have HSN := Lib.hid (onF_snoc hq)
       have hbs : w.heap.size + 2 ≤ wr.heap.size := HC.out.lt
       clear hq
       cases q with
       | true =>
        go_wp2_with (at_builtin; refine wpList_push wr (.int .i64 (k : Int)) rfl (.tmp 77) (.tmp 79) 22 rfl (w.heap.size + 2) 3 (.int .i64 0) 8 Tryd.underlying22 int_info rfl (.slice OA m oc) m _ rfl HO.out rfl rfl (by omega) (by omega) hbs ?_; intro v' w' ho' hg' hb1)
        have HC9 := Lib.hid (show ClM w w' [.slice A na ca, .int .i64 (n : Int), .slice M nm cm, .slice E ne ce] N0 from ⟨HC.out.bel.trans (hb1.mono (by omega)), HC.out.box.below hb1 (by omega), HC.out.num.below hb1 (by omega)⟩)
        go_roundw
        case rel => exact ⟨k + 1, m + 1, _, by go_num, rfl, by omega, by omega, Lib.hid (by rw [Int.natCast_succ, HSN.out, List.length_append, HML.out]; rfl), Lib.hid (by rw [Int.natCast_succ, HSN.out, iv_append]; exact ho'), HC9⟩
        case measure => simp [intOf]; omega
       | false =>
        go_wp2
        go_roundw
        case rel => exact ⟨k + 1, m, _, by go_num, rfl, by omega, by omega, Lib.hid (by rw [Int.natCast_succ, HSN.out]; simpa using HML.out), Lib.hid (by rw [Int.natCast_succ, HSN.out]; simpa using HO.out), HC⟩
        case measure => simp [intOf]; omega
      ·obtain rfl : k = n := by omega
       have b1 : ¬ (k : Int) < (k : Int) := by omega
       have HON := Lib.hid (show (rngI (k : Int)).filter (fun s => fl N0 s) = onF N0 by unfold onF; rw [HLN.out])
       go_wp2
       go_ret
       have ho := HO.out
       rw [HON.out] at ho
       have hml := HML.out
       rw [HON.out] at hml
       exact ⟨_, rfl, N0, by rw [hml]; exact own_base ho (by omega), Lib.hid ⟨HFL.out, HCL.out⟩, HC.out.bel⟩
theorem ctl_closure (back : Bool) (A M E : Option Addr) (na ca nm cm ne ce : Nat) (a : Aut) (S : Option Addr) (cs ns : Nat) (set : List Int) (V : Option Addr) (cv nv : Nat) (ev : List Int) (n : Nat) (w : World) (h : AutR w w.heap.size A na ca M nm cm E ne ce a) (hw : WF a) (hn : a.st = (n : Int))
  (hsl : set.length = ns) (hS : RdI w w.heap.size S set) (hset : ∀ s ∈ set, 0 ≤ s ∧ s < (n : Int)) (hs1 : ns ≤ cs) (hs2 : cs ≤ 9223372036854775807) (hvl : ev.length = nv) (hV : RdI w w.heap.size V ev) (hvi : Inc ev) (hv1 : nv ≤ 4611686018427387903) :
  Calls Tryd.prog 51 #[.agg #[.slice A na ca, .int .i64 a.st, .slice M nm cm, .slice E ne ce], .slice S ns cs, .slice V nv cv, .bool back] w fun e w' => ∃ (v : Value) (N : List Bool), e = .returned v ∧ w'.ownsRow w.heap.size 3 1 v (onF N).length (iv (onF N)) ∧ Hid (Fl a.ed ev back set n N ∧ Clo ev back a.ed N) ∧ Below w.heap.size w w' := by
 cases back with
 | true => exact closure_true A M E na ca nm cm ne ce a S cs ns set V cv nv ev n w h hw hn hsl hS hset hs1 hs2 hvl hV hvi hv1
 | false => exact closure_false A M E na ca nm cm ne ce a S cs ns set V cv nv ev n w h hw hn hsl hS hset hs1 hs2 hvl hV hvi hv1
end Go.Proofs.YtcchnibgehonoaaDoor

/- Walks: controllable.open. -/
namespace Go.Proofs.YtcchnibgehonoaaDoor
open Go.RowKit Go Go.Maps

/-- the first fault of a problem -/
def prbE (P R : Aut) (u : List Int) : Int := if chkA P ≠ 0 then chkA P else if chkA R ≠ 0 then chkA R else if setErr u 32 ≠ 0 then setErr u 32 else if (minS R.al P.al).length = 0 then 0 else 9
/-- a problem as it lies in memory -/
structure PV where
 mp : Nat
 np : Nat
 mr : Nat
 nr : Nat
 RA : Option Addr
 nra : Nat
 cra : Nat
 UA : Option Addr
 nu : Nat
 cu : Nat
 x : AV
 TB : Option Addr
 nt : Nat
 ct : Nat
 ts : List SlV
def pvc (v : PV) : List Value := [.map (some v.mp), .map (some v.mr), .slice v.RA v.nra v.cra, .slice v.UA v.nu v.cu, .slice v.x.A v.x.na v.x.ca, .int .i64 v.x.a.st, .slice v.x.M v.x.nm v.x.cm, .slice v.x.E v.x.ne v.x.ce, .slice v.TB v.nt v.ct]
structure PrbR (w : World) (b : Nat) (v : PV) (P R : Aut) (U : List Int) (p : Aut) (T : List (List Int)) : Prop where
 blk : Blk w b 89 (pvc v)
 tp : TabE w v.mp v.np P.ed
 tr : TabE w v.mr v.nr R.ed
 ra : RdI w w.heap.size v.RA R.al
 rl : R.al.length = v.nra
 rc : v.nra ≤ v.cra ∧ v.cra ≤ 9223372036854775807
 ua : RdI w w.heap.size v.UA U
 ul : U.length = v.nu
 uc : v.nu ≤ v.cu ∧ v.cu ≤ 9223372036854775807
 xo : v.x.ok w w.heap.size
 xa : v.x.a = p
 ts : RdS w w.heap.size v.TB v.ts
 tl : v.ts.length = v.nt
 tc : v.nt ≤ v.ct ∧ v.ct ≤ 9223372036854775807
 tt : v.ts.map SlV.l = T
theorem PrbR.below {w w' : World} {b : Nat} {v : PV} {P R p : Aut} {U : List Int} {T : List (List Int)} (h : PrbR w b v P R U p T) (hb : Below w.heap.size w w') : PrbR w' b v P R U p T :=
 ⟨h.blk.below hb h.blk.lt, TabI.below h.tp hb (TabI.lt h.tp), TabI.below h.tr hb (TabI.lt h.tr), (h.ra.below hb).more hb.size, h.rl, h.rc, (h.ua.below hb).more hb.size, h.ul, h.uc, AutR.more (AutR.below h.xo hb) hb.size, h.xa, (h.ts.below hb).more hb.size, h.tl, h.tc, h.tt⟩

set_option maxRecDepth 100000 in
set_option maxHeartbeats 3200000 in
theorem open_bad1 (A M E A' M' E' : Option Addr) (na ca nm cm ne ce na' ca' nm' cm' ne' ce' : Nat) (P R : Aut) (U : Option Addr) (cu nu : Nat) (u : List Int) (w : World) (hx : AutR w w.heap.size A na ca M nm cm E ne ce P) (hy : AutR w w.heap.size A' na' ca' M' nm' cm' E' ne' ce' R)
  (hul : u.length = nu) (hu : RdI w w.heap.size U u) (_hu1 : nu ≤ cu) (_hu2 : cu ≤ 9223372036854775807) (hz : chkA P ≠ 0) :
  Calls Tryd.prog 46 #[.agg #[.slice A na ca, .int .i64 P.st, .slice M nm cm, .slice E ne ce], .agg #[.slice A' na' ca', .int .i64 R.st, .slice M' nm' cm', .slice E' ne' ce'], .slice U nu cu] w fun e w' => e = .returned (.tuple #[.pointer none, .int .i64 (chkA P)]) ∧ Below w.heap.size w w' := by
 have HZ := Lib.hid hz; clear hz
 obtain ⟨sp, hsp⟩ : ∃ s, P.st = s := ⟨_, rfl⟩
 obtain ⟨sr, hsr⟩ : ∃ s, R.st = s := ⟨_, rfl⟩
 rw [hsp, hsr]
 have hb1 := box_below w (.cells #[.slice A na ca, .int .i64 sp, .slice M nm cm, .slice E ne ce] 25)
 have hb2 := hb1.alloc hb1.size (.cells #[.slice A' na' ca', .int .i64 sr, .slice M' nm' cm', .slice E' ne' ce'] 25)
 have hb3 := hb2.alloc hb2.size (.cells #[.slice A na ca, .int .i64 sp, .slice M nm cm, .slice E ne ce, .slice A' na' ca', .int .i64 sr, .slice M' nm' cm', .slice E' ne' ce'] 25)
 obtain ⟨w1, hw1⟩ : ∃ w1, w1 = ((w.alloc (.cells #[.slice A na ca, .int .i64 sp, .slice M nm cm, .slice E ne ce] 25)).alloc (.cells #[.slice A' na' ca', .int .i64 sr, .slice M' nm' cm', .slice E' ne' ce'] 25)).alloc (.cells #[.slice A na ca, .int .i64 sp, .slice M nm cm, .slice E ne ce, .slice A' na' ca', .int .i64 sr, .slice M' nm' cm', .slice E' ne' ce'] 25) := ⟨_, rfl⟩
 have hs1 : w1.heap.size = w.heap.size + 3 := by rw [hw1]; simp
 have kP : Blk w1 w.heap.size 25 [.slice A na ca, .int .i64 sp, .slice M nm cm, .slice E ne ce] := by rw [hw1]; exact ((Blk.new _ _ [_, _, _, _]).al _).al _
 have kR : Blk w1 (w.heap.size + 1) 25 [.slice A' na' ca', .int .i64 sr, .slice M' nm' cm', .slice E' ne' ce'] := by rw [hw1]; exact (Blk.at_ _ _ [_, _, _, _] (by simp)).al _
 have kL : Blk w1 (w.heap.size + 2) 25 [.slice A na ca, .int .i64 sp, .slice M nm cm, .slice E ne ce, .slice A' na' ca', .int .i64 sr, .slice M' nm' cm', .slice E' ne' ce'] := by rw [hw1]; exact Blk.at_ _ _ [_, _, _, _, _, _, _, _] (by simp)
 rw [← hw1] at hb3
 have hx1 := (hx.below hb3).more hb3.size
 have hy1 := (hy.below hb3).more hb3.size
 have hu1 := (hu.below hb3).more hb3.size
 have HSP := Lib.hid hsp; clear hsp
 have HSR := Lib.hid hsr; clear hsr
 have HW1 := Lib.hid hw1; clear hw1
 have HS1 := Lib.hid hs1; clear hs1
 have KP := Lib.hid kP; clear kP
 have KR := Lib.hid kR; clear kR
 have KL := Lib.hid kL; clear kL
 have HB1 := Lib.hid hb3; clear hb3
 have HX := Lib.hid hx1; clear hx1
 have HY := Lib.hid hy1; clear hy1
 have HU := Lib.hid hu1; clear hu1
 have HUL := Lib.hid hul; clear hul
 clear hb1 hb2 hx hy hu
 go_enter Tryd.func46, Tryd.ntmps46
 go_wp2
 rw [← HW1.out]
 go_loopw [19] (fun s19 wr => ∃ k : Nat, s19 = .int .i64 k ∧ k ≤ 2 ∧ (1 ≤ k → Hid (chkA P = 0)) ∧ (2 ≤ k → Hid (chkA R = 0)) ∧ Below w1.heap.size w1 wr) (fun s19 _ => 2 - (intOf s19).toNat)
 case atStart => exact ⟨0, rfl, by omega, fun h => by omega, fun h => by omega, Below.refl _ _⟩
 case round =>
  obtain ⟨k, rfl, hk, H1, H2, hbel⟩ := hrel
  have hsz := hbel.size
  have kl := KL.out.below hbel KL.out.lt
  have hkk : k = 0 ∨ k = 1 ∨ k = 2 := by omega
  rcases hkk with rfl | rfl | rfl
  ·have c0 := kl.cell (j := 0) rfl
   have c1 := kl.cell (j := 1) rfl
   have c2 := kl.cell (j := 2) rfl
   have c3 := kl.cell (j := 3) rfl
   have hba := box_below wr (.cells #[.slice A na ca, .int .i64 sp, .slice M nm cm, .slice E ne ce] 25)
   have hbx := hbel.trans (hba.mono hsz)
   have HC := Lib.hid (automaton_Check A na ca M nm cm E ne ce P (wr.alloc (.cells #[.slice A na ca, .int .i64 sp, .slice M nm cm, .slice E ne ce] 25)) ((HX.out.below hbx).more hbx.size))
   rw [HSP.out] at HC
   have HBX := Lib.hid hbx; clear hbx
   clear kl hba
   obtain ⟨q, hq⟩ : ∃ q, chkA P = q := ⟨_, rfl⟩
   have hz := HZ.out
   rw [hq] at hz HC
   have d1 : (q != 0) = true := by simpa using hz
   have HQ := Lib.hid hq; clear hq
   clear hz
   go_wp2_with fail
   refine HC.out.mono ?_
   rintro e w5 ⟨rfl, hb5⟩
   have hfin := HB1.out.trans ((HBX.out.trans (hb5.mono HBX.out.size)).mono HB1.out.size)
   have HFI := Lib.hid hfin; clear hfin
   clear c0 c1 c2 c3 hb5
   go_wp2
   go_ret2
   exact ⟨by rw [HQ.out]; rfl, HFI.out⟩
  ·have hcp := (H1 (by omega)).out
   have c0 := kl.cell (j := 4) rfl
   have c1 := kl.cell (j := 5) rfl
   have c2 := kl.cell (j := 6) rfl
   have c3 := kl.cell (j := 7) rfl
   have hba := box_below wr (.cells #[.slice A' na' ca', .int .i64 sr, .slice M' nm' cm', .slice E' ne' ce'] 25)
   have hbx := hbel.trans (hba.mono hsz)
   have HC := Lib.hid (automaton_Check A' na' ca' M' nm' cm' E' ne' ce' R (wr.alloc (.cells #[.slice A' na' ca', .int .i64 sr, .slice M' nm' cm', .slice E' ne' ce'] 25)) ((HY.out.below hbx).more hbx.size))
   rw [HSR.out] at HC
   have HBX := Lib.hid hbx; clear hbx
   have HCP := Lib.hid hcp; clear hcp
   clear kl hba H1 H2
   exact absurd HCP.out HZ.out
  ·have hcp := (H1 (by omega)).out
   have hcr := (H2 (by omega)).out
   have HCP := Lib.hid hcp; clear hcp
   have HCR := Lib.hid hcr; clear hcr
   clear kl H1 H2
   exact absurd HCP.out HZ.out
set_option maxRecDepth 100000 in
set_option maxHeartbeats 3200000 in
theorem open_bad2 (A M E A' M' E' : Option Addr) (na ca nm cm ne ce na' ca' nm' cm' ne' ce' : Nat) (P R : Aut) (U : Option Addr) (cu nu : Nat) (u : List Int) (w : World) (hx : AutR w w.heap.size A na ca M nm cm E ne ce P) (hy : AutR w w.heap.size A' na' ca' M' nm' cm' E' ne' ce' R)
  (hul : u.length = nu) (hu : RdI w w.heap.size U u) (_hu1 : nu ≤ cu) (_hu2 : cu ≤ 9223372036854775807) (hp : chkA P = 0) (hz : chkA R ≠ 0) :
  Calls Tryd.prog 46 #[.agg #[.slice A na ca, .int .i64 P.st, .slice M nm cm, .slice E ne ce], .agg #[.slice A' na' ca', .int .i64 R.st, .slice M' nm' cm', .slice E' ne' ce'], .slice U nu cu] w fun e w' => e = .returned (.tuple #[.pointer none, .int .i64 (chkA R)]) ∧ Below w.heap.size w w' := by
 have HZ := Lib.hid hz; clear hz
 have HPZ := Lib.hid hp; clear hp
 obtain ⟨sp, hsp⟩ : ∃ s, P.st = s := ⟨_, rfl⟩
 obtain ⟨sr, hsr⟩ : ∃ s, R.st = s := ⟨_, rfl⟩
 rw [hsp, hsr]
 have hb1 := box_below w (.cells #[.slice A na ca, .int .i64 sp, .slice M nm cm, .slice E ne ce] 25)
 have hb2 := hb1.alloc hb1.size (.cells #[.slice A' na' ca', .int .i64 sr, .slice M' nm' cm', .slice E' ne' ce'] 25)
 have hb3 := hb2.alloc hb2.size (.cells #[.slice A na ca, .int .i64 sp, .slice M nm cm, .slice E ne ce, .slice A' na' ca', .int .i64 sr, .slice M' nm' cm', .slice E' ne' ce'] 25)
 obtain ⟨w1, hw1⟩ : ∃ w1, w1 = ((w.alloc (.cells #[.slice A na ca, .int .i64 sp, .slice M nm cm, .slice E ne ce] 25)).alloc (.cells #[.slice A' na' ca', .int .i64 sr, .slice M' nm' cm', .slice E' ne' ce'] 25)).alloc (.cells #[.slice A na ca, .int .i64 sp, .slice M nm cm, .slice E ne ce, .slice A' na' ca', .int .i64 sr, .slice M' nm' cm', .slice E' ne' ce'] 25) := ⟨_, rfl⟩
 have hs1 : w1.heap.size = w.heap.size + 3 := by rw [hw1]; simp
 have kP : Blk w1 w.heap.size 25 [.slice A na ca, .int .i64 sp, .slice M nm cm, .slice E ne ce] := by rw [hw1]; exact ((Blk.new _ _ [_, _, _, _]).al _).al _
 have kR : Blk w1 (w.heap.size + 1) 25 [.slice A' na' ca', .int .i64 sr, .slice M' nm' cm', .slice E' ne' ce'] := by rw [hw1]; exact (Blk.at_ _ _ [_, _, _, _] (by simp)).al _
 have kL : Blk w1 (w.heap.size + 2) 25 [.slice A na ca, .int .i64 sp, .slice M nm cm, .slice E ne ce, .slice A' na' ca', .int .i64 sr, .slice M' nm' cm', .slice E' ne' ce'] := by rw [hw1]; exact Blk.at_ _ _ [_, _, _, _, _, _, _, _] (by simp)
 rw [← hw1] at hb3
 have hx1 := (hx.below hb3).more hb3.size
 have hy1 := (hy.below hb3).more hb3.size
 have hu1 := (hu.below hb3).more hb3.size
 have HSP := Lib.hid hsp; clear hsp
 have HSR := Lib.hid hsr; clear hsr
 have HW1 := Lib.hid hw1; clear hw1
 have HS1 := Lib.hid hs1; clear hs1
 have KP := Lib.hid kP; clear kP
 have KR := Lib.hid kR; clear kR
 have KL := Lib.hid kL; clear kL
 have HB1 := Lib.hid hb3; clear hb3
 have HX := Lib.hid hx1; clear hx1
 have HY := Lib.hid hy1; clear hy1
 have HU := Lib.hid hu1; clear hu1
 have HUL := Lib.hid hul; clear hul
 clear hb1 hb2 hx hy hu
 go_enter Tryd.func46, Tryd.ntmps46
 go_wp2
 rw [← HW1.out]
 go_loopw [19] (fun s19 wr => ∃ k : Nat, s19 = .int .i64 k ∧ k ≤ 2 ∧ (1 ≤ k → Hid (chkA P = 0)) ∧ (2 ≤ k → Hid (chkA R = 0)) ∧ Below w1.heap.size w1 wr) (fun s19 _ => 2 - (intOf s19).toNat)
 case atStart => exact ⟨0, rfl, by omega, fun h => by omega, fun h => by omega, Below.refl _ _⟩
 case round =>
  obtain ⟨k, rfl, hk, H1, H2, hbel⟩ := hrel
  have hsz := hbel.size
  have kl := KL.out.below hbel KL.out.lt
  have hkk : k = 0 ∨ k = 1 ∨ k = 2 := by omega
  rcases hkk with rfl | rfl | rfl
  ·have c0 := kl.cell (j := 0) rfl
   have c1 := kl.cell (j := 1) rfl
   have c2 := kl.cell (j := 2) rfl
   have c3 := kl.cell (j := 3) rfl
   have hba := box_below wr (.cells #[.slice A na ca, .int .i64 sp, .slice M nm cm, .slice E ne ce] 25)
   have hbx := hbel.trans (hba.mono hsz)
   have HC := Lib.hid (automaton_Check A na ca M nm cm E ne ce P (wr.alloc (.cells #[.slice A na ca, .int .i64 sp, .slice M nm cm, .slice E ne ce] 25)) ((HX.out.below hbx).more hbx.size))
   rw [HSP.out] at HC
   have HBX := Lib.hid hbx; clear hbx
   clear kl hba
   rw [HPZ.out] at HC
   go_wp2_with fail
   refine HC.out.mono ?_
   rintro e w5 ⟨rfl, hb5⟩
   have hb := HBX.out.trans (hb5.mono HBX.out.size)
   clear c0 c1 c2 c3 hb5
   go_wp2
   go_roundw
   case rel => exact ⟨1, by go_num, by omega, fun _ => HPZ, fun h => by omega, hb⟩
   case measure => simp [intOf]
  ·have hcp := (H1 (by omega)).out
   have c0 := kl.cell (j := 4) rfl
   have c1 := kl.cell (j := 5) rfl
   have c2 := kl.cell (j := 6) rfl
   have c3 := kl.cell (j := 7) rfl
   have hba := box_below wr (.cells #[.slice A' na' ca', .int .i64 sr, .slice M' nm' cm', .slice E' ne' ce'] 25)
   have hbx := hbel.trans (hba.mono hsz)
   have HC := Lib.hid (automaton_Check A' na' ca' M' nm' cm' E' ne' ce' R (wr.alloc (.cells #[.slice A' na' ca', .int .i64 sr, .slice M' nm' cm', .slice E' ne' ce'] 25)) ((HY.out.below hbx).more hbx.size))
   rw [HSR.out] at HC
   have HBX := Lib.hid hbx; clear hbx
   have HCP := Lib.hid hcp; clear hcp
   clear kl hba H1 H2
   obtain ⟨q, hq⟩ : ∃ q, chkA R = q := ⟨_, rfl⟩
   have hz := HZ.out
   rw [hq] at hz HC
   have d1 : (q != 0) = true := by simpa using hz
   have HQ := Lib.hid hq; clear hq
   clear hz
   go_wp2_with fail
   refine HC.out.mono ?_
   rintro e w5 ⟨rfl, hb5⟩
   have hfin := HB1.out.trans ((HBX.out.trans (hb5.mono HBX.out.size)).mono HB1.out.size)
   have HFI := Lib.hid hfin; clear hfin
   clear c0 c1 c2 c3 hb5
   go_wp2
   go_ret2
   exact ⟨by rw [HQ.out]; rfl, HFI.out⟩
  ·have hcp := (H1 (by omega)).out
   have hcr := (H2 (by omega)).out
   have HCP := Lib.hid hcp; clear hcp
   have HCR := Lib.hid hcr; clear hcr
   clear kl H1 H2
   exact absurd HCR.out HZ.out
set_option maxRecDepth 100000 in
set_option maxHeartbeats 3200000 in
theorem open_bad3 (A M E A' M' E' : Option Addr) (na ca nm cm ne ce na' ca' nm' cm' ne' ce' : Nat) (P R : Aut) (U : Option Addr) (cu nu : Nat) (u : List Int) (w : World) (hx : AutR w w.heap.size A na ca M nm cm E ne ce P) (hy : AutR w w.heap.size A' na' ca' M' nm' cm' E' ne' ce' R)
  (hul : u.length = nu) (hu : RdI w w.heap.size U u) (hu1 : nu ≤ cu) (hu2 : cu ≤ 9223372036854775807) (hp : chkA P = 0) (hr : chkA R = 0) (hz : setErr u 32 ≠ 0) :
  Calls Tryd.prog 46 #[.agg #[.slice A na ca, .int .i64 P.st, .slice M nm cm, .slice E ne ce], .agg #[.slice A' na' ca', .int .i64 R.st, .slice M' nm' cm', .slice E' ne' ce'], .slice U nu cu] w fun e w' => e = .returned (.tuple #[.pointer none, .int .i64 (setErr u 32)]) ∧ Below w.heap.size w w' := by
 have HZ := Lib.hid hz; clear hz
 have HPZ := Lib.hid hp; clear hp
 have HRZ := Lib.hid hr; clear hr
 obtain ⟨sp, hsp⟩ : ∃ s, P.st = s := ⟨_, rfl⟩
 obtain ⟨sr, hsr⟩ : ∃ s, R.st = s := ⟨_, rfl⟩
 rw [hsp, hsr]
 have hb1 := box_below w (.cells #[.slice A na ca, .int .i64 sp, .slice M nm cm, .slice E ne ce] 25)
 have hb2 := hb1.alloc hb1.size (.cells #[.slice A' na' ca', .int .i64 sr, .slice M' nm' cm', .slice E' ne' ce'] 25)
 have hb3 := hb2.alloc hb2.size (.cells #[.slice A na ca, .int .i64 sp, .slice M nm cm, .slice E ne ce, .slice A' na' ca', .int .i64 sr, .slice M' nm' cm', .slice E' ne' ce'] 25)
 obtain ⟨w1, hw1⟩ : ∃ w1, w1 = ((w.alloc (.cells #[.slice A na ca, .int .i64 sp, .slice M nm cm, .slice E ne ce] 25)).alloc (.cells #[.slice A' na' ca', .int .i64 sr, .slice M' nm' cm', .slice E' ne' ce'] 25)).alloc (.cells #[.slice A na ca, .int .i64 sp, .slice M nm cm, .slice E ne ce, .slice A' na' ca', .int .i64 sr, .slice M' nm' cm', .slice E' ne' ce'] 25) := ⟨_, rfl⟩
 have hs1 : w1.heap.size = w.heap.size + 3 := by rw [hw1]; simp
 have kP : Blk w1 w.heap.size 25 [.slice A na ca, .int .i64 sp, .slice M nm cm, .slice E ne ce] := by rw [hw1]; exact ((Blk.new _ _ [_, _, _, _]).al _).al _
 have kR : Blk w1 (w.heap.size + 1) 25 [.slice A' na' ca', .int .i64 sr, .slice M' nm' cm', .slice E' ne' ce'] := by rw [hw1]; exact (Blk.at_ _ _ [_, _, _, _] (by simp)).al _
 have kL : Blk w1 (w.heap.size + 2) 25 [.slice A na ca, .int .i64 sp, .slice M nm cm, .slice E ne ce, .slice A' na' ca', .int .i64 sr, .slice M' nm' cm', .slice E' ne' ce'] := by rw [hw1]; exact Blk.at_ _ _ [_, _, _, _, _, _, _, _] (by simp)
 rw [← hw1] at hb3
 have hx1 := (hx.below hb3).more hb3.size
 have hy1 := (hy.below hb3).more hb3.size
 have hu1 := (hu.below hb3).more hb3.size
 have HSP := Lib.hid hsp; clear hsp
 have HSR := Lib.hid hsr; clear hsr
 have HW1 := Lib.hid hw1; clear hw1
 have HS1 := Lib.hid hs1; clear hs1
 have KP := Lib.hid kP; clear kP
 have KR := Lib.hid kR; clear kR
 have KL := Lib.hid kL; clear kL
 have HB1 := Lib.hid hb3; clear hb3
 have HX := Lib.hid hx1; clear hx1
 have HY := Lib.hid hy1; clear hy1
 have HU := Lib.hid hu1; clear hu1
 have HUL := Lib.hid hul; clear hul
 clear hb1 hb2 hx hy hu
 go_enter Tryd.func46, Tryd.ntmps46
 go_wp2
 rw [← HW1.out]
 go_loopw [19] (fun s19 wr => ∃ k : Nat, s19 = .int .i64 k ∧ k ≤ 2 ∧ (1 ≤ k → Hid (chkA P = 0)) ∧ (2 ≤ k → Hid (chkA R = 0)) ∧ Below w1.heap.size w1 wr) (fun s19 _ => 2 - (intOf s19).toNat)
 case atStart => exact ⟨0, rfl, by omega, fun h => by omega, fun h => by omega, Below.refl _ _⟩
 case round =>
  obtain ⟨k, rfl, hk, H1, H2, hbel⟩ := hrel
  have hsz := hbel.size
  have kl := KL.out.below hbel KL.out.lt
  have hkk : k = 0 ∨ k = 1 ∨ k = 2 := by omega
  rcases hkk with rfl | rfl | rfl
  ·have c0 := kl.cell (j := 0) rfl
   have c1 := kl.cell (j := 1) rfl
   have c2 := kl.cell (j := 2) rfl
   have c3 := kl.cell (j := 3) rfl
   have hba := box_below wr (.cells #[.slice A na ca, .int .i64 sp, .slice M nm cm, .slice E ne ce] 25)
   have hbx := hbel.trans (hba.mono hsz)
   have HC := Lib.hid (automaton_Check A na ca M nm cm E ne ce P (wr.alloc (.cells #[.slice A na ca, .int .i64 sp, .slice M nm cm, .slice E ne ce] 25)) ((HX.out.below hbx).more hbx.size))
   rw [HSP.out] at HC
   have HBX := Lib.hid hbx; clear hbx
   clear kl hba
   rw [HPZ.out] at HC
   go_wp2_with fail
   refine HC.out.mono ?_
   rintro e w5 ⟨rfl, hb5⟩
   have hb := HBX.out.trans (hb5.mono HBX.out.size)
   clear c0 c1 c2 c3 hb5
   go_wp2
   go_roundw
   case rel => exact ⟨1, by go_num, by omega, fun _ => HPZ, fun h => by omega, hb⟩
   case measure => simp [intOf]
  ·have hcp := (H1 (by omega)).out
   have c0 := kl.cell (j := 4) rfl
   have c1 := kl.cell (j := 5) rfl
   have c2 := kl.cell (j := 6) rfl
   have c3 := kl.cell (j := 7) rfl
   have hba := box_below wr (.cells #[.slice A' na' ca', .int .i64 sr, .slice M' nm' cm', .slice E' ne' ce'] 25)
   have hbx := hbel.trans (hba.mono hsz)
   have HC := Lib.hid (automaton_Check A' na' ca' M' nm' cm' E' ne' ce' R (wr.alloc (.cells #[.slice A' na' ca', .int .i64 sr, .slice M' nm' cm', .slice E' ne' ce'] 25)) ((HY.out.below hbx).more hbx.size))
   rw [HSR.out] at HC
   have HBX := Lib.hid hbx; clear hbx
   have HCP := Lib.hid hcp; clear hcp
   clear kl hba H1 H2
   rw [HRZ.out] at HC
   go_wp2_with fail
   refine HC.out.mono ?_
   rintro e w5 ⟨rfl, hb5⟩
   have hb := HBX.out.trans (hb5.mono HBX.out.size)
   clear c0 c1 c2 c3 hb5
   go_wp2
   go_roundw
   case rel => exact ⟨2, by go_num, by omega, fun _ => HCP, fun _ => HRZ, hb⟩
   case measure => simp [intOf]
  ·have hcp := (H1 (by omega)).out
   have hcr := (H2 (by omega)).out
   have HCP := Lib.hid hcp; clear hcp
   have HCR := Lib.hid hcr; clear hcr
   clear kl H1 H2
   have HCS := Lib.hid (alphabet_CheckSet_n U cu nu u 32 (setErr u 32) wr HUL.out rfl ((HU.out.below hbel).more hsz) hu1 hu2)
   obtain ⟨q, hq⟩ : ∃ q, setErr u 32 = q := ⟨_, rfl⟩
   have hz := HZ.out
   rw [hq] at hz HCS
   have d1 : (q != 0) = true := by simpa using hz
   have HFI := Lib.hid (HB1.out.trans (hbel.mono HB1.out.size))
   have HQ := Lib.hid hq; clear hq
   clear hz
   go_wp2_with fail
   refine HCS.out.mono ?_
   rintro e w5 ⟨rfl, rfl⟩
   go_wp2
   go_ret2
   exact ⟨by rw [HQ.out]; rfl, HFI.out⟩
set_option maxRecDepth 100000 in
set_option maxHeartbeats 3200000 in
theorem open_bad4 (A M E A' M' E' : Option Addr) (na ca nm cm ne ce na' ca' nm' cm' ne' ce' : Nat) (P R : Aut) (U : Option Addr) (cu nu : Nat) (u : List Int) (w : World) (hx : AutR w w.heap.size A na ca M nm cm E ne ce P) (hy : AutR w w.heap.size A' na' ca' M' nm' cm' E' ne' ce' R)
  (hul : u.length = nu) (hu : RdI w w.heap.size U u) (hu1 : nu ≤ cu) (hu2 : cu ≤ 9223372036854775807) (hp : chkA P = 0) (hr : chkA R = 0) (hse : setErr u 32 = 0) (hz : decide ((minS R.al P.al).length = 0) = false) :
  Calls Tryd.prog 46 #[.agg #[.slice A na ca, .int .i64 P.st, .slice M nm cm, .slice E ne ce], .agg #[.slice A' na' ca', .int .i64 R.st, .slice M' nm' cm', .slice E' ne' ce'], .slice U nu cu] w fun e w' => e = .returned (.tuple #[.pointer none, .int .i64 (9)]) ∧ Below w.heap.size w w' := by
 have HZ := Lib.hid hz; clear hz
 have HPZ := Lib.hid hp; clear hp
 have HRZ := Lib.hid hr; clear hr
 have HSE := Lib.hid hse; clear hse
 obtain ⟨sp, hsp⟩ : ∃ s, P.st = s := ⟨_, rfl⟩
 obtain ⟨sr, hsr⟩ : ∃ s, R.st = s := ⟨_, rfl⟩
 rw [hsp, hsr]
 have hb1 := box_below w (.cells #[.slice A na ca, .int .i64 sp, .slice M nm cm, .slice E ne ce] 25)
 have hb2 := hb1.alloc hb1.size (.cells #[.slice A' na' ca', .int .i64 sr, .slice M' nm' cm', .slice E' ne' ce'] 25)
 have hb3 := hb2.alloc hb2.size (.cells #[.slice A na ca, .int .i64 sp, .slice M nm cm, .slice E ne ce, .slice A' na' ca', .int .i64 sr, .slice M' nm' cm', .slice E' ne' ce'] 25)
 obtain ⟨w1, hw1⟩ : ∃ w1, w1 = ((w.alloc (.cells #[.slice A na ca, .int .i64 sp, .slice M nm cm, .slice E ne ce] 25)).alloc (.cells #[.slice A' na' ca', .int .i64 sr, .slice M' nm' cm', .slice E' ne' ce'] 25)).alloc (.cells #[.slice A na ca, .int .i64 sp, .slice M nm cm, .slice E ne ce, .slice A' na' ca', .int .i64 sr, .slice M' nm' cm', .slice E' ne' ce'] 25) := ⟨_, rfl⟩
 have hs1 : w1.heap.size = w.heap.size + 3 := by rw [hw1]; simp
 have kP : Blk w1 w.heap.size 25 [.slice A na ca, .int .i64 sp, .slice M nm cm, .slice E ne ce] := by rw [hw1]; exact ((Blk.new _ _ [_, _, _, _]).al _).al _
 have kR : Blk w1 (w.heap.size + 1) 25 [.slice A' na' ca', .int .i64 sr, .slice M' nm' cm', .slice E' ne' ce'] := by rw [hw1]; exact (Blk.at_ _ _ [_, _, _, _] (by simp)).al _
 have kL : Blk w1 (w.heap.size + 2) 25 [.slice A na ca, .int .i64 sp, .slice M nm cm, .slice E ne ce, .slice A' na' ca', .int .i64 sr, .slice M' nm' cm', .slice E' ne' ce'] := by rw [hw1]; exact Blk.at_ _ _ [_, _, _, _, _, _, _, _] (by simp)
 rw [← hw1] at hb3
 have hx1 := (hx.below hb3).more hb3.size
 have hy1 := (hy.below hb3).more hb3.size
 have hu1 := (hu.below hb3).more hb3.size
 have HSP := Lib.hid hsp; clear hsp
 have HSR := Lib.hid hsr; clear hsr
 have HW1 := Lib.hid hw1; clear hw1
 have HS1 := Lib.hid hs1; clear hs1
 have KP := Lib.hid kP; clear kP
 have KR := Lib.hid kR; clear kR
 have KL := Lib.hid kL; clear kL
 have HB1 := Lib.hid hb3; clear hb3
 have HX := Lib.hid hx1; clear hx1
 have HY := Lib.hid hy1; clear hy1
 have HU := Lib.hid hu1; clear hu1
 have HUL := Lib.hid hul; clear hul
 clear hb1 hb2 hx hy hu
 go_enter Tryd.func46, Tryd.ntmps46
 go_wp2
 rw [← HW1.out]
 go_loopw [19] (fun s19 wr => ∃ k : Nat, s19 = .int .i64 k ∧ k ≤ 2 ∧ (1 ≤ k → Hid (chkA P = 0)) ∧ (2 ≤ k → Hid (chkA R = 0)) ∧ Below w1.heap.size w1 wr) (fun s19 _ => 2 - (intOf s19).toNat)
 case atStart => exact ⟨0, rfl, by omega, fun h => by omega, fun h => by omega, Below.refl _ _⟩
 case round =>
  obtain ⟨k, rfl, hk, H1, H2, hbel⟩ := hrel
  have hsz := hbel.size
  have kl := KL.out.below hbel KL.out.lt
  have hkk : k = 0 ∨ k = 1 ∨ k = 2 := by omega
  rcases hkk with rfl | rfl | rfl
  ·have c0 := kl.cell (j := 0) rfl
   have c1 := kl.cell (j := 1) rfl
   have c2 := kl.cell (j := 2) rfl
   have c3 := kl.cell (j := 3) rfl
   have hba := box_below wr (.cells #[.slice A na ca, .int .i64 sp, .slice M nm cm, .slice E ne ce] 25)
   have hbx := hbel.trans (hba.mono hsz)
   have HC := Lib.hid (automaton_Check A na ca M nm cm E ne ce P (wr.alloc (.cells #[.slice A na ca, .int .i64 sp, .slice M nm cm, .slice E ne ce] 25)) ((HX.out.below hbx).more hbx.size))
   rw [HSP.out] at HC
   have HBX := Lib.hid hbx; clear hbx
   clear kl hba
   rw [HPZ.out] at HC
   go_wp2_with fail
   refine HC.out.mono ?_
   rintro e w5 ⟨rfl, hb5⟩
   have hb := HBX.out.trans (hb5.mono HBX.out.size)
   clear c0 c1 c2 c3 hb5
   go_wp2
   go_roundw
   case rel => exact ⟨1, by go_num, by omega, fun _ => HPZ, fun h => by omega, hb⟩
   case measure => simp [intOf]
  ·have hcp := (H1 (by omega)).out
   have c0 := kl.cell (j := 4) rfl
   have c1 := kl.cell (j := 5) rfl
   have c2 := kl.cell (j := 6) rfl
   have c3 := kl.cell (j := 7) rfl
   have hba := box_below wr (.cells #[.slice A' na' ca', .int .i64 sr, .slice M' nm' cm', .slice E' ne' ce'] 25)
   have hbx := hbel.trans (hba.mono hsz)
   have HC := Lib.hid (automaton_Check A' na' ca' M' nm' cm' E' ne' ce' R (wr.alloc (.cells #[.slice A' na' ca', .int .i64 sr, .slice M' nm' cm', .slice E' ne' ce'] 25)) ((HY.out.below hbx).more hbx.size))
   rw [HSR.out] at HC
   have HBX := Lib.hid hbx; clear hbx
   have HCP := Lib.hid hcp; clear hcp
   clear kl hba H1 H2
   rw [HRZ.out] at HC
   go_wp2_with fail
   refine HC.out.mono ?_
   rintro e w5 ⟨rfl, hb5⟩
   have hb := HBX.out.trans (hb5.mono HBX.out.size)
   clear c0 c1 c2 c3 hb5
   go_wp2
   go_roundw
   case rel => exact ⟨2, by go_num, by omega, fun _ => HCP, fun _ => HRZ, hb⟩
   case measure => simp [intOf]
  ·have hcp := (H1 (by omega)).out
   have hcr := (H2 (by omega)).out
   have HCP := Lib.hid hcp; clear hcp
   have HCR := Lib.hid hcr; clear hcr
   clear kl H1 H2
   have HCS := Lib.hid (alphabet_CheckSet_n U cu nu u 32 (setErr u 32) wr HUL.out rfl ((HU.out.below hbel).more hsz) hu1 hu2)
   rw [HSE.out] at HCS
   have hwp := chkA_wf HCP.out
   have hwr := chkA_wf HCR.out
   have HXR := (HX.out.below hbel).more hsz
   have HYR := (HY.out.below hbel).more hsz
   have lp := hwp.al_le
   have lr := hwr.al_le
   rw [HXR.la] at lp
   rw [HYR.la] at lr
   have HSUB := Lib.hid (alphabet_Subset A' A na' na ca' ca R.al P.al false wr HYR.la HYR.ra HYR.ac HYR.cA HXR.la HXR.ra HXR.ac HXR.cA (by omega) hwr.inc hwp.inc HZ.out)
   have r0 := (KR.out.below hbel KR.out.lt).cell (j := 0) rfl
   have p0 := (KP.out.below hbel KP.out.lt).cell (j := 0) rfl
   clear HXR HYR hwp hwr lp lr
   go_wp2_with fail
   refine HCS.out.mono ?_
   rintro e w5 ⟨rfl, rfl⟩
   go_wp2_with fail
   refine HSUB.out.mono ?_
   rintro e w6 ⟨rfl, hb6⟩
   have hbel6 := hbel.trans (hb6.mono hsz)
   clear r0 p0 hb6 hbel hsz
   have HFI := Lib.hid (HB1.out.trans (hbel6.mono HB1.out.size))
   clear hbel6
   go_wp2
   go_ret2
   exact ⟨rfl, HFI.out⟩
set_option maxRecDepth 100000 in
set_option maxHeartbeats 3200000 in
theorem open_ok (A M E A' M' E' : Option Addr) (na ca nm cm ne ce na' ca' nm' cm' ne' ce' : Nat) (P R : Aut) (U : Option Addr) (cu nu : Nat) (u : List Int) (w : World) (hx : AutR w w.heap.size A na ca M nm cm E ne ce P) (hy : AutR w w.heap.size A' na' ca' M' nm' cm' E' ne' ce' R)
  (hul : u.length = nu) (hu : RdI w w.heap.size U u) (hu1 : nu ≤ cu) (hu2 : cu ≤ 9223372036854775807) (hp : chkA P = 0) (hr : chkA R = 0) (hse : setErr u 32 = 0) (hz : decide ((minS R.al P.al).length = 0) = true)
  (hst : ∀ a ∈ [P, R], a.st ≤ 100) (p : Aut) (T : List (List Int)) (hsy : synR [P, R] = some (p, T)) :
  Calls Tryd.prog 46 #[.agg #[.slice A na ca, .int .i64 P.st, .slice M nm cm, .slice E ne ce], .agg #[.slice A' na' ca', .int .i64 R.st, .slice M' nm' cm', .slice E' ne' ce'], .slice U nu cu] w fun e w' => ∃ b v, e = .returned (.tuple #[.pointer (some ⟨b, 0, none⟩), .int .i64 0]) ∧ w.heap.size ≤ b ∧ PrbR w' b v P R (intS u P.al) p T ∧ Below w.heap.size w w' := by
 have hcl : chkL [P, R] = 0 := by simp [chkL, chkLG, hp, hr]
 have HZ := Lib.hid hz; clear hz
 have HPZ := Lib.hid hp; clear hp
 have HRZ := Lib.hid hr; clear hr
 have HSE := Lib.hid hse; clear hse
 have HST := Lib.hid hst; clear hst
 have HSY := Lib.hid hsy; clear hsy
 have HCL := Lib.hid hcl; clear hcl
 obtain ⟨sp, hsp⟩ : ∃ s, P.st = s := ⟨_, rfl⟩
 obtain ⟨sr, hsr⟩ : ∃ s, R.st = s := ⟨_, rfl⟩
 rw [hsp, hsr]
 have hb1 := box_below w (.cells #[.slice A na ca, .int .i64 sp, .slice M nm cm, .slice E ne ce] 25)
 have hb2 := hb1.alloc hb1.size (.cells #[.slice A' na' ca', .int .i64 sr, .slice M' nm' cm', .slice E' ne' ce'] 25)
 have hb3 := hb2.alloc hb2.size (.cells #[.slice A na ca, .int .i64 sp, .slice M nm cm, .slice E ne ce, .slice A' na' ca', .int .i64 sr, .slice M' nm' cm', .slice E' ne' ce'] 25)
 obtain ⟨w1, hw1⟩ : ∃ w1, w1 = ((w.alloc (.cells #[.slice A na ca, .int .i64 sp, .slice M nm cm, .slice E ne ce] 25)).alloc (.cells #[.slice A' na' ca', .int .i64 sr, .slice M' nm' cm', .slice E' ne' ce'] 25)).alloc (.cells #[.slice A na ca, .int .i64 sp, .slice M nm cm, .slice E ne ce, .slice A' na' ca', .int .i64 sr, .slice M' nm' cm', .slice E' ne' ce'] 25) := ⟨_, rfl⟩
 have hs1 : w1.heap.size = w.heap.size + 3 := by rw [hw1]; simp
 have kP : Blk w1 w.heap.size 25 [.slice A na ca, .int .i64 sp, .slice M nm cm, .slice E ne ce] := by rw [hw1]; exact ((Blk.new _ _ [_, _, _, _]).al _).al _
 have kR : Blk w1 (w.heap.size + 1) 25 [.slice A' na' ca', .int .i64 sr, .slice M' nm' cm', .slice E' ne' ce'] := by rw [hw1]; exact (Blk.at_ _ _ [_, _, _, _] (by simp)).al _
 have kL : Blk w1 (w.heap.size + 2) 25 [.slice A na ca, .int .i64 sp, .slice M nm cm, .slice E ne ce, .slice A' na' ca', .int .i64 sr, .slice M' nm' cm', .slice E' ne' ce'] := by rw [hw1]; exact Blk.at_ _ _ [_, _, _, _, _, _, _, _] (by simp)
 rw [← hw1] at hb3
 have hx1 := (hx.below hb3).more hb3.size
 have hy1 := (hy.below hb3).more hb3.size
 have hu1 := (hu.below hb3).more hb3.size
 have HSP := Lib.hid hsp; clear hsp
 have HSR := Lib.hid hsr; clear hsr
 have HW1 := Lib.hid hw1; clear hw1
 have HS1 := Lib.hid hs1; clear hs1
 have KP := Lib.hid kP; clear kP
 have KR := Lib.hid kR; clear kR
 have KL := Lib.hid kL; clear kL
 have HB1 := Lib.hid hb3; clear hb3
 have HX := Lib.hid hx1; clear hx1
 have HY := Lib.hid hy1; clear hy1
 have HU := Lib.hid hu1; clear hu1
 have HUL := Lib.hid hul; clear hul
 clear hb1 hb2 hx hy hu
 go_enter Tryd.func46, Tryd.ntmps46
 go_wp2
 rw [← HW1.out]
 go_loopw [19] (fun s19 wr => ∃ k : Nat, s19 = .int .i64 k ∧ k ≤ 2 ∧ (1 ≤ k → Hid (chkA P = 0)) ∧ (2 ≤ k → Hid (chkA R = 0)) ∧ Below w1.heap.size w1 wr) (fun s19 _ => 2 - (intOf s19).toNat)
 case atStart => exact ⟨0, rfl, by omega, fun h => by omega, fun h => by omega, Below.refl _ _⟩
 case round =>
  obtain ⟨k, rfl, hk, H1, H2, hbel⟩ := hrel
  have hsz := hbel.size
  have kl := KL.out.below hbel KL.out.lt
  have hkk : k = 0 ∨ k = 1 ∨ k = 2 := by omega
  rcases hkk with rfl | rfl | rfl
  ·have c0 := kl.cell (j := 0) rfl
   have c1 := kl.cell (j := 1) rfl
   have c2 := kl.cell (j := 2) rfl
   have c3 := kl.cell (j := 3) rfl
   have hba := box_below wr (.cells #[.slice A na ca, .int .i64 sp, .slice M nm cm, .slice E ne ce] 25)
   have hbx := hbel.trans (hba.mono hsz)
   have HC := Lib.hid (automaton_Check A na ca M nm cm E ne ce P (wr.alloc (.cells #[.slice A na ca, .int .i64 sp, .slice M nm cm, .slice E ne ce] 25)) ((HX.out.below hbx).more hbx.size))
   rw [HSP.out] at HC
   have HBX := Lib.hid hbx; clear hbx
   clear kl hba
   rw [HPZ.out] at HC
   go_wp2_with fail
   refine HC.out.mono ?_
   rintro e w5 ⟨rfl, hb5⟩
   have hb := HBX.out.trans (hb5.mono HBX.out.size)
   clear c0 c1 c2 c3 hb5
   go_wp2
   go_roundw
   case rel => exact ⟨1, by go_num, by omega, fun _ => HPZ, fun h => by omega, hb⟩
   case measure => simp [intOf]
  ·have hcp := (H1 (by omega)).out
   have c0 := kl.cell (j := 4) rfl
   have c1 := kl.cell (j := 5) rfl
   have c2 := kl.cell (j := 6) rfl
   have c3 := kl.cell (j := 7) rfl
   have hba := box_below wr (.cells #[.slice A' na' ca', .int .i64 sr, .slice M' nm' cm', .slice E' ne' ce'] 25)
   have hbx := hbel.trans (hba.mono hsz)
   have HC := Lib.hid (automaton_Check A' na' ca' M' nm' cm' E' ne' ce' R (wr.alloc (.cells #[.slice A' na' ca', .int .i64 sr, .slice M' nm' cm', .slice E' ne' ce'] 25)) ((HY.out.below hbx).more hbx.size))
   rw [HSR.out] at HC
   have HBX := Lib.hid hbx; clear hbx
   have HCP := Lib.hid hcp; clear hcp
   clear kl hba H1 H2
   rw [HRZ.out] at HC
   go_wp2_with fail
   refine HC.out.mono ?_
   rintro e w5 ⟨rfl, hb5⟩
   have hb := HBX.out.trans (hb5.mono HBX.out.size)
   clear c0 c1 c2 c3 hb5
   go_wp2
   go_roundw
   case rel => exact ⟨2, by go_num, by omega, fun _ => HCP, fun _ => HRZ, hb⟩
   case measure => simp [intOf]
  ·have hcp := (H1 (by omega)).out
   have hcr := (H2 (by omega)).out
   have HCP := Lib.hid hcp; clear hcp
   have HCR := Lib.hid hcr; clear hcr
   clear kl H1 H2
   have HCS := Lib.hid (alphabet_CheckSet_n U cu nu u 32 (setErr u 32) wr HUL.out rfl ((HU.out.below hbel).more hsz) hu1 hu2)
   rw [HSE.out] at HCS
   have hwp := chkA_wf HCP.out
   have hwr := chkA_wf HCR.out
   have HXR := (HX.out.below hbel).more hsz
   have HYR := (HY.out.below hbel).more hsz
   have lp := hwp.al_le
   have lr := hwr.al_le
   rw [HXR.la] at lp
   rw [HYR.la] at lr
   have HSUB := Lib.hid (alphabet_Subset A' A na' na ca' ca R.al P.al true wr HYR.la HYR.ra HYR.ac HYR.cA HXR.la HXR.ra HXR.ac HXR.cA (by omega) hwr.inc hwp.inc HZ.out)
   have r0 := (KR.out.below hbel KR.out.lt).cell (j := 0) rfl
   have p0 := (KP.out.below hbel KP.out.lt).cell (j := 0) rfl
   clear HXR HYR hwp hwr lp lr
   go_wp2_with fail
   refine HCS.out.mono ?_
   rintro e w5 ⟨rfl, rfl⟩
   go_wp2_with fail
   refine HSUB.out.mono ?_
   rintro e w6 ⟨rfl, hb6⟩
   have hbel6 := hbel.trans (hb6.mono hsz)
   clear r0 p0 hb6 hbel hsz
   have kl6 := KL.out.below hbel6 KL.out.lt
   have kP6 := KP.out.below hbel6 KP.out.lt
   have kR6 := KR.out.below hbel6 KR.out.lt
   have p0 := kP6.cell (j := 0) rfl
   have p1 := kP6.cell (j := 1) rfl
   have p2 := kP6.cell (j := 2) rfl
   have p3 := kP6.cell (j := 3) rfl
   have r0 := kR6.cell (j := 0) rfl
   have r1 := kR6.cell (j := 1) rfl
   have r2 := kR6.cell (j := 2) rfl
   have r3 := kR6.cell (j := 3) rfl
   have HXR := (HX.out.below hbel6).more hbel6.size
   have HYR := (HY.out.below hbel6).more hbel6.size
   have hb7 := box_below w6 (.cells #[.slice A na ca, .int .i64 sp, .slice M nm cm, .slice E ne ce, .slice A' na' ca', .int .i64 sr, .slice M' nm' cm', .slice E' ne' ce'] 25)
   have hB7 := hbel6.trans (hb7.mono hbel6.size)
   have kL7 : Blk (w6.alloc (.cells #[.slice A na ca, .int .i64 sp, .slice M nm cm, .slice E ne ce, .slice A' na' ca', .int .i64 sr, .slice M' nm' cm', .slice E' ne' ce'] 25)) w6.heap.size 25 [.slice A na ca, .int .i64 sp, .slice M nm cm, .slice E ne ce, .slice A' na' ca', .int .i64 sr, .slice M' nm' cm', .slice E' ne' ce'] := Blk.new _ _ _
   have hRL := two_rdl (x := ⟨A, na, ca, M, nm, cm, E, ne, ce, P⟩) (y := ⟨A', na', ca', M', nm', cm', E', ne', ce', R⟩) (by unfold avc; rw [HSP.out, HSR.out]; exact kL7) ((HX.out.below hB7).more hB7.size) ((HY.out.below hB7).more hB7.size)
   have HC := Lib.hid (product_Synchronous _ 2 2 _ _ rfl hRL (Nat.le_refl _) (by omega) (by rw [show List.map AV.a [⟨A, na, ca, M, nm, cm, E, ne, ce, P⟩, ⟨A', na', ca', M', nm', cm', E', ne', ce', R⟩] = [P, R] from rfl]; exact HCL.out) (by rw [show List.map AV.a [⟨A, na, ca, M, nm, cm, E, ne, ce, P⟩, ⟨A', na', ca', M', nm', cm', E', ne', ce', R⟩] = [P, R] from rfl]; exact HST.out))
   rw [show List.map AV.a [⟨A, na, ca, M, nm, cm, E, ne, ce, P⟩, ⟨A', na', ca', M', nm', cm', E', ne', ce', R⟩] = [P, R] from rfl, HSY.out] at HC
   have HB7 := Lib.hid hB7; clear hB7
   clear hb7 kL7 hRL HXR HYR kl6 kP6 kR6 hbel6
   go_wp2_with fail
   refine HC.out.mono ?_
   rintro e w8 ⟨hb8, A2, na2, ca2, M2, nm2, cm2, E2, ne2, ce2, B2, nb2, cb2, ts, rfl, ha2, hts, htl, htc, htc2, htt, _⟩
   have HB8 := Lib.hid (HB7.out.trans (hb8.mono HB7.out.size))
   clear p0 p1 p2 p3 r0 r1 r2 r3 HC hb8
   go_upto_region 16 with fail
   have hb9 := box_below w8 (.cells #[.slice A2 na2 ca2, .int .i64 p.st, .slice M2 nm2 cm2, .slice E2 ne2 ce2] 25)
   have k9 : Blk (w8.alloc (.cells #[.slice A2 na2 ca2, .int .i64 p.st, .slice M2 nm2 cm2, .slice E2 ne2 ce2] 25)) w8.heap.size 25 [.slice A2 na2 ca2, .int .i64 p.st, .slice M2 nm2 cm2, .slice E2 ne2 ce2] := Blk.new _ _ _
   have ha2 := (AutR.below ha2 hb9).more hb9.size
   have hts := (hts.below hb9).more hb9.size
   have HB9 := Lib.hid (HB8.out.trans (hb9.mono HB8.out.size))
   have h8 : w.heap.size ≤ w8.heap.size := by have := HB8.out.size; have := HB1.out.size; omega
   generalize (w8.alloc (.cells #[.slice A2 na2 ca2, .int .i64 p.st, .slice M2 nm2 cm2, .slice E2 ne2 ce2] 25)) = w9 at hb9 k9 ha2 hts HB9 ⊢
   generalize w8.heap.size = b8 at k9 h8 ⊢
   have hdr := below_dr w9
   have HB9 := Lib.hid (HB9.out.trans (hdr.mono HB9.out.size))
   have k9 := k9.below hdr k9.lt
   have ha2 := (AutR.below ha2 hdr).more hdr.size
   have hts := (hts.below hdr).more hdr.size
   clear hb9 HB8 HB7
   obtain ⟨ps, hps⟩ : ∃ s, p.st = s := ⟨_, rfl⟩
   have hpsR := hps
   rw [hps] at k9 ⊢
   have HPS := Lib.hid hpsR; clear hpsR
   clear hps
   have HWP := Lib.hid (chkA_wf HCP.out)
   have HWR := Lib.hid (chkA_wf HCR.out)
   have HIU := Lib.hid (setErr_inc HSE.out)
   go_wp2
   refine wp_region_U (fun W => (W.cell? ⟨w.heap.size, 0, none⟩ = some (.slice A na ca) ∧ W.cell? ⟨w.heap.size, 1, none⟩ = some (.int .i64 sp) ∧ W.cell? ⟨w.heap.size, 2, none⟩ = some (.slice M nm cm) ∧ W.cell? ⟨w.heap.size, 3, none⟩ = some (.slice E ne ce)) ∧ (W.cell? ⟨w.heap.size + 1, 0, none⟩ = some (.slice A' na' ca') ∧ W.cell? ⟨w.heap.size + 1, 1, none⟩ = some (.int .i64 sr) ∧ W.cell? ⟨w.heap.size + 1, 2, none⟩ = some (.slice M' nm' cm') ∧ W.cell? ⟨w.heap.size + 1, 3, none⟩ = some (.slice E' ne' ce')) ∧ (W.cell? ⟨b8, 0, none⟩ = some (.slice A2 na2 ca2) ∧ W.cell? ⟨b8, 1, none⟩ = some (.int .i64 ps) ∧ W.cell? ⟨b8, 2, none⟩ = some (.slice M2 nm2 cm2) ∧ W.cell? ⟨b8, 3, none⟩ = some (.slice E2 ne2 ce2))) (fun _ => True) 15 (by kernel_rfl) ?_
   change anyU _ _ _ _ _ _ _ 16 _ _ _
   have hB0 : True := trivial
   generalize w9.drew = wd at hdr HB9 k9 ha2 hts ⊢
   clear hdr
   have K9 := Lib.hid k9; clear k9
   have HA2 := Lib.hid ha2; clear ha2
   have HTS := Lib.hid hts; clear hts
   have H8 := Lib.hid h8; clear h8
   have HAT := Lib.hid (fun (W : World) (hb : Below wd.heap.size wd W) => by
    have hB := HB9.out.trans (hb.mono HB9.out.size)
    have kp := KP.out.below hB KP.out.lt
    have kr := KR.out.below hB KR.out.lt
    have kz := K9.out.below hb K9.out.lt
    exact (show (W.cell? ⟨w.heap.size, 0, none⟩ = some (.slice A na ca) ∧ W.cell? ⟨w.heap.size, 1, none⟩ = some (.int .i64 sp) ∧ W.cell? ⟨w.heap.size, 2, none⟩ = some (.slice M nm cm) ∧ W.cell? ⟨w.heap.size, 3, none⟩ = some (.slice E ne ce)) ∧ (W.cell? ⟨w.heap.size + 1, 0, none⟩ = some (.slice A' na' ca') ∧ W.cell? ⟨w.heap.size + 1, 1, none⟩ = some (.int .i64 sr) ∧ W.cell? ⟨w.heap.size + 1, 2, none⟩ = some (.slice M' nm' cm') ∧ W.cell? ⟨w.heap.size + 1, 3, none⟩ = some (.slice E' ne' ce')) ∧ (W.cell? ⟨b8, 0, none⟩ = some (.slice A2 na2 ca2) ∧ W.cell? ⟨b8, 1, none⟩ = some (.int .i64 ps) ∧ W.cell? ⟨b8, 2, none⟩ = some (.slice M2 nm2 cm2) ∧ W.cell? ⟨b8, 3, none⟩ = some (.slice E2 ne2 ce2)) from ⟨⟨kp.cell (j := 0) rfl, kp.cell (j := 1) rfl, kp.cell (j := 2) rfl, kp.cell (j := 3) rfl⟩, ⟨kr.cell (j := 0) rfl, kr.cell (j := 1) rfl, kr.cell (j := 2) rfl, kr.cell (j := 3) rfl⟩, ⟨kz.cell (j := 0) rfl, kz.cell (j := 1) rfl, kz.cell (j := 2) rfl, kz.cell (j := 3) rfl⟩⟩))
   have hA0 := HAT.out wd (Below.refl _ _)
   have HPX := Lib.hid ((HX.out.below HB9.out).more HB9.out.size)
   have HPY := Lib.hid ((HY.out.below HB9.out).more HB9.out.size)
   have HPU := Lib.hid ((HU.out.below HB9.out).more HB9.out.size)
   have HS1 := Lib.hid (ctl_steps A na ca M nm cm E ne ce P wd HPX.out HWP.out)
   rw [HSP.out] at HS1
   (refine uA 0 ?_ rfl hA0 hB0 (fun W hA => ?_) ?_; rotate_left; (· (obtain ⟨⟨a0, a1, a2, a3⟩, _, _⟩ := hA; go_simp; try with_reducible rfl)); (try simp only [Act.put, List.setIfInBounds_toArray, List.set_cons_zero, List.set_cons_succ]))
   (refine uA 2 ?_ rfl hA0 hB0 (fun W hA => ?_) ?_; rotate_left; (· (obtain ⟨_, ⟨a0, a1, a2, a3⟩, _⟩ := hA; go_simp; try with_reducible rfl)); (try simp only [Act.put, List.setIfInBounds_toArray, List.set_cons_zero, List.set_cons_succ]))
   (refine uA 4 ?_ rfl hA0 hB0 (fun W hA => ?_) ?_; rotate_left; (· (go_simp; try with_reducible rfl)); (try simp only [Act.put, List.setIfInBounds_toArray, List.set_cons_zero, List.set_cons_succ]))
   (refine uA 5 ?_ rfl hA0 hB0 (fun W hA => ?_) ?_; rotate_left; (· (obtain ⟨_, ⟨a0, a1, a2, a3⟩, _⟩ := hA; go_simp; try with_reducible rfl)); (try simp only [Act.put, List.setIfInBounds_toArray, List.set_cons_zero, List.set_cons_succ]))
   (refine uA 6 ?_ rfl hA0 hB0 (fun W hA => ?_) ?_; rotate_left; (· (go_simp; try with_reducible rfl)); refine uA 7 ?_ rfl hA0 hB0 (fun W hA => ?_) ?_; rotate_left; (· (go_simp; try with_reducible rfl)); (try simp only [Act.put, List.setIfInBounds_toArray, List.set_cons_zero, List.set_cons_succ]))
   (refine uA 8 ?_ rfl hA0 hB0 (fun W hA => ?_) ?_; rotate_left; (· (obtain ⟨⟨a0, a1, a2, a3⟩, _, _⟩ := hA; go_simp; try with_reducible rfl)); (try simp only [Act.put, List.setIfInBounds_toArray, List.set_cons_zero, List.set_cons_succ]))
   (refine uA 10 ?_ rfl hA0 hB0 (fun W hA => ?_) ?_; rotate_left; (· (obtain ⟨_, _, ⟨a0, a1, a2, a3⟩⟩ := hA; go_simp; try with_reducible rfl)); (try simp only [Act.put, List.setIfInBounds_toArray, List.set_cons_zero, List.set_cons_succ]))
   (refine uA 11 ?_ rfl hA0 hB0 (fun W hA => ?_) ?_; rotate_left; (· (go_simp; try with_reducible rfl)); (try simp only [Act.put, List.setIfInBounds_toArray, List.set_cons_zero, List.set_cons_succ]))
   refine uOne (i := 1) rfl (by kernel_rfl) (fun K hK => ?_)
   go_simp
   go_at_call 83
   refine HS1.out.mono ?_
   rintro e w10 ⟨b1, m1, rfl, hq1, ht1, hb10⟩
   have hA1 := HAT.out _ hb10
   (refine hK _ _ ⟨hA1, fun _ => hB0⟩ ?_; clear hK K; (try simp only [Act.put, List.setIfInBounds_toArray, List.set_cons_zero, List.set_cons_succ]))
   have HPX2 := Lib.hid ((HPX.out.below hb10).more hb10.size)
   have HPU2 := Lib.hid ((HPU.out.below hb10).more hb10.size)
   have HS2 := Lib.hid (ctl_steps A' na' ca' M' nm' cm' E' ne' ce' R w10 ((HPY.out.below hb10).more hb10.size) HWR.out)
   rw [HSR.out] at HS2
   clear hA0 hA1 HS1
   have HB10 := Lib.hid hb10; clear hb10
   have HT1 := Lib.hid ht1; clear ht1
   refine uOne (i := 3) rfl (by kernel_rfl) (fun K hK => ?_)
   go_simp
   go_at_call 83
   refine HS2.out.mono ?_
   rintro e w11 ⟨b2, m2, rfl, hq2, ht2, hb11⟩
   have HB11 := Lib.hid (HB10.out.trans (hb11.mono HB10.out.size))
   have hA1 := HAT.out _ HB11.out
   (refine hK _ _ ⟨hA1, fun _ => hB0⟩ ?_; clear hK K; (try simp only [Act.put, List.setIfInBounds_toArray, List.set_cons_zero, List.set_cons_succ]))
   have HT1 := Lib.hid (TabI.below HT1.out hb11 (TabI.lt HT1.out))
   have HIN := Lib.hid ((alphabet_Intersect U A nu na cu ca u P.al w11 HUL.out ((HPU2.out.below hb11).more hb11.size) hu1 hu2 HPX2.out.la ((HPX2.out.ra.below hb11).more hb11.size) HPX2.out.ac HPX2.out.cA (by have h1 := HWP.out.al_le; rw [HPX2.out.la] at h1; have h2 := inc_len (n := 32) HIU.out.1 HIU.out.2; rw [HUL.out] at h2; omega) HIU.out.1 HWP.out.inc).mono fun _ _ h => RetO.ret h)
   clear hA1 HS2 hb11 HB10 HPU HPU2
   have HT2 := Lib.hid ht2; clear ht2
   refine uOne (i := 9) rfl (by kernel_rfl) (fun K hK => ?_)
   go_simp
   go_at_call 63
   refine HIN.out.mono ?_
   rintro e w12 ⟨A3, c3, rfl, hc1, hc2, hr3, hb12⟩
   have HB12 := Lib.hid (HB11.out.trans (hb12.mono HB11.out.size))
   have hA0 := HAT.out _ HB12.out
   (refine hK _ _ ⟨hA0, fun _ => hB0⟩ ?_; clear hK K; (try simp only [Act.put, List.setIfInBounds_toArray, List.set_cons_zero, List.set_cons_succ]))
   have HT1 := Lib.hid (TabI.below HT1.out hb12 (TabI.lt HT1.out))
   have HT2 := Lib.hid (TabI.below HT2.out hb12 (TabI.lt HT2.out))
   clear HIN hb12 HB11
   have HR3 := Lib.hid hr3; clear hr3
   (refine uA 12 ?_ rfl hA0 hB0 (fun W hA => ?_) ?_; rotate_left; (· (go_simp; try with_reducible rfl)); (try simp only [Act.put, List.setIfInBounds_toArray, List.set_cons_zero, List.set_cons_succ]))
   have hb13 := box_below w12 (.cells #[.map (some b1), .map (some b2), .slice A' na' ca', .slice A3 (intS u P.al).length c3, .slice A2 na2 ca2, .int .i64 ps, .slice M2 nm2 cm2, .slice E2 ne2 ce2, .slice B2 nb2 cb2] 89)
   have HB13 := Lib.hid (HB12.out.trans (hb13.mono HB12.out.size))
   have hA1 := HAT.out _ HB13.out
   have HP := Lib.hid (show PrbR (w12.alloc (.cells #[.map (some b1), .map (some b2), .slice A' na' ca', .slice A3 (intS u P.al).length c3, .slice A2 na2 ca2, .int .i64 ps, .slice M2 nm2 cm2, .slice E2 ne2 ce2, .slice B2 nb2 cb2] 89)) w12.heap.size ⟨b1, m1, b2, m2, A', na', ca', A3, (intS u P.al).length, c3, ⟨A2, na2, ca2, M2, nm2, cm2, E2, ne2, ce2, p⟩, B2, nb2, cb2, ts⟩ P R (intS u P.al) p T from by
    refine ⟨?_, TabI.below HT1.out hb13 (TabI.lt HT1.out), TabI.below HT2.out hb13 (TabI.lt HT2.out), (HPY.out.ra.below HB13.out).more HB13.out.size, HPY.out.la, ⟨HPY.out.ac, HPY.out.cA⟩, (HR3.out.below hb13).more hb13.size, rfl, ⟨hc1, hc2⟩, AutR.more (AutR.below HA2.out HB13.out) HB13.out.size, rfl, (HTS.out.below HB13.out).more HB13.out.size, htl, ⟨htc, htc2⟩, htt⟩
    unfold pvc
    dsimp only
    rw [HPS.out]
    exact Blk.new _ _ [_, _, _, _, _, _, _, _, _])
   have HFI := Lib.hid (HB1.out.trans ((HB9.out.trans (HB13.out.mono HB9.out.size)).mono HB1.out.size))
   have HSZ := Lib.hid (show w.heap.size ≤ w12.heap.size from by have h1 := HB12.out.size; have h2 := HB9.out.size; have h3 := HB1.out.size; omega)
   clear hA0 hb13 HT1 HT2 HPX HPY HPX2
   refine uOne (i := 13) rfl (by kernel_rfl) (fun K hK => ?_)
   go_simp
   (refine hK _ _ ⟨hA1, fun _ => hB0⟩ ?_; clear hK K; (try simp only [Act.put, List.setIfInBounds_toArray, List.set_cons_zero, List.set_cons_succ]))
   refine uOne (i := 14) rfl (by kernel_rfl) (fun K hK => ?_)
   go_simp
   (refine hK _ _ ⟨hA1, fun _ => hB0⟩ ?_; clear hK K; (try simp only [Act.put, List.setIfInBounds_toArray, List.set_cons_zero, List.set_cons_succ]))
   refine uOne (i := 15) rfl (by kernel_rfl) (fun K hK => ?_)
   go_simp
   (refine hK _ _ ⟨hA1, fun h => absurd (h.symm.trans (by kernel_rfl : _ = true)) Bool.false_ne_true⟩ ?_; clear hK K; (try simp only [Act.put, List.setIfInBounds_toArray, List.set_cons_zero, List.set_cons_succ]))
   refine anyU_done (by kernel_rfl) ?_ _
   clear hA1
   go_wp2
   go_ret2
   exact ⟨_, _, rfl, HSZ.out, HP.out, HFI.out⟩
end Go.Proofs.YtcchnibgehonoaaDoor

/- Walks: (*problem).refused. -/
namespace Go.Proofs.YtcchnibgehonoaaDoor
open Go.RowKit Go Go.Maps

/-- is an event refused at a pair of states -/
def refB (P R : Aut) (s r u : Int) : Bool := (lkE s u P.ed).isSome && (!(lkE r u R.ed).isSome && hasB R.al u)
/-- the first event of a list that is refused; -1 if none -/
def refF (P R : Aut) (s r : Int) : List Int → Int
 | [] => -1
 | u :: l => if refB P R s r u = true then u else refF P R s r l
theorem refF_hit {P R : Aut} {s r u : Int} {l : List Int} {k : Nat} (h : l[k]? = some u) (hb : refB P R s r u = true) : refF P R s r (l.drop k) = u := by
 rw [drop_cons' h]; simp [refF, hb]
theorem refF_go {P R : Aut} {s r u : Int} {l : List Int} {k : Nat} (h : l[k]? = some u) (hb : refB P R s r u = false) : refF P R s r (l.drop k) = refF P R s r (l.drop (k + 1)) := by
 rw [drop_cons' h]; simp [refF, hb]
theorem refF_end {P R : Aut} {s r : Int} {l : List Int} {k : Nat} (h : ¬ k < l.length) : refF P R s r (l.drop k) = -1 := by
 rw [List.drop_of_length_le (by omega)]; rfl

theorem TabI.run_ok {α : Type} {P : Program} {K E : TypeId} {key : α → Value} {w : World} {b n : Nat} {g : α → Option Int} {t : TypeId} (h : TabI P K E key w b n g) (KK : Keyed P K) (ht : P.underlying t = some (.map K E)) (he : P.underlying E = some (.int .i64)) (hz : (zeroValue E).run P w = .ok (.int .i64 0) w)
  (c : α) (hk : ∃ kl, keyOf P K (key c) = some kl) (y : Option Int) (hy : g c = y) : (Instr.lookup t (.map (some b)) (key c) true).run P w = .ok (.tuple #[.int .i64 (y.getD 0), .bool y.isSome]) w := by
 subst hy
 obtain ⟨D, h1, h2⟩ := h
 obtain ⟨kl, hkl⟩ := hk
 obtain ⟨h3, h4⟩ := h2 c kl hkl
 obtain ⟨v, ps, hrun, hv⟩ := h1.look_ok KK ht hz (plainElem_int he (by decide) : plainElem P E (.int .i64 0) = some (.lit (.int .i64 0), [])) hkl
 obtain ⟨z, rfl, hc, _⟩ := plainElem_int_inv he hv
 have hc := congrArg Prod.fst hc
 dsimp only at hc
 rw [hrun, h3]
 cases hg : g c with
 | none =>
  rw [hg] at h3
  rw [Maps.atKey_of_not_has h3] at hc
  simp only [DataW.lit.injEq, Lit.int.injEq, true_and] at hc
  rw [← hc]; rfl
 | some y =>
  rw [h4 y hg] at hc
  simp only [DataW.lit.injEq, Lit.int.injEq, true_and] at hc
  rw [← hc]; rfl
theorem exec_lookup {P : Program} {o : Oper} {a : Act} {m x : Operand} {t : TypeId} {v : Value} {w : World} (hop : o.op = Op.lookup t m x true) (hr : (Instr.lookup t (a.eval m) (a.eval x) true).run P w = .ok v w) : (execOp a.eval o).run P w = .ok (.value v) w := by
 simp [execOp, hop, hr, Result.andThen]


set_option maxRecDepth 100000 in
set_option maxHeartbeats 3200000 in
theorem problem_refused (b : Nat) (v : PV) (P R p : Aut) (U : List Int) (T : List (List Int)) (k : Nat) (s r : Int) (w : World) (h : PrbR w b v P R U p T) (hwr : WF R) (hT : T[k]? = some [s, r]) (hs : 0 ≤ s ∧ s ≤ 4096) (hr : 0 ≤ r ∧ r ≤ 4096) (hU : ∀ u ∈ U, 0 ≤ u ∧ u < 32) :
  Calls Tryd.prog 47 #[.pointer (some ⟨b, 0, none⟩), .int .i64 k] w fun e w' => e = .returned (.int .i64 (refF P R s r U)) ∧ Below w.heap.size w w' := by
 obtain ⟨mp, np, mr, nr, RA, nra, cra, UA, nu, cu, x, TB, nt, ct, ts⟩ := v
 obtain ⟨blk, tp, tr, ra, rl, rc, ua, ul, uc, xo, xa, hts, tl, tc, tt⟩ := h
 dsimp only at tp tr ra rl rc ua ul uc xo xa hts tl tc tt
 simp only [pvc] at blk
 have c3 := blk.cell (j := 3) rfl
 have hkt : k < nt := by
  have := (List.getElem?_eq_some_iff.1 hT).1
  rw [← tt, List.length_map, tl] at this
  exact this
 have htg : ∀ sl : SlV, ts[k]? = some sl → sl.l = [s, r] := fun sl h => by
  rw [← tt, List.getElem?_map, h] at hT
  simpa using hT
 have BLK := Lib.hid blk; clear blk
 have HTP := Lib.hid tp; clear tp
 have HTR := Lib.hid tr; clear tr
 have RAR := Lib.hid ra; clear ra
 have RL := Lib.hid rl; clear rl
 have RC := Lib.hid rc; clear rc
 have UAR := Lib.hid ua; clear ua
 have UL := Lib.hid ul; clear ul
 have HTS := Lib.hid hts; clear hts
 have TL := Lib.hid tl; clear tl
 have HKT := Lib.hid hkt; clear hkt
 have HTG := Lib.hid htg; clear htg
 have HUR := Lib.hid hU; clear hU
 have HWR := Lib.hid hwr; clear hwr
 clear xo xa tt hT
 obtain ⟨ta, sl, rfl, htb, hsl, hct, hsr, hs1, hs2⟩ := HTS.out.at_ (k := k) (by have := HKT.out; have := TL.out; omega)
 have hll : sl.l = [s, r] := HTG.out sl hsl
 obtain ⟨A5, c5, l5⟩ := sl
 dsimp only at hll hct hsr hs1 hs2
 subst hll
 obtain ⟨a5, y0, rfl, h5b, hy0, d0⟩ := hsr.at_ (k := 0) (by simp)
 obtain ⟨a6, y1, e6, _, hy1, d1⟩ := hsr.at_ (k := 1) (by simp)
 injection e6 with e6; subst e6
 obtain rfl : s = y0 := by simpa using hy0
 obtain rfl : r = y1 := by simpa using hy1
 have i0 : (k : Int) < (nt : Int) := by have := HKT.out; omega
 have HAT := Lib.hid (fun (W : World) (hb : Below w.heap.size w W) => by
  have kb := BLK.out.below hb BLK.out.lt
  exact (show W.cell? ⟨b, 0, none⟩ = some (.map (some mp)) ∧ W.cell? ⟨b, 1, none⟩ = some (.map (some mr)) ∧ W.cell? ⟨b, 8, none⟩ = some (.slice (some ta) nt ct) ∧ W.cell? (ta.add k) = some (.slice (some a5) 2 c5) ∧ W.cell? a5 = some (.int .i64 s) ∧ W.cell? ⟨a5.block, a5.off + 1, none⟩ = some (.int .i64 r) ∧ TabE W mp np P.ed ∧ TabE W mr nr R.ed from ⟨kb.cell (j := 0) rfl, kb.cell (j := 1) rfl, kb.cell (j := 8) rfl, (hb.cell (p := ta.add k) (by rw [block_of_add]; exact htb)).trans hct, (hb.cell (p := a5) h5b).trans d0, (hb.cell (p := ⟨a5.block, a5.off + 1, none⟩) h5b).trans (st_cells (j := 0) d1), TabI.below HTP.out hb (TabI.lt HTP.out), TabI.below HTR.out hb (TabI.lt HTR.out)⟩))
 clear hy0 hy1 hsl hsr hs1 hs2 hct d0 d1
 go_enter Tryd.func47, Tryd.ntmps47
 go_wp2
 go_loopw [16] (fun s16 wi => ∃ q : Nat, q ≤ nu ∧ s16 = .int .i64 q ∧ Hid (Below w.heap.size w wi) ∧ Hid (refF P R s r U = refF P R s r (U.drop q))) (fun s16 _ => nu - (intOf s16).toNat)
 case atStart => exact ⟨0, Nat.zero_le _, rfl, Lib.hid (Below.refl _ _), Lib.hid (by rw [List.drop_zero])⟩
 case round =>
  obtain ⟨q, hq, rfl, HB, HF⟩ := hrel
  by_cases hql : q < nu
  ·obtain ⟨ua, u, rfl, hub, hu, hcu⟩ := (UAR.out.below HB.out).at_ (k := q) (by have := UL.out; omega)
   have c1 : (q : Int) < (nu : Int) := by omega
   have hur := HUR.out u (List.mem_of_getElem? hu)
   have HKP := Lib.hid (pairKey wr s u (WalkArith.wf_i64 (by omega)) (WalkArith.wf_i64 (by omega)))
   have HKR := Lib.hid (pairKey wr r u (WalkArith.wf_i64 (by omega)) (WalkArith.wf_i64 (by omega)))
   have HQU := Lib.hid hu; clear hu
   rcases hlp : lkE s u P.ed with _ | y
   ·have hb : refB P R s r u = false := by unfold refB; rw [hlp]; rfl
    have HLP := Lib.hid hlp; clear hlp
    have HF2 := Lib.hid (HF.out.trans (refF_go HQU.out hb))
    clear hb HF
    rcases hlr : lkE r u R.ed with _ | z
    ·have HLR := Lib.hid hlr; clear hlr
     go_upto_region 4 with fail
     refine wp_region_U (fun W => W.cell? ⟨b, 0, none⟩ = some (.map (some mp)) ∧ W.cell? ⟨b, 1, none⟩ = some (.map (some mr)) ∧ W.cell? ⟨b, 8, none⟩ = some (.slice (some ta) nt ct) ∧ W.cell? (ta.add k) = some (.slice (some a5) 2 c5) ∧ W.cell? a5 = some (.int .i64 s) ∧ W.cell? ⟨a5.block, a5.off + 1, none⟩ = some (.int .i64 r) ∧ TabE W mp np P.ed ∧ TabE W mr nr R.ed) (fun _ => True) 20 (by kernel_rfl) ?_
     change anyU _ _ _ _ _ _ _ 21 _ _ _
     have hB0 : True := trivial
     have HB4 := Lib.hid (HB.out.trans ((below_dr wr).mono HB.out.size))
     generalize (wr).drew = w4 at HB4 ⊢
     have hA0 := HAT.out w4 HB4.out
     (refine uA 0 ?_ rfl hA0 hB0 (fun W hA => ?_) ?_; rotate_left; (· (obtain ⟨a0, a1, a2, a3, a4, a5, _, _⟩ := hA; go_simp; try with_reducible rfl)); refine uA 1 ?_ rfl hA0 hB0 (fun W hA => ?_) ?_; rotate_left; (· (obtain ⟨a0, a1, a2, a3, a4, a5, _, _⟩ := hA; go_simp; try with_reducible rfl)); refine uA 2 ?_ rfl hA0 hB0 (fun W hA => ?_) ?_; rotate_left; (· (obtain ⟨a0, a1, a2, a3, a4, a5, _, _⟩ := hA; go_simp; try with_reducible rfl)); refine uA 3 ?_ rfl hA0 hB0 (fun W hA => ?_) ?_; rotate_left; (· (obtain ⟨a0, a1, a2, a3, a4, a5, _, _⟩ := hA; go_simp; try with_reducible rfl)); refine uA 4 ?_ rfl hA0 hB0 (fun W hA => ?_) ?_; rotate_left; (· (obtain ⟨a0, a1, a2, a3, a4, a5, _, _⟩ := hA; go_simp; try with_reducible rfl)); refine uA 5 ?_ rfl hA0 hB0 (fun W hA => ?_) ?_; rotate_left; (· (obtain ⟨a0, a1, a2, a3, a4, a5, _, _⟩ := hA; go_simp; try with_reducible rfl)); refine uA 6 ?_ rfl hA0 hB0 (fun W hA => ?_) ?_; rotate_left; (· (obtain ⟨a0, a1, a2, a3, a4, a5, _, _⟩ := hA; go_simp; try with_reducible rfl)); refine uA 7 ?_ rfl hA0 hB0 (fun W hA => ?_) ?_; rotate_left; (· (obtain ⟨a0, a1, a2, a3, a4, a5, _, _⟩ := hA; go_simp; try with_reducible rfl)); refine uA 8 ?_ rfl hA0 hB0 (fun W hA => ?_) ?_; rotate_left; (· (obtain ⟨a0, a1, a2, a3, a4, a5, _, _⟩ := hA; go_simp; try with_reducible rfl)); refine uA 9 ?_ rfl hA0 hB0 (fun W hA => ?_) ?_; rotate_left; (· (obtain ⟨a0, a1, a2, a3, a4, a5, _, _⟩ := hA; go_simp; try with_reducible rfl)); refine uA 10 ?_ rfl hA0 hB0 (fun W hA => ?_) ?_; rotate_left; (· (obtain ⟨a0, a1, a2, a3, a4, a5, _, _⟩ := hA; go_simp; try with_reducible rfl)); refine uA 11 ?_ rfl hA0 hB0 (fun W hA => ?_) ?_; rotate_left; (· (obtain ⟨a0, a1, a2, a3, a4, a5, _, _⟩ := hA; go_simp; try with_reducible rfl)); refine uA 12 ?_ rfl hA0 hB0 (fun W hA => ?_) ?_; rotate_left; (· (obtain ⟨a0, a1, a2, a3, a4, a5, _, _⟩ := hA; go_simp; try with_reducible rfl)); refine uA 13 ?_ rfl hA0 hB0 (fun W hA => ?_) ?_; rotate_left; (· (obtain ⟨a0, a1, a2, a3, a4, a5, _, _⟩ := hA; go_simp; try with_reducible rfl)); refine uA 14 ?_ rfl hA0 hB0 (fun W hA => ?_) ?_; rotate_left; (· (obtain ⟨a0, a1, a2, a3, a4, a5, _, _⟩ := hA; go_simp; try with_reducible rfl)); (try simp only [Act.put, List.setIfInBounds_toArray, List.set_cons_zero, List.set_cons_succ]))
     refine uTake (i := 15) (v := .tuple #[.int .i64 (0), .bool false]) rfl (by kernel_rfl) (fun _ _ _ h => h) (by rfl) (fun W hA hB => ?_) ⟨hA0, fun _ => hB0⟩ ?_
     ·clear hB
      exact exec_lookup rfl (TabI.run_ok (t := 87) hA.2.2.2.2.2.2.1 pairLaw Tryd.underlying87 Tryd.underlying3 (zeroInt W) (s, u) HKP.out none HLP.out)
     (try simp only [Act.put, List.setIfInBounds_toArray, List.set_cons_zero, List.set_cons_succ])
     (refine uA 16 ?_ rfl hA0 hB0 (fun W hA => ?_) ?_; rotate_left; (· (go_simp; try with_reducible rfl)); refine uA 17 ?_ rfl hA0 hB0 (fun W hA => ?_) ?_; rotate_left; (· (go_simp; try with_reducible rfl)); refine uA 18 ?_ rfl hA0 hB0 (fun W hA => ?_) ?_; rotate_left; (· (go_simp; try with_reducible rfl)); (try simp only [Act.put, List.setIfInBounds_toArray, List.set_cons_zero, List.set_cons_succ]))
     refine uOne (i := 19) rfl (by kernel_rfl) (fun K hK => ?_)
     go_simp
     (refine hK _ _ ⟨hA0, fun _ => hB0⟩ ?_; clear hK K; (try simp only [Act.put, List.setIfInBounds_toArray, List.set_cons_zero, List.set_cons_succ]))
     refine uOne (i := 20) rfl (by kernel_rfl) (fun K hK => ?_)
     go_simp
     (refine hK _ _ ⟨hA0, fun h => absurd (h.symm.trans (by kernel_rfl : _ = true)) Bool.false_ne_true⟩ ?_; clear hK K; (try simp only [Act.put, List.setIfInBounds_toArray, List.set_cons_zero, List.set_cons_succ]))
     refine anyU_done (by kernel_rfl) ?_ _
     clear hA0 hB0
     go_upto_region 5 with fail
     refine wp_region_U (fun W => W.cell? ⟨b, 0, none⟩ = some (.map (some mp)) ∧ W.cell? ⟨b, 1, none⟩ = some (.map (some mr)) ∧ W.cell? ⟨b, 8, none⟩ = some (.slice (some ta) nt ct) ∧ W.cell? (ta.add k) = some (.slice (some a5) 2 c5) ∧ W.cell? a5 = some (.int .i64 s) ∧ W.cell? ⟨a5.block, a5.off + 1, none⟩ = some (.int .i64 r) ∧ TabE W mp np P.ed ∧ TabE W mr nr R.ed) (fun _ => True) 20 (by kernel_rfl) ?_
     change anyU _ _ _ _ _ _ _ 21 _ _ _
     have hB0 : True := trivial
     have HB5 := Lib.hid (HB4.out.trans ((below_dr w4).mono HB4.out.size))
     generalize (w4).drew = w5 at HB5 ⊢
     have hA0 := HAT.out w5 HB5.out
     (refine uA 0 ?_ rfl hA0 hB0 (fun W hA => ?_) ?_; rotate_left; (· (obtain ⟨a0, a1, a2, a3, a4, a5, _, _⟩ := hA; go_simp; try with_reducible rfl)); refine uA 1 ?_ rfl hA0 hB0 (fun W hA => ?_) ?_; rotate_left; (· (obtain ⟨a0, a1, a2, a3, a4, a5, _, _⟩ := hA; go_simp; try with_reducible rfl)); refine uA 2 ?_ rfl hA0 hB0 (fun W hA => ?_) ?_; rotate_left; (· (obtain ⟨a0, a1, a2, a3, a4, a5, _, _⟩ := hA; go_simp; try with_reducible rfl)); refine uA 3 ?_ rfl hA0 hB0 (fun W hA => ?_) ?_; rotate_left; (· (obtain ⟨a0, a1, a2, a3, a4, a5, _, _⟩ := hA; go_simp; try with_reducible rfl)); refine uA 4 ?_ rfl hA0 hB0 (fun W hA => ?_) ?_; rotate_left; (· (obtain ⟨a0, a1, a2, a3, a4, a5, _, _⟩ := hA; go_simp; try with_reducible rfl)); refine uA 5 ?_ rfl hA0 hB0 (fun W hA => ?_) ?_; rotate_left; (· (obtain ⟨a0, a1, a2, a3, a4, a5, _, _⟩ := hA; go_simp; try with_reducible rfl)); refine uA 6 ?_ rfl hA0 hB0 (fun W hA => ?_) ?_; rotate_left; (· (obtain ⟨a0, a1, a2, a3, a4, a5, _, _⟩ := hA; go_simp; try with_reducible rfl)); refine uA 7 ?_ rfl hA0 hB0 (fun W hA => ?_) ?_; rotate_left; (· (obtain ⟨a0, a1, a2, a3, a4, a5, _, _⟩ := hA; go_simp; try with_reducible rfl)); refine uA 8 ?_ rfl hA0 hB0 (fun W hA => ?_) ?_; rotate_left; (· (obtain ⟨a0, a1, a2, a3, a4, a5, _, _⟩ := hA; go_simp; try with_reducible rfl)); refine uA 9 ?_ rfl hA0 hB0 (fun W hA => ?_) ?_; rotate_left; (· (obtain ⟨a0, a1, a2, a3, a4, a5, _, _⟩ := hA; go_simp; try with_reducible rfl)); refine uA 10 ?_ rfl hA0 hB0 (fun W hA => ?_) ?_; rotate_left; (· (obtain ⟨a0, a1, a2, a3, a4, a5, _, _⟩ := hA; go_simp; try with_reducible rfl)); refine uA 11 ?_ rfl hA0 hB0 (fun W hA => ?_) ?_; rotate_left; (· (obtain ⟨a0, a1, a2, a3, a4, a5, _, _⟩ := hA; go_simp; try with_reducible rfl)); refine uA 12 ?_ rfl hA0 hB0 (fun W hA => ?_) ?_; rotate_left; (· (obtain ⟨a0, a1, a2, a3, a4, a5, _, _⟩ := hA; go_simp; try with_reducible rfl)); refine uA 13 ?_ rfl hA0 hB0 (fun W hA => ?_) ?_; rotate_left; (· (obtain ⟨a0, a1, a2, a3, a4, a5, _, _⟩ := hA; go_simp; try with_reducible rfl)); refine uA 14 ?_ rfl hA0 hB0 (fun W hA => ?_) ?_; rotate_left; (· (obtain ⟨a0, a1, a2, a3, a4, a5, _, _⟩ := hA; go_simp; try with_reducible rfl)); (try simp only [Act.put, List.setIfInBounds_toArray, List.set_cons_zero, List.set_cons_succ]))
     refine uTake (i := 15) (v := .tuple #[.int .i64 (0), .bool false]) rfl (by kernel_rfl) (fun _ _ _ h => h) (by rfl) (fun W hA hB => ?_) ⟨hA0, fun _ => hB0⟩ ?_
     ·clear hB
      exact exec_lookup rfl (TabI.run_ok (t := 87) hA.2.2.2.2.2.2.2 pairLaw Tryd.underlying87 Tryd.underlying3 (zeroInt W) (r, u) HKR.out none HLR.out)
     (try simp only [Act.put, List.setIfInBounds_toArray, List.set_cons_zero, List.set_cons_succ])
     (refine uA 16 ?_ rfl hA0 hB0 (fun W hA => ?_) ?_; rotate_left; (· (go_simp; try with_reducible rfl)); refine uA 17 ?_ rfl hA0 hB0 (fun W hA => ?_) ?_; rotate_left; (· (go_simp; try with_reducible rfl)); refine uA 18 ?_ rfl hA0 hB0 (fun W hA => ?_) ?_; rotate_left; (· (go_simp; try with_reducible rfl)); (try simp only [Act.put, List.setIfInBounds_toArray, List.set_cons_zero, List.set_cons_succ]))
     refine uOne (i := 19) rfl (by kernel_rfl) (fun K hK => ?_)
     go_simp
     (refine hK _ _ ⟨hA0, fun _ => hB0⟩ ?_; clear hK K; (try simp only [Act.put, List.setIfInBounds_toArray, List.set_cons_zero, List.set_cons_succ]))
     refine uOne (i := 20) rfl (by kernel_rfl) (fun K hK => ?_)
     go_simp
     (refine hK _ _ ⟨hA0, fun h => absurd (h.symm.trans (by kernel_rfl : _ = true)) Bool.false_ne_true⟩ ?_; clear hK K; (try simp only [Act.put, List.setIfInBounds_toArray, List.set_cons_zero, List.set_cons_succ]))
     refine anyU_done (by kernel_rfl) ?_ _
     clear hA0 hB0
     go_wp2
     go_roundw
     case rel => exact ⟨q + 1, by omega, by go_num, HB5, HF2⟩
     case measure => simp [intOf]; omega
    ·have HLR := Lib.hid hlr; clear hlr
     go_upto_region 4 with fail
     refine wp_region_U (fun W => W.cell? ⟨b, 0, none⟩ = some (.map (some mp)) ∧ W.cell? ⟨b, 1, none⟩ = some (.map (some mr)) ∧ W.cell? ⟨b, 8, none⟩ = some (.slice (some ta) nt ct) ∧ W.cell? (ta.add k) = some (.slice (some a5) 2 c5) ∧ W.cell? a5 = some (.int .i64 s) ∧ W.cell? ⟨a5.block, a5.off + 1, none⟩ = some (.int .i64 r) ∧ TabE W mp np P.ed ∧ TabE W mr nr R.ed) (fun _ => True) 20 (by kernel_rfl) ?_
     change anyU _ _ _ _ _ _ _ 21 _ _ _
     have hB0 : True := trivial
     have HB4 := Lib.hid (HB.out.trans ((below_dr wr).mono HB.out.size))
     generalize (wr).drew = w4 at HB4 ⊢
     have hA0 := HAT.out w4 HB4.out
     (refine uA 0 ?_ rfl hA0 hB0 (fun W hA => ?_) ?_; rotate_left; (· (obtain ⟨a0, a1, a2, a3, a4, a5, _, _⟩ := hA; go_simp; try with_reducible rfl)); refine uA 1 ?_ rfl hA0 hB0 (fun W hA => ?_) ?_; rotate_left; (· (obtain ⟨a0, a1, a2, a3, a4, a5, _, _⟩ := hA; go_simp; try with_reducible rfl)); refine uA 2 ?_ rfl hA0 hB0 (fun W hA => ?_) ?_; rotate_left; (· (obtain ⟨a0, a1, a2, a3, a4, a5, _, _⟩ := hA; go_simp; try with_reducible rfl)); refine uA 3 ?_ rfl hA0 hB0 (fun W hA => ?_) ?_; rotate_left; (· (obtain ⟨a0, a1, a2, a3, a4, a5, _, _⟩ := hA; go_simp; try with_reducible rfl)); refine uA 4 ?_ rfl hA0 hB0 (fun W hA => ?_) ?_; rotate_left; (· (obtain ⟨a0, a1, a2, a3, a4, a5, _, _⟩ := hA; go_simp; try with_reducible rfl)); refine uA 5 ?_ rfl hA0 hB0 (fun W hA => ?_) ?_; rotate_left; (· (obtain ⟨a0, a1, a2, a3, a4, a5, _, _⟩ := hA; go_simp; try with_reducible rfl)); refine uA 6 ?_ rfl hA0 hB0 (fun W hA => ?_) ?_; rotate_left; (· (obtain ⟨a0, a1, a2, a3, a4, a5, _, _⟩ := hA; go_simp; try with_reducible rfl)); refine uA 7 ?_ rfl hA0 hB0 (fun W hA => ?_) ?_; rotate_left; (· (obtain ⟨a0, a1, a2, a3, a4, a5, _, _⟩ := hA; go_simp; try with_reducible rfl)); refine uA 8 ?_ rfl hA0 hB0 (fun W hA => ?_) ?_; rotate_left; (· (obtain ⟨a0, a1, a2, a3, a4, a5, _, _⟩ := hA; go_simp; try with_reducible rfl)); refine uA 9 ?_ rfl hA0 hB0 (fun W hA => ?_) ?_; rotate_left; (· (obtain ⟨a0, a1, a2, a3, a4, a5, _, _⟩ := hA; go_simp; try with_reducible rfl)); refine uA 10 ?_ rfl hA0 hB0 (fun W hA => ?_) ?_; rotate_left; (· (obtain ⟨a0, a1, a2, a3, a4, a5, _, _⟩ := hA; go_simp; try with_reducible rfl)); refine uA 11 ?_ rfl hA0 hB0 (fun W hA => ?_) ?_; rotate_left; (· (obtain ⟨a0, a1, a2, a3, a4, a5, _, _⟩ := hA; go_simp; try with_reducible rfl)); refine uA 12 ?_ rfl hA0 hB0 (fun W hA => ?_) ?_; rotate_left; (· (obtain ⟨a0, a1, a2, a3, a4, a5, _, _⟩ := hA; go_simp; try with_reducible rfl)); refine uA 13 ?_ rfl hA0 hB0 (fun W hA => ?_) ?_; rotate_left; (· (obtain ⟨a0, a1, a2, a3, a4, a5, _, _⟩ := hA; go_simp; try with_reducible rfl)); refine uA 14 ?_ rfl hA0 hB0 (fun W hA => ?_) ?_; rotate_left; (· (obtain ⟨a0, a1, a2, a3, a4, a5, _, _⟩ := hA; go_simp; try with_reducible rfl)); (try simp only [Act.put, List.setIfInBounds_toArray, List.set_cons_zero, List.set_cons_succ]))
     refine uTake (i := 15) (v := .tuple #[.int .i64 (0), .bool false]) rfl (by kernel_rfl) (fun _ _ _ h => h) (by rfl) (fun W hA hB => ?_) ⟨hA0, fun _ => hB0⟩ ?_
     ·clear hB
      exact exec_lookup rfl (TabI.run_ok (t := 87) hA.2.2.2.2.2.2.1 pairLaw Tryd.underlying87 Tryd.underlying3 (zeroInt W) (s, u) HKP.out none HLP.out)
     (try simp only [Act.put, List.setIfInBounds_toArray, List.set_cons_zero, List.set_cons_succ])
     (refine uA 16 ?_ rfl hA0 hB0 (fun W hA => ?_) ?_; rotate_left; (· (go_simp; try with_reducible rfl)); refine uA 17 ?_ rfl hA0 hB0 (fun W hA => ?_) ?_; rotate_left; (· (go_simp; try with_reducible rfl)); refine uA 18 ?_ rfl hA0 hB0 (fun W hA => ?_) ?_; rotate_left; (· (go_simp; try with_reducible rfl)); (try simp only [Act.put, List.setIfInBounds_toArray, List.set_cons_zero, List.set_cons_succ]))
     refine uOne (i := 19) rfl (by kernel_rfl) (fun K hK => ?_)
     go_simp
     (refine hK _ _ ⟨hA0, fun _ => hB0⟩ ?_; clear hK K; (try simp only [Act.put, List.setIfInBounds_toArray, List.set_cons_zero, List.set_cons_succ]))
     refine uOne (i := 20) rfl (by kernel_rfl) (fun K hK => ?_)
     go_simp
     (refine hK _ _ ⟨hA0, fun h => absurd (h.symm.trans (by kernel_rfl : _ = true)) Bool.false_ne_true⟩ ?_; clear hK K; (try simp only [Act.put, List.setIfInBounds_toArray, List.set_cons_zero, List.set_cons_succ]))
     refine anyU_done (by kernel_rfl) ?_ _
     clear hA0 hB0
     go_upto_region 5 with fail
     refine wp_region_U (fun W => W.cell? ⟨b, 0, none⟩ = some (.map (some mp)) ∧ W.cell? ⟨b, 1, none⟩ = some (.map (some mr)) ∧ W.cell? ⟨b, 8, none⟩ = some (.slice (some ta) nt ct) ∧ W.cell? (ta.add k) = some (.slice (some a5) 2 c5) ∧ W.cell? a5 = some (.int .i64 s) ∧ W.cell? ⟨a5.block, a5.off + 1, none⟩ = some (.int .i64 r) ∧ TabE W mp np P.ed ∧ TabE W mr nr R.ed) (fun _ => True) 20 (by kernel_rfl) ?_
     change anyU _ _ _ _ _ _ _ 21 _ _ _
     have hB0 : True := trivial
     have HB5 := Lib.hid (HB4.out.trans ((below_dr w4).mono HB4.out.size))
     generalize (w4).drew = w5 at HB5 ⊢
     have hA0 := HAT.out w5 HB5.out
     (refine uA 0 ?_ rfl hA0 hB0 (fun W hA => ?_) ?_; rotate_left; (· (obtain ⟨a0, a1, a2, a3, a4, a5, _, _⟩ := hA; go_simp; try with_reducible rfl)); refine uA 1 ?_ rfl hA0 hB0 (fun W hA => ?_) ?_; rotate_left; (· (obtain ⟨a0, a1, a2, a3, a4, a5, _, _⟩ := hA; go_simp; try with_reducible rfl)); refine uA 2 ?_ rfl hA0 hB0 (fun W hA => ?_) ?_; rotate_left; (· (obtain ⟨a0, a1, a2, a3, a4, a5, _, _⟩ := hA; go_simp; try with_reducible rfl)); refine uA 3 ?_ rfl hA0 hB0 (fun W hA => ?_) ?_; rotate_left; (· (obtain ⟨a0, a1, a2, a3, a4, a5, _, _⟩ := hA; go_simp; try with_reducible rfl)); refine uA 4 ?_ rfl hA0 hB0 (fun W hA => ?_) ?_; rotate_left; (· (obtain ⟨a0, a1, a2, a3, a4, a5, _, _⟩ := hA; go_simp; try with_reducible rfl)); refine uA 5 ?_ rfl hA0 hB0 (fun W hA => ?_) ?_; rotate_left; (· (obtain ⟨a0, a1, a2, a3, a4, a5, _, _⟩ := hA; go_simp; try with_reducible rfl)); refine uA 6 ?_ rfl hA0 hB0 (fun W hA => ?_) ?_; rotate_left; (· (obtain ⟨a0, a1, a2, a3, a4, a5, _, _⟩ := hA; go_simp; try with_reducible rfl)); refine uA 7 ?_ rfl hA0 hB0 (fun W hA => ?_) ?_; rotate_left; (· (obtain ⟨a0, a1, a2, a3, a4, a5, _, _⟩ := hA; go_simp; try with_reducible rfl)); refine uA 8 ?_ rfl hA0 hB0 (fun W hA => ?_) ?_; rotate_left; (· (obtain ⟨a0, a1, a2, a3, a4, a5, _, _⟩ := hA; go_simp; try with_reducible rfl)); refine uA 9 ?_ rfl hA0 hB0 (fun W hA => ?_) ?_; rotate_left; (· (obtain ⟨a0, a1, a2, a3, a4, a5, _, _⟩ := hA; go_simp; try with_reducible rfl)); refine uA 10 ?_ rfl hA0 hB0 (fun W hA => ?_) ?_; rotate_left; (· (obtain ⟨a0, a1, a2, a3, a4, a5, _, _⟩ := hA; go_simp; try with_reducible rfl)); refine uA 11 ?_ rfl hA0 hB0 (fun W hA => ?_) ?_; rotate_left; (· (obtain ⟨a0, a1, a2, a3, a4, a5, _, _⟩ := hA; go_simp; try with_reducible rfl)); refine uA 12 ?_ rfl hA0 hB0 (fun W hA => ?_) ?_; rotate_left; (· (obtain ⟨a0, a1, a2, a3, a4, a5, _, _⟩ := hA; go_simp; try with_reducible rfl)); refine uA 13 ?_ rfl hA0 hB0 (fun W hA => ?_) ?_; rotate_left; (· (obtain ⟨a0, a1, a2, a3, a4, a5, _, _⟩ := hA; go_simp; try with_reducible rfl)); refine uA 14 ?_ rfl hA0 hB0 (fun W hA => ?_) ?_; rotate_left; (· (obtain ⟨a0, a1, a2, a3, a4, a5, _, _⟩ := hA; go_simp; try with_reducible rfl)); (try simp only [Act.put, List.setIfInBounds_toArray, List.set_cons_zero, List.set_cons_succ]))
     refine uTake (i := 15) (v := .tuple #[.int .i64 (z), .bool true]) rfl (by kernel_rfl) (fun _ _ _ h => h) (by rfl) (fun W hA hB => ?_) ⟨hA0, fun _ => hB0⟩ ?_
     ·clear hB
      exact exec_lookup rfl (TabI.run_ok (t := 87) hA.2.2.2.2.2.2.2 pairLaw Tryd.underlying87 Tryd.underlying3 (zeroInt W) (r, u) HKR.out (some z) HLR.out)
     (try simp only [Act.put, List.setIfInBounds_toArray, List.set_cons_zero, List.set_cons_succ])
     (refine uA 16 ?_ rfl hA0 hB0 (fun W hA => ?_) ?_; rotate_left; (· (go_simp; try with_reducible rfl)); refine uA 17 ?_ rfl hA0 hB0 (fun W hA => ?_) ?_; rotate_left; (· (go_simp; try with_reducible rfl)); refine uA 18 ?_ rfl hA0 hB0 (fun W hA => ?_) ?_; rotate_left; (· (go_simp; try with_reducible rfl)); (try simp only [Act.put, List.setIfInBounds_toArray, List.set_cons_zero, List.set_cons_succ]))
     refine uOne (i := 19) rfl (by kernel_rfl) (fun K hK => ?_)
     go_simp
     (refine hK _ _ ⟨hA0, fun _ => hB0⟩ ?_; clear hK K; (try simp only [Act.put, List.setIfInBounds_toArray, List.set_cons_zero, List.set_cons_succ]))
     refine uOne (i := 20) rfl (by kernel_rfl) (fun K hK => ?_)
     go_simp
     (refine hK _ _ ⟨hA0, fun h => absurd (h.symm.trans (by kernel_rfl : _ = true)) Bool.false_ne_true⟩ ?_; clear hK K; (try simp only [Act.put, List.setIfInBounds_toArray, List.set_cons_zero, List.set_cons_succ]))
     refine anyU_done (by kernel_rfl) ?_ _
     clear hA0 hB0
     go_wp2
     go_roundw
     case rel => exact ⟨q + 1, by omega, by go_num, HB5, HF2⟩
     case measure => simp [intOf]; omega
   ·rcases hlr : lkE r u R.ed with _ | z
    ·by_cases hbl : hasB R.al u = true
     ·have hb : refB P R s r u = true := by unfold refB; rw [hlp, hlr, hbl]; rfl
      have HF2 := Lib.hid (HF.out.trans (refF_hit HQU.out hb))
      clear hb HF
      have HLP := Lib.hid hlp; clear hlp
      have HLR := Lib.hid hlr; clear hlr
      have hal := HWR.out.al_le
      rw [RL.out] at hal
      go_upto_region 4 with fail
      refine wp_region_U (fun W => W.cell? ⟨b, 0, none⟩ = some (.map (some mp)) ∧ W.cell? ⟨b, 1, none⟩ = some (.map (some mr)) ∧ W.cell? ⟨b, 8, none⟩ = some (.slice (some ta) nt ct) ∧ W.cell? (ta.add k) = some (.slice (some a5) 2 c5) ∧ W.cell? a5 = some (.int .i64 s) ∧ W.cell? ⟨a5.block, a5.off + 1, none⟩ = some (.int .i64 r) ∧ TabE W mp np P.ed ∧ TabE W mr nr R.ed) (fun _ => True) 20 (by kernel_rfl) ?_
      change anyU _ _ _ _ _ _ _ 21 _ _ _
      have hB0 : True := trivial
      have HB4 := Lib.hid (HB.out.trans ((below_dr wr).mono HB.out.size))
      generalize (wr).drew = w4 at HB4 ⊢
      have hA0 := HAT.out w4 HB4.out
      (refine uA 0 ?_ rfl hA0 hB0 (fun W hA => ?_) ?_; rotate_left; (· (obtain ⟨a0, a1, a2, a3, a4, a5, _, _⟩ := hA; go_simp; try with_reducible rfl)); refine uA 1 ?_ rfl hA0 hB0 (fun W hA => ?_) ?_; rotate_left; (· (obtain ⟨a0, a1, a2, a3, a4, a5, _, _⟩ := hA; go_simp; try with_reducible rfl)); refine uA 2 ?_ rfl hA0 hB0 (fun W hA => ?_) ?_; rotate_left; (· (obtain ⟨a0, a1, a2, a3, a4, a5, _, _⟩ := hA; go_simp; try with_reducible rfl)); refine uA 3 ?_ rfl hA0 hB0 (fun W hA => ?_) ?_; rotate_left; (· (obtain ⟨a0, a1, a2, a3, a4, a5, _, _⟩ := hA; go_simp; try with_reducible rfl)); refine uA 4 ?_ rfl hA0 hB0 (fun W hA => ?_) ?_; rotate_left; (· (obtain ⟨a0, a1, a2, a3, a4, a5, _, _⟩ := hA; go_simp; try with_reducible rfl)); refine uA 5 ?_ rfl hA0 hB0 (fun W hA => ?_) ?_; rotate_left; (· (obtain ⟨a0, a1, a2, a3, a4, a5, _, _⟩ := hA; go_simp; try with_reducible rfl)); refine uA 6 ?_ rfl hA0 hB0 (fun W hA => ?_) ?_; rotate_left; (· (obtain ⟨a0, a1, a2, a3, a4, a5, _, _⟩ := hA; go_simp; try with_reducible rfl)); refine uA 7 ?_ rfl hA0 hB0 (fun W hA => ?_) ?_; rotate_left; (· (obtain ⟨a0, a1, a2, a3, a4, a5, _, _⟩ := hA; go_simp; try with_reducible rfl)); refine uA 8 ?_ rfl hA0 hB0 (fun W hA => ?_) ?_; rotate_left; (· (obtain ⟨a0, a1, a2, a3, a4, a5, _, _⟩ := hA; go_simp; try with_reducible rfl)); refine uA 9 ?_ rfl hA0 hB0 (fun W hA => ?_) ?_; rotate_left; (· (obtain ⟨a0, a1, a2, a3, a4, a5, _, _⟩ := hA; go_simp; try with_reducible rfl)); refine uA 10 ?_ rfl hA0 hB0 (fun W hA => ?_) ?_; rotate_left; (· (obtain ⟨a0, a1, a2, a3, a4, a5, _, _⟩ := hA; go_simp; try with_reducible rfl)); refine uA 11 ?_ rfl hA0 hB0 (fun W hA => ?_) ?_; rotate_left; (· (obtain ⟨a0, a1, a2, a3, a4, a5, _, _⟩ := hA; go_simp; try with_reducible rfl)); refine uA 12 ?_ rfl hA0 hB0 (fun W hA => ?_) ?_; rotate_left; (· (obtain ⟨a0, a1, a2, a3, a4, a5, _, _⟩ := hA; go_simp; try with_reducible rfl)); refine uA 13 ?_ rfl hA0 hB0 (fun W hA => ?_) ?_; rotate_left; (· (obtain ⟨a0, a1, a2, a3, a4, a5, _, _⟩ := hA; go_simp; try with_reducible rfl)); refine uA 14 ?_ rfl hA0 hB0 (fun W hA => ?_) ?_; rotate_left; (· (obtain ⟨a0, a1, a2, a3, a4, a5, _, _⟩ := hA; go_simp; try with_reducible rfl)); (try simp only [Act.put, List.setIfInBounds_toArray, List.set_cons_zero, List.set_cons_succ]))
      refine uTake (i := 15) (v := .tuple #[.int .i64 (y), .bool true]) rfl (by kernel_rfl) (fun _ _ _ h => h) (by rfl) (fun W hA hB => ?_) ⟨hA0, fun _ => hB0⟩ ?_
      ·clear hB
       exact exec_lookup rfl (TabI.run_ok (t := 87) hA.2.2.2.2.2.2.1 pairLaw Tryd.underlying87 Tryd.underlying3 (zeroInt W) (s, u) HKP.out (some y) HLP.out)
      (try simp only [Act.put, List.setIfInBounds_toArray, List.set_cons_zero, List.set_cons_succ])
      (refine uA 16 ?_ rfl hA0 hB0 (fun W hA => ?_) ?_; rotate_left; (· (go_simp; try with_reducible rfl)); refine uA 17 ?_ rfl hA0 hB0 (fun W hA => ?_) ?_; rotate_left; (· (go_simp; try with_reducible rfl)); refine uA 18 ?_ rfl hA0 hB0 (fun W hA => ?_) ?_; rotate_left; (· (go_simp; try with_reducible rfl)); (try simp only [Act.put, List.setIfInBounds_toArray, List.set_cons_zero, List.set_cons_succ]))
      refine uOne (i := 19) rfl (by kernel_rfl) (fun K hK => ?_)
      go_simp
      (refine hK _ _ ⟨hA0, fun _ => hB0⟩ ?_; clear hK K; (try simp only [Act.put, List.setIfInBounds_toArray, List.set_cons_zero, List.set_cons_succ]))
      refine uOne (i := 20) rfl (by kernel_rfl) (fun K hK => ?_)
      go_simp
      (refine hK _ _ ⟨hA0, fun h => absurd (h.symm.trans (by kernel_rfl : _ = true)) Bool.false_ne_true⟩ ?_; clear hK K; (try simp only [Act.put, List.setIfInBounds_toArray, List.set_cons_zero, List.set_cons_succ]))
      refine anyU_done (by kernel_rfl) ?_ _
      clear hA0 hB0
      go_upto_region 5 with fail
      refine wp_region_U (fun W => W.cell? ⟨b, 0, none⟩ = some (.map (some mp)) ∧ W.cell? ⟨b, 1, none⟩ = some (.map (some mr)) ∧ W.cell? ⟨b, 8, none⟩ = some (.slice (some ta) nt ct) ∧ W.cell? (ta.add k) = some (.slice (some a5) 2 c5) ∧ W.cell? a5 = some (.int .i64 s) ∧ W.cell? ⟨a5.block, a5.off + 1, none⟩ = some (.int .i64 r) ∧ TabE W mp np P.ed ∧ TabE W mr nr R.ed) (fun _ => True) 20 (by kernel_rfl) ?_
      change anyU _ _ _ _ _ _ _ 21 _ _ _
      have hB0 : True := trivial
      have HB5 := Lib.hid (HB4.out.trans ((below_dr w4).mono HB4.out.size))
      generalize (w4).drew = w5 at HB5 ⊢
      have hA0 := HAT.out w5 HB5.out
      (refine uA 0 ?_ rfl hA0 hB0 (fun W hA => ?_) ?_; rotate_left; (· (obtain ⟨a0, a1, a2, a3, a4, a5, _, _⟩ := hA; go_simp; try with_reducible rfl)); refine uA 1 ?_ rfl hA0 hB0 (fun W hA => ?_) ?_; rotate_left; (· (obtain ⟨a0, a1, a2, a3, a4, a5, _, _⟩ := hA; go_simp; try with_reducible rfl)); refine uA 2 ?_ rfl hA0 hB0 (fun W hA => ?_) ?_; rotate_left; (· (obtain ⟨a0, a1, a2, a3, a4, a5, _, _⟩ := hA; go_simp; try with_reducible rfl)); refine uA 3 ?_ rfl hA0 hB0 (fun W hA => ?_) ?_; rotate_left; (· (obtain ⟨a0, a1, a2, a3, a4, a5, _, _⟩ := hA; go_simp; try with_reducible rfl)); refine uA 4 ?_ rfl hA0 hB0 (fun W hA => ?_) ?_; rotate_left; (· (obtain ⟨a0, a1, a2, a3, a4, a5, _, _⟩ := hA; go_simp; try with_reducible rfl)); refine uA 5 ?_ rfl hA0 hB0 (fun W hA => ?_) ?_; rotate_left; (· (obtain ⟨a0, a1, a2, a3, a4, a5, _, _⟩ := hA; go_simp; try with_reducible rfl)); refine uA 6 ?_ rfl hA0 hB0 (fun W hA => ?_) ?_; rotate_left; (· (obtain ⟨a0, a1, a2, a3, a4, a5, _, _⟩ := hA; go_simp; try with_reducible rfl)); refine uA 7 ?_ rfl hA0 hB0 (fun W hA => ?_) ?_; rotate_left; (· (obtain ⟨a0, a1, a2, a3, a4, a5, _, _⟩ := hA; go_simp; try with_reducible rfl)); refine uA 8 ?_ rfl hA0 hB0 (fun W hA => ?_) ?_; rotate_left; (· (obtain ⟨a0, a1, a2, a3, a4, a5, _, _⟩ := hA; go_simp; try with_reducible rfl)); refine uA 9 ?_ rfl hA0 hB0 (fun W hA => ?_) ?_; rotate_left; (· (obtain ⟨a0, a1, a2, a3, a4, a5, _, _⟩ := hA; go_simp; try with_reducible rfl)); refine uA 10 ?_ rfl hA0 hB0 (fun W hA => ?_) ?_; rotate_left; (· (obtain ⟨a0, a1, a2, a3, a4, a5, _, _⟩ := hA; go_simp; try with_reducible rfl)); refine uA 11 ?_ rfl hA0 hB0 (fun W hA => ?_) ?_; rotate_left; (· (obtain ⟨a0, a1, a2, a3, a4, a5, _, _⟩ := hA; go_simp; try with_reducible rfl)); refine uA 12 ?_ rfl hA0 hB0 (fun W hA => ?_) ?_; rotate_left; (· (obtain ⟨a0, a1, a2, a3, a4, a5, _, _⟩ := hA; go_simp; try with_reducible rfl)); refine uA 13 ?_ rfl hA0 hB0 (fun W hA => ?_) ?_; rotate_left; (· (obtain ⟨a0, a1, a2, a3, a4, a5, _, _⟩ := hA; go_simp; try with_reducible rfl)); refine uA 14 ?_ rfl hA0 hB0 (fun W hA => ?_) ?_; rotate_left; (· (obtain ⟨a0, a1, a2, a3, a4, a5, _, _⟩ := hA; go_simp; try with_reducible rfl)); (try simp only [Act.put, List.setIfInBounds_toArray, List.set_cons_zero, List.set_cons_succ]))
      refine uTake (i := 15) (v := .tuple #[.int .i64 (0), .bool false]) rfl (by kernel_rfl) (fun _ _ _ h => h) (by rfl) (fun W hA hB => ?_) ⟨hA0, fun _ => hB0⟩ ?_
      ·clear hB
       exact exec_lookup rfl (TabI.run_ok (t := 87) hA.2.2.2.2.2.2.2 pairLaw Tryd.underlying87 Tryd.underlying3 (zeroInt W) (r, u) HKR.out none HLR.out)
      (try simp only [Act.put, List.setIfInBounds_toArray, List.set_cons_zero, List.set_cons_succ])
      (refine uA 16 ?_ rfl hA0 hB0 (fun W hA => ?_) ?_; rotate_left; (· (go_simp; try with_reducible rfl)); refine uA 17 ?_ rfl hA0 hB0 (fun W hA => ?_) ?_; rotate_left; (· (go_simp; try with_reducible rfl)); refine uA 18 ?_ rfl hA0 hB0 (fun W hA => ?_) ?_; rotate_left; (· (go_simp; try with_reducible rfl)); (try simp only [Act.put, List.setIfInBounds_toArray, List.set_cons_zero, List.set_cons_succ]))
      refine uOne (i := 19) rfl (by kernel_rfl) (fun K hK => ?_)
      go_simp
      (refine hK _ _ ⟨hA0, fun _ => hB0⟩ ?_; clear hK K; (try simp only [Act.put, List.setIfInBounds_toArray, List.set_cons_zero, List.set_cons_succ]))
      refine uOne (i := 20) rfl (by kernel_rfl) (fun K hK => ?_)
      go_simp
      (refine hK _ _ ⟨hA0, fun h => absurd (h.symm.trans (by kernel_rfl : _ = true)) Bool.false_ne_true⟩ ?_; clear hK K; (try simp only [Act.put, List.setIfInBounds_toArray, List.set_cons_zero, List.set_cons_succ]))
      refine anyU_done (by kernel_rfl) ?_ _
      clear hA0 hB0
      have b2 := (BLK.out.below HB5.out BLK.out.lt).cell (j := 2) rfl
      have HCN := Lib.hid (alphabet_Contains_n RA cra nra R.al u true w5 RL.out hbl ((RAR.out.below HB5.out).more HB5.out.size) (by omega) HWR.out.inc)
      go_wp2_with fail
      refine HCN.out.mono ?_
      rintro e w6 ⟨rfl, rfl⟩
      go_wp2
      go_ret
      exact ⟨congrArg (fun z => Ending.returned (.int .i64 z)) HF2.out.symm, HB5.out⟩
     ·have hbl : hasB R.al u = false := by simpa using hbl
      have hb : refB P R s r u = false := by unfold refB; rw [hlp, hlr, hbl]; rfl
      have HF2 := Lib.hid (HF.out.trans (refF_go HQU.out hb))
      clear hb HF
      have HLP := Lib.hid hlp; clear hlp
      have HLR := Lib.hid hlr; clear hlr
      have hal := HWR.out.al_le
      rw [RL.out] at hal
      go_upto_region 4 with fail
      refine wp_region_U (fun W => W.cell? ⟨b, 0, none⟩ = some (.map (some mp)) ∧ W.cell? ⟨b, 1, none⟩ = some (.map (some mr)) ∧ W.cell? ⟨b, 8, none⟩ = some (.slice (some ta) nt ct) ∧ W.cell? (ta.add k) = some (.slice (some a5) 2 c5) ∧ W.cell? a5 = some (.int .i64 s) ∧ W.cell? ⟨a5.block, a5.off + 1, none⟩ = some (.int .i64 r) ∧ TabE W mp np P.ed ∧ TabE W mr nr R.ed) (fun _ => True) 20 (by kernel_rfl) ?_
      change anyU _ _ _ _ _ _ _ 21 _ _ _
      have hB0 : True := trivial
      have HB4 := Lib.hid (HB.out.trans ((below_dr wr).mono HB.out.size))
      generalize (wr).drew = w4 at HB4 ⊢
      have hA0 := HAT.out w4 HB4.out
      (refine uA 0 ?_ rfl hA0 hB0 (fun W hA => ?_) ?_; rotate_left; (· (obtain ⟨a0, a1, a2, a3, a4, a5, _, _⟩ := hA; go_simp; try with_reducible rfl)); refine uA 1 ?_ rfl hA0 hB0 (fun W hA => ?_) ?_; rotate_left; (· (obtain ⟨a0, a1, a2, a3, a4, a5, _, _⟩ := hA; go_simp; try with_reducible rfl)); refine uA 2 ?_ rfl hA0 hB0 (fun W hA => ?_) ?_; rotate_left; (· (obtain ⟨a0, a1, a2, a3, a4, a5, _, _⟩ := hA; go_simp; try with_reducible rfl)); refine uA 3 ?_ rfl hA0 hB0 (fun W hA => ?_) ?_; rotate_left; (· (obtain ⟨a0, a1, a2, a3, a4, a5, _, _⟩ := hA; go_simp; try with_reducible rfl)); refine uA 4 ?_ rfl hA0 hB0 (fun W hA => ?_) ?_; rotate_left; (· (obtain ⟨a0, a1, a2, a3, a4, a5, _, _⟩ := hA; go_simp; try with_reducible rfl)); refine uA 5 ?_ rfl hA0 hB0 (fun W hA => ?_) ?_; rotate_left; (· (obtain ⟨a0, a1, a2, a3, a4, a5, _, _⟩ := hA; go_simp; try with_reducible rfl)); refine uA 6 ?_ rfl hA0 hB0 (fun W hA => ?_) ?_; rotate_left; (· (obtain ⟨a0, a1, a2, a3, a4, a5, _, _⟩ := hA; go_simp; try with_reducible rfl)); refine uA 7 ?_ rfl hA0 hB0 (fun W hA => ?_) ?_; rotate_left; (· (obtain ⟨a0, a1, a2, a3, a4, a5, _, _⟩ := hA; go_simp; try with_reducible rfl)); refine uA 8 ?_ rfl hA0 hB0 (fun W hA => ?_) ?_; rotate_left; (· (obtain ⟨a0, a1, a2, a3, a4, a5, _, _⟩ := hA; go_simp; try with_reducible rfl)); refine uA 9 ?_ rfl hA0 hB0 (fun W hA => ?_) ?_; rotate_left; (· (obtain ⟨a0, a1, a2, a3, a4, a5, _, _⟩ := hA; go_simp; try with_reducible rfl)); refine uA 10 ?_ rfl hA0 hB0 (fun W hA => ?_) ?_; rotate_left; (· (obtain ⟨a0, a1, a2, a3, a4, a5, _, _⟩ := hA; go_simp; try with_reducible rfl)); refine uA 11 ?_ rfl hA0 hB0 (fun W hA => ?_) ?_; rotate_left; (· (obtain ⟨a0, a1, a2, a3, a4, a5, _, _⟩ := hA; go_simp; try with_reducible rfl)); refine uA 12 ?_ rfl hA0 hB0 (fun W hA => ?_) ?_; rotate_left; (· (obtain ⟨a0, a1, a2, a3, a4, a5, _, _⟩ := hA; go_simp; try with_reducible rfl)); refine uA 13 ?_ rfl hA0 hB0 (fun W hA => ?_) ?_; rotate_left; (· (obtain ⟨a0, a1, a2, a3, a4, a5, _, _⟩ := hA; go_simp; try with_reducible rfl)); refine uA 14 ?_ rfl hA0 hB0 (fun W hA => ?_) ?_; rotate_left; (· (obtain ⟨a0, a1, a2, a3, a4, a5, _, _⟩ := hA; go_simp; try with_reducible rfl)); (try simp only [Act.put, List.setIfInBounds_toArray, List.set_cons_zero, List.set_cons_succ]))
      refine uTake (i := 15) (v := .tuple #[.int .i64 (y), .bool true]) rfl (by kernel_rfl) (fun _ _ _ h => h) (by rfl) (fun W hA hB => ?_) ⟨hA0, fun _ => hB0⟩ ?_
      ·clear hB
       exact exec_lookup rfl (TabI.run_ok (t := 87) hA.2.2.2.2.2.2.1 pairLaw Tryd.underlying87 Tryd.underlying3 (zeroInt W) (s, u) HKP.out (some y) HLP.out)
      (try simp only [Act.put, List.setIfInBounds_toArray, List.set_cons_zero, List.set_cons_succ])
      (refine uA 16 ?_ rfl hA0 hB0 (fun W hA => ?_) ?_; rotate_left; (· (go_simp; try with_reducible rfl)); refine uA 17 ?_ rfl hA0 hB0 (fun W hA => ?_) ?_; rotate_left; (· (go_simp; try with_reducible rfl)); refine uA 18 ?_ rfl hA0 hB0 (fun W hA => ?_) ?_; rotate_left; (· (go_simp; try with_reducible rfl)); (try simp only [Act.put, List.setIfInBounds_toArray, List.set_cons_zero, List.set_cons_succ]))
      refine uOne (i := 19) rfl (by kernel_rfl) (fun K hK => ?_)
      go_simp
      (refine hK _ _ ⟨hA0, fun _ => hB0⟩ ?_; clear hK K; (try simp only [Act.put, List.setIfInBounds_toArray, List.set_cons_zero, List.set_cons_succ]))
      refine uOne (i := 20) rfl (by kernel_rfl) (fun K hK => ?_)
      go_simp
      (refine hK _ _ ⟨hA0, fun h => absurd (h.symm.trans (by kernel_rfl : _ = true)) Bool.false_ne_true⟩ ?_; clear hK K; (try simp only [Act.put, List.setIfInBounds_toArray, List.set_cons_zero, List.set_cons_succ]))
      refine anyU_done (by kernel_rfl) ?_ _
      clear hA0 hB0
      go_upto_region 5 with fail
      refine wp_region_U (fun W => W.cell? ⟨b, 0, none⟩ = some (.map (some mp)) ∧ W.cell? ⟨b, 1, none⟩ = some (.map (some mr)) ∧ W.cell? ⟨b, 8, none⟩ = some (.slice (some ta) nt ct) ∧ W.cell? (ta.add k) = some (.slice (some a5) 2 c5) ∧ W.cell? a5 = some (.int .i64 s) ∧ W.cell? ⟨a5.block, a5.off + 1, none⟩ = some (.int .i64 r) ∧ TabE W mp np P.ed ∧ TabE W mr nr R.ed) (fun _ => True) 20 (by kernel_rfl) ?_
      change anyU _ _ _ _ _ _ _ 21 _ _ _
      have hB0 : True := trivial
      have HB5 := Lib.hid (HB4.out.trans ((below_dr w4).mono HB4.out.size))
      generalize (w4).drew = w5 at HB5 ⊢
      have hA0 := HAT.out w5 HB5.out
      (refine uA 0 ?_ rfl hA0 hB0 (fun W hA => ?_) ?_; rotate_left; (· (obtain ⟨a0, a1, a2, a3, a4, a5, _, _⟩ := hA; go_simp; try with_reducible rfl)); refine uA 1 ?_ rfl hA0 hB0 (fun W hA => ?_) ?_; rotate_left; (· (obtain ⟨a0, a1, a2, a3, a4, a5, _, _⟩ := hA; go_simp; try with_reducible rfl)); refine uA 2 ?_ rfl hA0 hB0 (fun W hA => ?_) ?_; rotate_left; (· (obtain ⟨a0, a1, a2, a3, a4, a5, _, _⟩ := hA; go_simp; try with_reducible rfl)); refine uA 3 ?_ rfl hA0 hB0 (fun W hA => ?_) ?_; rotate_left; (· (obtain ⟨a0, a1, a2, a3, a4, a5, _, _⟩ := hA; go_simp; try with_reducible rfl)); refine uA 4 ?_ rfl hA0 hB0 (fun W hA => ?_) ?_; rotate_left; (· (obtain ⟨a0, a1, a2, a3, a4, a5, _, _⟩ := hA; go_simp; try with_reducible rfl)); refine uA 5 ?_ rfl hA0 hB0 (fun W hA => ?_) ?_; rotate_left; (· (obtain ⟨a0, a1, a2, a3, a4, a5, _, _⟩ := hA; go_simp; try with_reducible rfl)); refine uA 6 ?_ rfl hA0 hB0 (fun W hA => ?_) ?_; rotate_left; (· (obtain ⟨a0, a1, a2, a3, a4, a5, _, _⟩ := hA; go_simp; try with_reducible rfl)); refine uA 7 ?_ rfl hA0 hB0 (fun W hA => ?_) ?_; rotate_left; (· (obtain ⟨a0, a1, a2, a3, a4, a5, _, _⟩ := hA; go_simp; try with_reducible rfl)); refine uA 8 ?_ rfl hA0 hB0 (fun W hA => ?_) ?_; rotate_left; (· (obtain ⟨a0, a1, a2, a3, a4, a5, _, _⟩ := hA; go_simp; try with_reducible rfl)); refine uA 9 ?_ rfl hA0 hB0 (fun W hA => ?_) ?_; rotate_left; (· (obtain ⟨a0, a1, a2, a3, a4, a5, _, _⟩ := hA; go_simp; try with_reducible rfl)); refine uA 10 ?_ rfl hA0 hB0 (fun W hA => ?_) ?_; rotate_left; (· (obtain ⟨a0, a1, a2, a3, a4, a5, _, _⟩ := hA; go_simp; try with_reducible rfl)); refine uA 11 ?_ rfl hA0 hB0 (fun W hA => ?_) ?_; rotate_left; (· (obtain ⟨a0, a1, a2, a3, a4, a5, _, _⟩ := hA; go_simp; try with_reducible rfl)); refine uA 12 ?_ rfl hA0 hB0 (fun W hA => ?_) ?_; rotate_left; (· (obtain ⟨a0, a1, a2, a3, a4, a5, _, _⟩ := hA; go_simp; try with_reducible rfl)); refine uA 13 ?_ rfl hA0 hB0 (fun W hA => ?_) ?_; rotate_left; (· (obtain ⟨a0, a1, a2, a3, a4, a5, _, _⟩ := hA; go_simp; try with_reducible rfl)); refine uA 14 ?_ rfl hA0 hB0 (fun W hA => ?_) ?_; rotate_left; (· (obtain ⟨a0, a1, a2, a3, a4, a5, _, _⟩ := hA; go_simp; try with_reducible rfl)); (try simp only [Act.put, List.setIfInBounds_toArray, List.set_cons_zero, List.set_cons_succ]))
      refine uTake (i := 15) (v := .tuple #[.int .i64 (0), .bool false]) rfl (by kernel_rfl) (fun _ _ _ h => h) (by rfl) (fun W hA hB => ?_) ⟨hA0, fun _ => hB0⟩ ?_
      ·clear hB
       exact exec_lookup rfl (TabI.run_ok (t := 87) hA.2.2.2.2.2.2.2 pairLaw Tryd.underlying87 Tryd.underlying3 (zeroInt W) (r, u) HKR.out none HLR.out)
      (try simp only [Act.put, List.setIfInBounds_toArray, List.set_cons_zero, List.set_cons_succ])
      (refine uA 16 ?_ rfl hA0 hB0 (fun W hA => ?_) ?_; rotate_left; (· (go_simp; try with_reducible rfl)); refine uA 17 ?_ rfl hA0 hB0 (fun W hA => ?_) ?_; rotate_left; (· (go_simp; try with_reducible rfl)); refine uA 18 ?_ rfl hA0 hB0 (fun W hA => ?_) ?_; rotate_left; (· (go_simp; try with_reducible rfl)); (try simp only [Act.put, List.setIfInBounds_toArray, List.set_cons_zero, List.set_cons_succ]))
      refine uOne (i := 19) rfl (by kernel_rfl) (fun K hK => ?_)
      go_simp
      (refine hK _ _ ⟨hA0, fun _ => hB0⟩ ?_; clear hK K; (try simp only [Act.put, List.setIfInBounds_toArray, List.set_cons_zero, List.set_cons_succ]))
      refine uOne (i := 20) rfl (by kernel_rfl) (fun K hK => ?_)
      go_simp
      (refine hK _ _ ⟨hA0, fun h => absurd (h.symm.trans (by kernel_rfl : _ = true)) Bool.false_ne_true⟩ ?_; clear hK K; (try simp only [Act.put, List.setIfInBounds_toArray, List.set_cons_zero, List.set_cons_succ]))
      refine anyU_done (by kernel_rfl) ?_ _
      clear hA0 hB0
      have b2 := (BLK.out.below HB5.out BLK.out.lt).cell (j := 2) rfl
      have HCN := Lib.hid (alphabet_Contains_n RA cra nra R.al u false w5 RL.out hbl ((RAR.out.below HB5.out).more HB5.out.size) (by omega) HWR.out.inc)
      go_wp2_with fail
      refine HCN.out.mono ?_
      rintro e w6 ⟨rfl, rfl⟩
      go_wp2
      go_roundw
      case rel => exact ⟨q + 1, by omega, by go_num, HB5, HF2⟩
      case measure => simp [intOf]; omega
    ·have hb : refB P R s r u = false := by unfold refB; rw [hlp, hlr]; rfl
     have HLP := Lib.hid hlp; clear hlp
     have HLR := Lib.hid hlr; clear hlr
     have HF2 := Lib.hid (HF.out.trans (refF_go HQU.out hb))
     clear hb HF
     go_upto_region 4 with fail
     refine wp_region_U (fun W => W.cell? ⟨b, 0, none⟩ = some (.map (some mp)) ∧ W.cell? ⟨b, 1, none⟩ = some (.map (some mr)) ∧ W.cell? ⟨b, 8, none⟩ = some (.slice (some ta) nt ct) ∧ W.cell? (ta.add k) = some (.slice (some a5) 2 c5) ∧ W.cell? a5 = some (.int .i64 s) ∧ W.cell? ⟨a5.block, a5.off + 1, none⟩ = some (.int .i64 r) ∧ TabE W mp np P.ed ∧ TabE W mr nr R.ed) (fun _ => True) 20 (by kernel_rfl) ?_
     change anyU _ _ _ _ _ _ _ 21 _ _ _
     have hB0 : True := trivial
     have HB4 := Lib.hid (HB.out.trans ((below_dr wr).mono HB.out.size))
     generalize (wr).drew = w4 at HB4 ⊢
     have hA0 := HAT.out w4 HB4.out
     (refine uA 0 ?_ rfl hA0 hB0 (fun W hA => ?_) ?_; rotate_left; (· (obtain ⟨a0, a1, a2, a3, a4, a5, _, _⟩ := hA; go_simp; try with_reducible rfl)); refine uA 1 ?_ rfl hA0 hB0 (fun W hA => ?_) ?_; rotate_left; (· (obtain ⟨a0, a1, a2, a3, a4, a5, _, _⟩ := hA; go_simp; try with_reducible rfl)); refine uA 2 ?_ rfl hA0 hB0 (fun W hA => ?_) ?_; rotate_left; (· (obtain ⟨a0, a1, a2, a3, a4, a5, _, _⟩ := hA; go_simp; try with_reducible rfl)); refine uA 3 ?_ rfl hA0 hB0 (fun W hA => ?_) ?_; rotate_left; (· (obtain ⟨a0, a1, a2, a3, a4, a5, _, _⟩ := hA; go_simp; try with_reducible rfl)); refine uA 4 ?_ rfl hA0 hB0 (fun W hA => ?_) ?_; rotate_left; (· (obtain ⟨a0, a1, a2, a3, a4, a5, _, _⟩ := hA; go_simp; try with_reducible rfl)); refine uA 5 ?_ rfl hA0 hB0 (fun W hA => ?_) ?_; rotate_left; (· (obtain ⟨a0, a1, a2, a3, a4, a5, _, _⟩ := hA; go_simp; try with_reducible rfl)); refine uA 6 ?_ rfl hA0 hB0 (fun W hA => ?_) ?_; rotate_left; (· (obtain ⟨a0, a1, a2, a3, a4, a5, _, _⟩ := hA; go_simp; try with_reducible rfl)); refine uA 7 ?_ rfl hA0 hB0 (fun W hA => ?_) ?_; rotate_left; (· (obtain ⟨a0, a1, a2, a3, a4, a5, _, _⟩ := hA; go_simp; try with_reducible rfl)); refine uA 8 ?_ rfl hA0 hB0 (fun W hA => ?_) ?_; rotate_left; (· (obtain ⟨a0, a1, a2, a3, a4, a5, _, _⟩ := hA; go_simp; try with_reducible rfl)); refine uA 9 ?_ rfl hA0 hB0 (fun W hA => ?_) ?_; rotate_left; (· (obtain ⟨a0, a1, a2, a3, a4, a5, _, _⟩ := hA; go_simp; try with_reducible rfl)); refine uA 10 ?_ rfl hA0 hB0 (fun W hA => ?_) ?_; rotate_left; (· (obtain ⟨a0, a1, a2, a3, a4, a5, _, _⟩ := hA; go_simp; try with_reducible rfl)); refine uA 11 ?_ rfl hA0 hB0 (fun W hA => ?_) ?_; rotate_left; (· (obtain ⟨a0, a1, a2, a3, a4, a5, _, _⟩ := hA; go_simp; try with_reducible rfl)); refine uA 12 ?_ rfl hA0 hB0 (fun W hA => ?_) ?_; rotate_left; (· (obtain ⟨a0, a1, a2, a3, a4, a5, _, _⟩ := hA; go_simp; try with_reducible rfl)); refine uA 13 ?_ rfl hA0 hB0 (fun W hA => ?_) ?_; rotate_left; (· (obtain ⟨a0, a1, a2, a3, a4, a5, _, _⟩ := hA; go_simp; try with_reducible rfl)); refine uA 14 ?_ rfl hA0 hB0 (fun W hA => ?_) ?_; rotate_left; (· (obtain ⟨a0, a1, a2, a3, a4, a5, _, _⟩ := hA; go_simp; try with_reducible rfl)); (try simp only [Act.put, List.setIfInBounds_toArray, List.set_cons_zero, List.set_cons_succ]))
     refine uTake (i := 15) (v := .tuple #[.int .i64 (y), .bool true]) rfl (by kernel_rfl) (fun _ _ _ h => h) (by rfl) (fun W hA hB => ?_) ⟨hA0, fun _ => hB0⟩ ?_
     ·clear hB
      exact exec_lookup rfl (TabI.run_ok (t := 87) hA.2.2.2.2.2.2.1 pairLaw Tryd.underlying87 Tryd.underlying3 (zeroInt W) (s, u) HKP.out (some y) HLP.out)
     (try simp only [Act.put, List.setIfInBounds_toArray, List.set_cons_zero, List.set_cons_succ])
     (refine uA 16 ?_ rfl hA0 hB0 (fun W hA => ?_) ?_; rotate_left; (· (go_simp; try with_reducible rfl)); refine uA 17 ?_ rfl hA0 hB0 (fun W hA => ?_) ?_; rotate_left; (· (go_simp; try with_reducible rfl)); refine uA 18 ?_ rfl hA0 hB0 (fun W hA => ?_) ?_; rotate_left; (· (go_simp; try with_reducible rfl)); (try simp only [Act.put, List.setIfInBounds_toArray, List.set_cons_zero, List.set_cons_succ]))
     refine uOne (i := 19) rfl (by kernel_rfl) (fun K hK => ?_)
     go_simp
     (refine hK _ _ ⟨hA0, fun _ => hB0⟩ ?_; clear hK K; (try simp only [Act.put, List.setIfInBounds_toArray, List.set_cons_zero, List.set_cons_succ]))
     refine uOne (i := 20) rfl (by kernel_rfl) (fun K hK => ?_)
     go_simp
     (refine hK _ _ ⟨hA0, fun h => absurd (h.symm.trans (by kernel_rfl : _ = true)) Bool.false_ne_true⟩ ?_; clear hK K; (try simp only [Act.put, List.setIfInBounds_toArray, List.set_cons_zero, List.set_cons_succ]))
     refine anyU_done (by kernel_rfl) ?_ _
     clear hA0 hB0
     go_upto_region 5 with fail
     refine wp_region_U (fun W => W.cell? ⟨b, 0, none⟩ = some (.map (some mp)) ∧ W.cell? ⟨b, 1, none⟩ = some (.map (some mr)) ∧ W.cell? ⟨b, 8, none⟩ = some (.slice (some ta) nt ct) ∧ W.cell? (ta.add k) = some (.slice (some a5) 2 c5) ∧ W.cell? a5 = some (.int .i64 s) ∧ W.cell? ⟨a5.block, a5.off + 1, none⟩ = some (.int .i64 r) ∧ TabE W mp np P.ed ∧ TabE W mr nr R.ed) (fun _ => True) 20 (by kernel_rfl) ?_
     change anyU _ _ _ _ _ _ _ 21 _ _ _
     have hB0 : True := trivial
     have HB5 := Lib.hid (HB4.out.trans ((below_dr w4).mono HB4.out.size))
     generalize (w4).drew = w5 at HB5 ⊢
     have hA0 := HAT.out w5 HB5.out
     (refine uA 0 ?_ rfl hA0 hB0 (fun W hA => ?_) ?_; rotate_left; (· (obtain ⟨a0, a1, a2, a3, a4, a5, _, _⟩ := hA; go_simp; try with_reducible rfl)); refine uA 1 ?_ rfl hA0 hB0 (fun W hA => ?_) ?_; rotate_left; (· (obtain ⟨a0, a1, a2, a3, a4, a5, _, _⟩ := hA; go_simp; try with_reducible rfl)); refine uA 2 ?_ rfl hA0 hB0 (fun W hA => ?_) ?_; rotate_left; (· (obtain ⟨a0, a1, a2, a3, a4, a5, _, _⟩ := hA; go_simp; try with_reducible rfl)); refine uA 3 ?_ rfl hA0 hB0 (fun W hA => ?_) ?_; rotate_left; (· (obtain ⟨a0, a1, a2, a3, a4, a5, _, _⟩ := hA; go_simp; try with_reducible rfl)); refine uA 4 ?_ rfl hA0 hB0 (fun W hA => ?_) ?_; rotate_left; (· (obtain ⟨a0, a1, a2, a3, a4, a5, _, _⟩ := hA; go_simp; try with_reducible rfl)); refine uA 5 ?_ rfl hA0 hB0 (fun W hA => ?_) ?_; rotate_left; (· (obtain ⟨a0, a1, a2, a3, a4, a5, _, _⟩ := hA; go_simp; try with_reducible rfl)); refine uA 6 ?_ rfl hA0 hB0 (fun W hA => ?_) ?_; rotate_left; (· (obtain ⟨a0, a1, a2, a3, a4, a5, _, _⟩ := hA; go_simp; try with_reducible rfl)); refine uA 7 ?_ rfl hA0 hB0 (fun W hA => ?_) ?_; rotate_left; (· (obtain ⟨a0, a1, a2, a3, a4, a5, _, _⟩ := hA; go_simp; try with_reducible rfl)); refine uA 8 ?_ rfl hA0 hB0 (fun W hA => ?_) ?_; rotate_left; (· (obtain ⟨a0, a1, a2, a3, a4, a5, _, _⟩ := hA; go_simp; try with_reducible rfl)); refine uA 9 ?_ rfl hA0 hB0 (fun W hA => ?_) ?_; rotate_left; (· (obtain ⟨a0, a1, a2, a3, a4, a5, _, _⟩ := hA; go_simp; try with_reducible rfl)); refine uA 10 ?_ rfl hA0 hB0 (fun W hA => ?_) ?_; rotate_left; (· (obtain ⟨a0, a1, a2, a3, a4, a5, _, _⟩ := hA; go_simp; try with_reducible rfl)); refine uA 11 ?_ rfl hA0 hB0 (fun W hA => ?_) ?_; rotate_left; (· (obtain ⟨a0, a1, a2, a3, a4, a5, _, _⟩ := hA; go_simp; try with_reducible rfl)); refine uA 12 ?_ rfl hA0 hB0 (fun W hA => ?_) ?_; rotate_left; (· (obtain ⟨a0, a1, a2, a3, a4, a5, _, _⟩ := hA; go_simp; try with_reducible rfl)); refine uA 13 ?_ rfl hA0 hB0 (fun W hA => ?_) ?_; rotate_left; (· (obtain ⟨a0, a1, a2, a3, a4, a5, _, _⟩ := hA; go_simp; try with_reducible rfl)); refine uA 14 ?_ rfl hA0 hB0 (fun W hA => ?_) ?_; rotate_left; (· (obtain ⟨a0, a1, a2, a3, a4, a5, _, _⟩ := hA; go_simp; try with_reducible rfl)); (try simp only [Act.put, List.setIfInBounds_toArray, List.set_cons_zero, List.set_cons_succ]))
     refine uTake (i := 15) (v := .tuple #[.int .i64 (z), .bool true]) rfl (by kernel_rfl) (fun _ _ _ h => h) (by rfl) (fun W hA hB => ?_) ⟨hA0, fun _ => hB0⟩ ?_
     ·clear hB
      exact exec_lookup rfl (TabI.run_ok (t := 87) hA.2.2.2.2.2.2.2 pairLaw Tryd.underlying87 Tryd.underlying3 (zeroInt W) (r, u) HKR.out (some z) HLR.out)
     (try simp only [Act.put, List.setIfInBounds_toArray, List.set_cons_zero, List.set_cons_succ])
     (refine uA 16 ?_ rfl hA0 hB0 (fun W hA => ?_) ?_; rotate_left; (· (go_simp; try with_reducible rfl)); refine uA 17 ?_ rfl hA0 hB0 (fun W hA => ?_) ?_; rotate_left; (· (go_simp; try with_reducible rfl)); refine uA 18 ?_ rfl hA0 hB0 (fun W hA => ?_) ?_; rotate_left; (· (go_simp; try with_reducible rfl)); (try simp only [Act.put, List.setIfInBounds_toArray, List.set_cons_zero, List.set_cons_succ]))
     refine uOne (i := 19) rfl (by kernel_rfl) (fun K hK => ?_)
     go_simp
     (refine hK _ _ ⟨hA0, fun _ => hB0⟩ ?_; clear hK K; (try simp only [Act.put, List.setIfInBounds_toArray, List.set_cons_zero, List.set_cons_succ]))
     refine uOne (i := 20) rfl (by kernel_rfl) (fun K hK => ?_)
     go_simp
     (refine hK _ _ ⟨hA0, fun h => absurd (h.symm.trans (by kernel_rfl : _ = true)) Bool.false_ne_true⟩ ?_; clear hK K; (try simp only [Act.put, List.setIfInBounds_toArray, List.set_cons_zero, List.set_cons_succ]))
     refine anyU_done (by kernel_rfl) ?_ _
     clear hA0 hB0
     go_wp2
     go_roundw
     case rel => exact ⟨q + 1, by omega, by go_num, HB5, HF2⟩
     case measure => simp [intOf]; omega
  ·obtain rfl : q = nu := by omega
   have HFE := Lib.hid (HF.out.trans (refF_end (by rw [UL.out]; omega)))
   go_wp2
   go_ret
   exact ⟨congrArg (fun z => Ending.returned (.int .i64 z)) HFE.out.symm, HB.out⟩
end Go.Proofs.YtcchnibgehonoaaDoor

/- Walks: (*problem).next. -/
namespace Go.Proofs.YtcchnibgehonoaaDoor
open Go.RowKit Go Go.Maps

/-- the pair to which an event leads -/
def nxI (P R : Aut) (U : List Int) (z : Int × Int) (v : Int) : Option (Int × Int) :=
 match lkE z.1 v P.ed with
 | none => none
 | some t => if z.2 = -1 then (if hasB U v = true then some (t, -1) else none)
  else if hasB R.al v = false then some (t, z.2)
  else match lkE z.2 v R.ed with
   | some r => some (t, r)
   | none => if hasB U v = true then some (t, -1) else none

set_option maxRecDepth 100000 in
set_option maxHeartbeats 3200000 in
theorem problem_next (b : Nat) (v : PV) (P R p : Aut) (U : List Int) (T : List (List Int)) (s r ev : Int) (w : World) (h : PrbR w b v P R U p T) (hwr : WF R) (hs : 0 ≤ s ∧ s ≤ 4096) (hr : -1 ≤ r ∧ r ≤ 4096) (hev : 0 ≤ ev ∧ ev < 32) (hui : Inc U) (hu4 : U.length ≤ 1000) :
  Calls Tryd.prog 56 #[.pointer (some ⟨b, 0, none⟩), .agg #[.int .i64 s, .int .i64 r], .int .i64 ev] w fun e w' => ∃ y : Int × Int, e = .returned (.tuple #[.agg #[.int .i64 y.1, .int .i64 y.2], .bool (nxI P R U (s, r) ev).isSome]) ∧ (∀ x, nxI P R U (s, r) ev = some x → y = x) ∧ Below w.heap.size w w' := by
 obtain ⟨mp, np, mr, nr, RA, nra, cra, UA, nu, cu, x, TB, nt, ct, ts⟩ := v
 obtain ⟨blk, tp, tr, ra, rl, rc, ua, ul, uc, xo, xa, hts, tl, tc, tt⟩ := h
 dsimp only at tp tr ra rl rc ua ul uc xo xa hts tl tc tt
 simp only [pvc] at blk
 clear xo xa hts tl tc tt rc uc
 obtain ⟨N, hN⟩ : ∃ N, nxI P R U (s, r) ev = N := ⟨_, rfl⟩
 obtain ⟨q, hq⟩ : ∃ q, hasB U ev = q := ⟨_, rfl⟩
 have hnx : N = match lkE s ev P.ed with
  | none => none
  | some t => if r = -1 then (if q = true then some (t, -1) else none)
   else if hasB R.al ev = false then some (t, r)
   else match lkE r ev R.ed with
    | some r' => some (t, r')
    | none => if q = true then some (t, -1) else none := by rw [← hN, ← hq]; rfl
 rw [hN]
 have hb0 := box_below w (.cells #[.int .i64 s, .int .i64 r] 97)
 have hb1 := hb0.alloc hb0.size (.cells #[.int .i64 0, .int .i64 0] 97)
 obtain ⟨w1, hw1⟩ : ∃ w1, w1 = (w.alloc (.cells #[.int .i64 s, .int .i64 r] 97)).alloc (.cells #[.int .i64 0, .int .i64 0] 97) := ⟨_, rfl⟩
 have kP : Blk w1 w.heap.size 97 [.int .i64 s, .int .i64 r] := by rw [hw1]; exact (Blk.new _ _ [_, _]).al _
 have kR : Blk w1 (w.heap.size + 1) 97 [.int .i64 0, .int .i64 0] := by rw [hw1]; exact Blk.at_ _ _ [_, _] (by simp)
 rw [← hw1] at hb1
 have blk := blk.below hb1 blk.lt
 have tp := TabI.below tp hb1 (TabI.lt tp)
 have tr := TabI.below tr hb1 (TabI.lt tr)
 have ra := (ra.below hb1).more hb1.size
 have ua := (ua.below hb1).more hb1.size
 have HKP := Lib.hid (pairKey w s ev (WalkArith.wf_i64 (by omega)) (WalkArith.wf_i64 (by omega)))
 have HKR := Lib.hid (pairKey w r ev (WalkArith.wf_i64 (by omega)) (WalkArith.wf_i64 (by omega)))
 have HB1 := Lib.hid (Below.refl w1.heap.size w1)
 have hnu : nu ≤ 1000 := by omega
 have hal := hwr.al_le
 rw [rl] at hal
 have HAT0 := Lib.hid (fun (W : World) (hb : Below w1.heap.size w1 W) => (show W.cell? ⟨b, 0, none⟩ = some (.map (some mp)) ∧ W.cell? ⟨w.heap.size, 0, none⟩ = some (.int .i64 s) ∧ TabE W mp np P.ed from ⟨(blk.below hb blk.lt).cell (j := 0) rfl, (kP.below hb kP.lt).cell (j := 0) rfl, TabI.below tp hb (TabI.lt tp)⟩))
 have HAT1 := Lib.hid (fun (W : World) (hb : Below w1.heap.size w1 W) => (show W.cell? ⟨b, 1, none⟩ = some (.map (some mr)) ∧ W.cell? ⟨w.heap.size, 1, none⟩ = some (.int .i64 r) ∧ TabE W mr nr R.ed from ⟨(blk.below hb blk.lt).cell (j := 1) rfl, (kP.below hb kP.lt).cell (j := 1) rfl, TabI.below tr hb (TabI.lt tr)⟩))
 have HW1 := Lib.hid hw1; clear hw1
 have HB0 := Lib.hid hb1; clear hb1
 have KP := Lib.hid kP; clear kP
 have KR := Lib.hid kR; clear kR
 have BLK := Lib.hid blk; clear blk
 have RAR := Lib.hid ra; clear ra
 have UAR := Lib.hid ua; clear ua
 have UL := Lib.hid ul; clear ul
 have RL := Lib.hid rl; clear rl
 have HQ := Lib.hid hq; clear hq
 have HWR := Lib.hid hwr; clear hwr
 have HUI := Lib.hid hui; clear hui
 clear tp tr hb0 hN hu4
 go_enter Tryd.func56, Tryd.ntmps56
 go_upto_region 1 with fail
 rw [← HW1.out]
 rcases hlp : lkE s ev P.ed with _ | to
 ·rw [hlp] at hnx
  have HN := Lib.hid (show N = none from hnx)
  have HLP := Lib.hid hlp; clear hlp
  clear hnx
  go_upto_region 1 with fail
  refine wp_region_U (fun W => W.cell? ⟨b, 0, none⟩ = some (.map (some mp)) ∧ W.cell? ⟨w.heap.size, 0, none⟩ = some (.int .i64 s) ∧ TabE W mp np P.ed) (fun _ => True) 13 (by kernel_rfl) ?_
  change anyU _ _ _ _ _ _ _ 14 _ _ _
  have hB0 : True := trivial
  have HB4 := Lib.hid (HB1.out.trans ((below_dr w1).mono HB1.out.size))
  generalize (w1).drew = w4 at HB4 ⊢
  have hA0 := HAT0.out w4 HB4.out
  (refine uA 0 ?_ rfl hA0 hB0 (fun W hA => ?_) ?_; rotate_left; (· (obtain ⟨a0, a1, _⟩ := hA; go_simp; try with_reducible rfl)); refine uA 1 ?_ rfl hA0 hB0 (fun W hA => ?_) ?_; rotate_left; (· (obtain ⟨a0, a1, _⟩ := hA; go_simp; try with_reducible rfl)); refine uA 2 ?_ rfl hA0 hB0 (fun W hA => ?_) ?_; rotate_left; (· (obtain ⟨a0, a1, _⟩ := hA; go_simp; try with_reducible rfl)); refine uA 3 ?_ rfl hA0 hB0 (fun W hA => ?_) ?_; rotate_left; (· (obtain ⟨a0, a1, _⟩ := hA; go_simp; try with_reducible rfl)); refine uA 4 ?_ rfl hA0 hB0 (fun W hA => ?_) ?_; rotate_left; (· (obtain ⟨a0, a1, _⟩ := hA; go_simp; try with_reducible rfl)); refine uA 5 ?_ rfl hA0 hB0 (fun W hA => ?_) ?_; rotate_left; (· (obtain ⟨a0, a1, _⟩ := hA; go_simp; try with_reducible rfl)); refine uA 6 ?_ rfl hA0 hB0 (fun W hA => ?_) ?_; rotate_left; (· (obtain ⟨a0, a1, _⟩ := hA; go_simp; try with_reducible rfl)); refine uA 7 ?_ rfl hA0 hB0 (fun W hA => ?_) ?_; rotate_left; (· (obtain ⟨a0, a1, _⟩ := hA; go_simp; try with_reducible rfl)); (try simp only [Act.put, List.setIfInBounds_toArray, List.set_cons_zero, List.set_cons_succ]))
  refine uTake (i := 8) (v := .tuple #[.int .i64 (0), .bool false]) rfl (by kernel_rfl) (fun _ _ _ h => h) (by rfl) (fun W hA hB => ?_) ⟨hA0, fun _ => hB0⟩ ?_
  ·clear hB
   exact exec_lookup rfl (TabI.run_ok (t := 87) hA.2.2 pairLaw Tryd.underlying87 Tryd.underlying3 (zeroInt W) (s, ev) HKP.out none HLP.out)
  (try simp only [Act.put, List.setIfInBounds_toArray, List.set_cons_zero, List.set_cons_succ])
  (refine uA 9 ?_ rfl hA0 hB0 (fun W hA => ?_) ?_; rotate_left; (· (go_simp; try with_reducible rfl)); refine uA 10 ?_ rfl hA0 hB0 (fun W hA => ?_) ?_; rotate_left; (· (go_simp; try with_reducible rfl)); refine uA 11 ?_ rfl hA0 hB0 (fun W hA => ?_) ?_; rotate_left; (· (go_simp; try with_reducible rfl)); (try simp only [Act.put, List.setIfInBounds_toArray, List.set_cons_zero, List.set_cons_succ]))
  refine uOne (i := 12) rfl (by kernel_rfl) (fun K hK => ?_)
  go_simp
  (refine hK _ _ ⟨hA0, fun _ => hB0⟩ ?_; clear hK K; (try simp only [Act.put, List.setIfInBounds_toArray, List.set_cons_zero, List.set_cons_succ]))
  refine uOne (i := 13) rfl (by kernel_rfl) (fun K hK => ?_)
  go_simp
  (refine hK _ _ ⟨hA0, fun h => absurd (h.symm.trans (by kernel_rfl : _ = true)) Bool.false_ne_true⟩ ?_; clear hK K; (try simp only [Act.put, List.setIfInBounds_toArray, List.set_cons_zero, List.set_cons_succ]))
  refine anyU_done (by kernel_rfl) ?_ _
  clear hA0 hB0
  have hc1 : w4.cell? ⟨w.heap.size, 1, none⟩ = some (.int .i64 (r)) := (KP.out.below HB4.out KP.out.lt).cell (j := 1) rfl
  have hc0 : w4.cell? ⟨w.heap.size, 0, none⟩ = some (.int .i64 s) := (KP.out.below HB4.out KP.out.lt).cell (j := 0) rfl
  have g3 : w4.cell? ⟨b, 3, none⟩ = some (.slice UA nu cu) := (BLK.out.below HB4.out BLK.out.lt).cell (j := 3) rfl
  have g2 : w4.cell? ⟨b, 2, none⟩ = some (.slice RA nra cra) := (BLK.out.below HB4.out BLK.out.lt).cell (j := 2) rfl
  have HCU := Lib.hid (alphabet_Contains_n UA cu nu U ev q w4 UL.out HQ.out ((UAR.out.below HB4.out).more HB4.out.size) (by omega) HUI.out)
  go_wp2_with fail
  refine HCU.out.mono ?_
  rintro e w5 ⟨rfl, rfl⟩
  have kR9 := KR.out.below HB4.out KR.out.lt
  have hB9 := HB0.out.trans (HB4.out.mono HB0.out.size)
  have f0 := kR9.free 0
  have f1 := kR9.free 1
  have e0 := kR9.cell (j := 0) rfl
  have e1 := kR9.cell (j := 1) rfl
  have l9 : w.heap.size + 1 < w4.heap.size := kR9.lt
  go_wp2
  have hb4 := (kR9.set (j := 0) (by simp) (.int .i64 (s))).set (j := 1) (by simp) (.int .i64 (r))
  have z0 := hb4.cell (j := 0) rfl
  have z1 := hb4.cell (j := 1) rfl
  have F := (hB9.setCell (p := ⟨w.heap.size + 1, 0, none⟩) (by show w.heap.size ≤ w.heap.size + 1; omega) (.int .i64 (s))).setCell (p := ⟨w.heap.size + 1, 1, none⟩) (by show w.heap.size ≤ w.heap.size + 1; omega) (.int .i64 (r))
  refine bodyPost_ret (v := .tuple #[.agg #[.int .i64 (s), .int .i64 (r)], .bool false]) (by simp [results, Tryd.results56, go_sem, z0, z1]) rfl ?_
  exact ⟨(s, r), by rw [HN.out]; rfl, fun x hx => by rw [HN.out] at hx; (cases hx), F⟩
 ·rw [hlp] at hnx
  dsimp only at hnx
  have HLP := Lib.hid hlp; clear hlp
  by_cases hr1 : r = -1
  ·subst hr1
   cases q with
   | false =>
    have HN := Lib.hid (show N = none by rw [hnx]; simp)
    clear hnx
    go_upto_region 1 with fail
    refine wp_region_U (fun W => W.cell? ⟨b, 0, none⟩ = some (.map (some mp)) ∧ W.cell? ⟨w.heap.size, 0, none⟩ = some (.int .i64 s) ∧ TabE W mp np P.ed) (fun _ => True) 13 (by kernel_rfl) ?_
    change anyU _ _ _ _ _ _ _ 14 _ _ _
    have hB0 : True := trivial
    have HB4 := Lib.hid (HB1.out.trans ((below_dr w1).mono HB1.out.size))
    generalize (w1).drew = w4 at HB4 ⊢
    have hA0 := HAT0.out w4 HB4.out
    (refine uA 0 ?_ rfl hA0 hB0 (fun W hA => ?_) ?_; rotate_left; (· (obtain ⟨a0, a1, _⟩ := hA; go_simp; try with_reducible rfl)); refine uA 1 ?_ rfl hA0 hB0 (fun W hA => ?_) ?_; rotate_left; (· (obtain ⟨a0, a1, _⟩ := hA; go_simp; try with_reducible rfl)); refine uA 2 ?_ rfl hA0 hB0 (fun W hA => ?_) ?_; rotate_left; (· (obtain ⟨a0, a1, _⟩ := hA; go_simp; try with_reducible rfl)); refine uA 3 ?_ rfl hA0 hB0 (fun W hA => ?_) ?_; rotate_left; (· (obtain ⟨a0, a1, _⟩ := hA; go_simp; try with_reducible rfl)); refine uA 4 ?_ rfl hA0 hB0 (fun W hA => ?_) ?_; rotate_left; (· (obtain ⟨a0, a1, _⟩ := hA; go_simp; try with_reducible rfl)); refine uA 5 ?_ rfl hA0 hB0 (fun W hA => ?_) ?_; rotate_left; (· (obtain ⟨a0, a1, _⟩ := hA; go_simp; try with_reducible rfl)); refine uA 6 ?_ rfl hA0 hB0 (fun W hA => ?_) ?_; rotate_left; (· (obtain ⟨a0, a1, _⟩ := hA; go_simp; try with_reducible rfl)); refine uA 7 ?_ rfl hA0 hB0 (fun W hA => ?_) ?_; rotate_left; (· (obtain ⟨a0, a1, _⟩ := hA; go_simp; try with_reducible rfl)); (try simp only [Act.put, List.setIfInBounds_toArray, List.set_cons_zero, List.set_cons_succ]))
    refine uTake (i := 8) (v := .tuple #[.int .i64 (to), .bool true]) rfl (by kernel_rfl) (fun _ _ _ h => h) (by rfl) (fun W hA hB => ?_) ⟨hA0, fun _ => hB0⟩ ?_
    ·clear hB
     exact exec_lookup rfl (TabI.run_ok (t := 87) hA.2.2 pairLaw Tryd.underlying87 Tryd.underlying3 (zeroInt W) (s, ev) HKP.out (some to) HLP.out)
    (try simp only [Act.put, List.setIfInBounds_toArray, List.set_cons_zero, List.set_cons_succ])
    (refine uA 9 ?_ rfl hA0 hB0 (fun W hA => ?_) ?_; rotate_left; (· (go_simp; try with_reducible rfl)); refine uA 10 ?_ rfl hA0 hB0 (fun W hA => ?_) ?_; rotate_left; (· (go_simp; try with_reducible rfl)); refine uA 11 ?_ rfl hA0 hB0 (fun W hA => ?_) ?_; rotate_left; (· (go_simp; try with_reducible rfl)); (try simp only [Act.put, List.setIfInBounds_toArray, List.set_cons_zero, List.set_cons_succ]))
    refine uOne (i := 12) rfl (by kernel_rfl) (fun K hK => ?_)
    go_simp
    (refine hK _ _ ⟨hA0, fun _ => hB0⟩ ?_; clear hK K; (try simp only [Act.put, List.setIfInBounds_toArray, List.set_cons_zero, List.set_cons_succ]))
    refine uOne (i := 13) rfl (by kernel_rfl) (fun K hK => ?_)
    go_simp
    (refine hK _ _ ⟨hA0, fun h => absurd (h.symm.trans (by kernel_rfl : _ = true)) Bool.false_ne_true⟩ ?_; clear hK K; (try simp only [Act.put, List.setIfInBounds_toArray, List.set_cons_zero, List.set_cons_succ]))
    refine anyU_done (by kernel_rfl) ?_ _
    clear hA0 hB0
    have hc1 : w4.cell? ⟨w.heap.size, 1, none⟩ = some (.int .i64 (-1)) := (KP.out.below HB4.out KP.out.lt).cell (j := 1) rfl
    have hc0 : w4.cell? ⟨w.heap.size, 0, none⟩ = some (.int .i64 s) := (KP.out.below HB4.out KP.out.lt).cell (j := 0) rfl
    have g3 : w4.cell? ⟨b, 3, none⟩ = some (.slice UA nu cu) := (BLK.out.below HB4.out BLK.out.lt).cell (j := 3) rfl
    have g2 : w4.cell? ⟨b, 2, none⟩ = some (.slice RA nra cra) := (BLK.out.below HB4.out BLK.out.lt).cell (j := 2) rfl
    have HCU := Lib.hid (alphabet_Contains_n UA cu nu U ev false w4 UL.out HQ.out ((UAR.out.below HB4.out).more HB4.out.size) (by omega) HUI.out)
    go_wp2_with fail
    refine HCU.out.mono ?_
    rintro e w5 ⟨rfl, rfl⟩
    have kR9 := KR.out.below HB4.out KR.out.lt
    have hB9 := HB0.out.trans (HB4.out.mono HB0.out.size)
    have f0 := kR9.free 0
    have f1 := kR9.free 1
    have e0 := kR9.cell (j := 0) rfl
    have e1 := kR9.cell (j := 1) rfl
    have l9 : w.heap.size + 1 < w4.heap.size := kR9.lt
    go_wp2
    have hb4 := (kR9.set (j := 0) (by simp) (.int .i64 (s))).set (j := 1) (by simp) (.int .i64 (-1))
    have z0 := hb4.cell (j := 0) rfl
    have z1 := hb4.cell (j := 1) rfl
    have F := (hB9.setCell (p := ⟨w.heap.size + 1, 0, none⟩) (by show w.heap.size ≤ w.heap.size + 1; omega) (.int .i64 (s))).setCell (p := ⟨w.heap.size + 1, 1, none⟩) (by show w.heap.size ≤ w.heap.size + 1; omega) (.int .i64 (-1))
    refine bodyPost_ret (v := .tuple #[.agg #[.int .i64 (s), .int .i64 (-1)], .bool false]) (by simp [results, Tryd.results56, go_sem, z0, z1]) rfl ?_
    exact ⟨(s, -1), by rw [HN.out]; rfl, fun x hx => by rw [HN.out] at hx; (cases hx), F⟩
   | true =>
    have HN := Lib.hid (show N = some (to, -1) by rw [hnx]; simp)
    clear hnx
    go_upto_region 1 with fail
    refine wp_region_U (fun W => W.cell? ⟨b, 0, none⟩ = some (.map (some mp)) ∧ W.cell? ⟨w.heap.size, 0, none⟩ = some (.int .i64 s) ∧ TabE W mp np P.ed) (fun _ => True) 13 (by kernel_rfl) ?_
    change anyU _ _ _ _ _ _ _ 14 _ _ _
    have hB0 : True := trivial
    have HB4 := Lib.hid (HB1.out.trans ((below_dr w1).mono HB1.out.size))
    generalize (w1).drew = w4 at HB4 ⊢
    have hA0 := HAT0.out w4 HB4.out
    (refine uA 0 ?_ rfl hA0 hB0 (fun W hA => ?_) ?_; rotate_left; (· (obtain ⟨a0, a1, _⟩ := hA; go_simp; try with_reducible rfl)); refine uA 1 ?_ rfl hA0 hB0 (fun W hA => ?_) ?_; rotate_left; (· (obtain ⟨a0, a1, _⟩ := hA; go_simp; try with_reducible rfl)); refine uA 2 ?_ rfl hA0 hB0 (fun W hA => ?_) ?_; rotate_left; (· (obtain ⟨a0, a1, _⟩ := hA; go_simp; try with_reducible rfl)); refine uA 3 ?_ rfl hA0 hB0 (fun W hA => ?_) ?_; rotate_left; (· (obtain ⟨a0, a1, _⟩ := hA; go_simp; try with_reducible rfl)); refine uA 4 ?_ rfl hA0 hB0 (fun W hA => ?_) ?_; rotate_left; (· (obtain ⟨a0, a1, _⟩ := hA; go_simp; try with_reducible rfl)); refine uA 5 ?_ rfl hA0 hB0 (fun W hA => ?_) ?_; rotate_left; (· (obtain ⟨a0, a1, _⟩ := hA; go_simp; try with_reducible rfl)); refine uA 6 ?_ rfl hA0 hB0 (fun W hA => ?_) ?_; rotate_left; (· (obtain ⟨a0, a1, _⟩ := hA; go_simp; try with_reducible rfl)); refine uA 7 ?_ rfl hA0 hB0 (fun W hA => ?_) ?_; rotate_left; (· (obtain ⟨a0, a1, _⟩ := hA; go_simp; try with_reducible rfl)); (try simp only [Act.put, List.setIfInBounds_toArray, List.set_cons_zero, List.set_cons_succ]))
    refine uTake (i := 8) (v := .tuple #[.int .i64 (to), .bool true]) rfl (by kernel_rfl) (fun _ _ _ h => h) (by rfl) (fun W hA hB => ?_) ⟨hA0, fun _ => hB0⟩ ?_
    ·clear hB
     exact exec_lookup rfl (TabI.run_ok (t := 87) hA.2.2 pairLaw Tryd.underlying87 Tryd.underlying3 (zeroInt W) (s, ev) HKP.out (some to) HLP.out)
    (try simp only [Act.put, List.setIfInBounds_toArray, List.set_cons_zero, List.set_cons_succ])
    (refine uA 9 ?_ rfl hA0 hB0 (fun W hA => ?_) ?_; rotate_left; (· (go_simp; try with_reducible rfl)); refine uA 10 ?_ rfl hA0 hB0 (fun W hA => ?_) ?_; rotate_left; (· (go_simp; try with_reducible rfl)); refine uA 11 ?_ rfl hA0 hB0 (fun W hA => ?_) ?_; rotate_left; (· (go_simp; try with_reducible rfl)); (try simp only [Act.put, List.setIfInBounds_toArray, List.set_cons_zero, List.set_cons_succ]))
    refine uOne (i := 12) rfl (by kernel_rfl) (fun K hK => ?_)
    go_simp
    (refine hK _ _ ⟨hA0, fun _ => hB0⟩ ?_; clear hK K; (try simp only [Act.put, List.setIfInBounds_toArray, List.set_cons_zero, List.set_cons_succ]))
    refine uOne (i := 13) rfl (by kernel_rfl) (fun K hK => ?_)
    go_simp
    (refine hK _ _ ⟨hA0, fun h => absurd (h.symm.trans (by kernel_rfl : _ = true)) Bool.false_ne_true⟩ ?_; clear hK K; (try simp only [Act.put, List.setIfInBounds_toArray, List.set_cons_zero, List.set_cons_succ]))
    refine anyU_done (by kernel_rfl) ?_ _
    clear hA0 hB0
    have hc1 : w4.cell? ⟨w.heap.size, 1, none⟩ = some (.int .i64 (-1)) := (KP.out.below HB4.out KP.out.lt).cell (j := 1) rfl
    have hc0 : w4.cell? ⟨w.heap.size, 0, none⟩ = some (.int .i64 s) := (KP.out.below HB4.out KP.out.lt).cell (j := 0) rfl
    have g3 : w4.cell? ⟨b, 3, none⟩ = some (.slice UA nu cu) := (BLK.out.below HB4.out BLK.out.lt).cell (j := 3) rfl
    have g2 : w4.cell? ⟨b, 2, none⟩ = some (.slice RA nra cra) := (BLK.out.below HB4.out BLK.out.lt).cell (j := 2) rfl
    have HCU := Lib.hid (alphabet_Contains_n UA cu nu U ev true w4 UL.out HQ.out ((UAR.out.below HB4.out).more HB4.out.size) (by omega) HUI.out)
    go_wp2_with fail
    refine HCU.out.mono ?_
    rintro e w5 ⟨rfl, rfl⟩
    have kR9 := KR.out.below HB4.out KR.out.lt
    have hB9 := HB0.out.trans (HB4.out.mono HB0.out.size)
    have f0 := kR9.free 0
    have f1 := kR9.free 1
    have e0 := kR9.cell (j := 0) rfl
    have e1 := kR9.cell (j := 1) rfl
    have l9 : w.heap.size + 1 < w4.heap.size := kR9.lt
    go_wp2
    have hb4 := (kR9.set (j := 0) (by simp) (.int .i64 (to))).set (j := 1) (by simp) (.int .i64 (-1))
    have z0 := hb4.cell (j := 0) rfl
    have z1 := hb4.cell (j := 1) rfl
    have F := (hB9.setCell (p := ⟨w.heap.size + 1, 0, none⟩) (by show w.heap.size ≤ w.heap.size + 1; omega) (.int .i64 (to))).setCell (p := ⟨w.heap.size + 1, 1, none⟩) (by show w.heap.size ≤ w.heap.size + 1; omega) (.int .i64 (-1))
    refine bodyPost_ret (v := .tuple #[.agg #[.int .i64 (to), .int .i64 (-1)], .bool true]) (by simp [results, Tryd.results56, go_sem, z0, z1]) rfl ?_
    exact ⟨(to, -1), by rw [HN.out]; rfl, fun x hx => by rw [HN.out] at hx; exact Option.some.inj hx, F⟩
  ·have b1 : (r == -1) = false := by simpa using hr1
   cases hra : hasB R.al ev with
   | false =>
    have HN := Lib.hid (show N = some (to, r) by rw [hnx, if_neg hr1, if_pos hra])
    clear hnx hr1
    go_upto_region 1 with fail
    refine wp_region_U (fun W => W.cell? ⟨b, 0, none⟩ = some (.map (some mp)) ∧ W.cell? ⟨w.heap.size, 0, none⟩ = some (.int .i64 s) ∧ TabE W mp np P.ed) (fun _ => True) 13 (by kernel_rfl) ?_
    change anyU _ _ _ _ _ _ _ 14 _ _ _
    have hB0 : True := trivial
    have HB4 := Lib.hid (HB1.out.trans ((below_dr w1).mono HB1.out.size))
    generalize (w1).drew = w4 at HB4 ⊢
    have hA0 := HAT0.out w4 HB4.out
    (refine uA 0 ?_ rfl hA0 hB0 (fun W hA => ?_) ?_; rotate_left; (· (obtain ⟨a0, a1, _⟩ := hA; go_simp; try with_reducible rfl)); refine uA 1 ?_ rfl hA0 hB0 (fun W hA => ?_) ?_; rotate_left; (· (obtain ⟨a0, a1, _⟩ := hA; go_simp; try with_reducible rfl)); refine uA 2 ?_ rfl hA0 hB0 (fun W hA => ?_) ?_; rotate_left; (· (obtain ⟨a0, a1, _⟩ := hA; go_simp; try with_reducible rfl)); refine uA 3 ?_ rfl hA0 hB0 (fun W hA => ?_) ?_; rotate_left; (· (obtain ⟨a0, a1, _⟩ := hA; go_simp; try with_reducible rfl)); refine uA 4 ?_ rfl hA0 hB0 (fun W hA => ?_) ?_; rotate_left; (· (obtain ⟨a0, a1, _⟩ := hA; go_simp; try with_reducible rfl)); refine uA 5 ?_ rfl hA0 hB0 (fun W hA => ?_) ?_; rotate_left; (· (obtain ⟨a0, a1, _⟩ := hA; go_simp; try with_reducible rfl)); refine uA 6 ?_ rfl hA0 hB0 (fun W hA => ?_) ?_; rotate_left; (· (obtain ⟨a0, a1, _⟩ := hA; go_simp; try with_reducible rfl)); refine uA 7 ?_ rfl hA0 hB0 (fun W hA => ?_) ?_; rotate_left; (· (obtain ⟨a0, a1, _⟩ := hA; go_simp; try with_reducible rfl)); (try simp only [Act.put, List.setIfInBounds_toArray, List.set_cons_zero, List.set_cons_succ]))
    refine uTake (i := 8) (v := .tuple #[.int .i64 (to), .bool true]) rfl (by kernel_rfl) (fun _ _ _ h => h) (by rfl) (fun W hA hB => ?_) ⟨hA0, fun _ => hB0⟩ ?_
    ·clear hB
     exact exec_lookup rfl (TabI.run_ok (t := 87) hA.2.2 pairLaw Tryd.underlying87 Tryd.underlying3 (zeroInt W) (s, ev) HKP.out (some to) HLP.out)
    (try simp only [Act.put, List.setIfInBounds_toArray, List.set_cons_zero, List.set_cons_succ])
    (refine uA 9 ?_ rfl hA0 hB0 (fun W hA => ?_) ?_; rotate_left; (· (go_simp; try with_reducible rfl)); refine uA 10 ?_ rfl hA0 hB0 (fun W hA => ?_) ?_; rotate_left; (· (go_simp; try with_reducible rfl)); refine uA 11 ?_ rfl hA0 hB0 (fun W hA => ?_) ?_; rotate_left; (· (go_simp; try with_reducible rfl)); (try simp only [Act.put, List.setIfInBounds_toArray, List.set_cons_zero, List.set_cons_succ]))
    refine uOne (i := 12) rfl (by kernel_rfl) (fun K hK => ?_)
    go_simp
    (refine hK _ _ ⟨hA0, fun _ => hB0⟩ ?_; clear hK K; (try simp only [Act.put, List.setIfInBounds_toArray, List.set_cons_zero, List.set_cons_succ]))
    refine uOne (i := 13) rfl (by kernel_rfl) (fun K hK => ?_)
    go_simp
    (refine hK _ _ ⟨hA0, fun h => absurd (h.symm.trans (by kernel_rfl : _ = true)) Bool.false_ne_true⟩ ?_; clear hK K; (try simp only [Act.put, List.setIfInBounds_toArray, List.set_cons_zero, List.set_cons_succ]))
    refine anyU_done (by kernel_rfl) ?_ _
    clear hA0 hB0
    have hc1 : w4.cell? ⟨w.heap.size, 1, none⟩ = some (.int .i64 (r)) := (KP.out.below HB4.out KP.out.lt).cell (j := 1) rfl
    have hc0 : w4.cell? ⟨w.heap.size, 0, none⟩ = some (.int .i64 s) := (KP.out.below HB4.out KP.out.lt).cell (j := 0) rfl
    have g3 : w4.cell? ⟨b, 3, none⟩ = some (.slice UA nu cu) := (BLK.out.below HB4.out BLK.out.lt).cell (j := 3) rfl
    have g2 : w4.cell? ⟨b, 2, none⟩ = some (.slice RA nra cra) := (BLK.out.below HB4.out BLK.out.lt).cell (j := 2) rfl
    have HCU := Lib.hid (alphabet_Contains_n UA cu nu U ev q w4 UL.out HQ.out ((UAR.out.below HB4.out).more HB4.out.size) (by omega) HUI.out)
    go_wp2_with fail
    refine HCU.out.mono ?_
    rintro e w5 ⟨rfl, rfl⟩
    have HCN := Lib.hid (alphabet_Contains_n RA cra nra R.al ev false w4 RL.out hra ((RAR.out.below HB4.out).more HB4.out.size) (by omega) HWR.out.inc)
    go_wp2_with fail
    refine HCN.out.mono ?_
    rintro e w6 ⟨rfl, rfl⟩
    have kR9 := KR.out.below HB4.out KR.out.lt
    have hB9 := HB0.out.trans (HB4.out.mono HB0.out.size)
    have f0 := kR9.free 0
    have f1 := kR9.free 1
    have e0 := kR9.cell (j := 0) rfl
    have e1 := kR9.cell (j := 1) rfl
    have l9 : w.heap.size + 1 < w4.heap.size := kR9.lt
    go_wp2
    have hb4 := (kR9.set (j := 0) (by simp) (.int .i64 (to))).set (j := 1) (by simp) (.int .i64 (r))
    have z0 := hb4.cell (j := 0) rfl
    have z1 := hb4.cell (j := 1) rfl
    have F := (hB9.setCell (p := ⟨w.heap.size + 1, 0, none⟩) (by show w.heap.size ≤ w.heap.size + 1; omega) (.int .i64 (to))).setCell (p := ⟨w.heap.size + 1, 1, none⟩) (by show w.heap.size ≤ w.heap.size + 1; omega) (.int .i64 (r))
    refine bodyPost_ret (v := .tuple #[.agg #[.int .i64 (to), .int .i64 (r)], .bool true]) (by simp [results, Tryd.results56, go_sem, z0, z1]) rfl ?_
    exact ⟨(to, r), by rw [HN.out]; rfl, fun x hx => by rw [HN.out] at hx; exact Option.some.inj hx, F⟩
   | true =>
    rw [if_neg hr1, if_neg (by rw [hra]; decide)] at hnx
    rcases hlr : lkE r ev R.ed with _ | y
    ·rw [hlr] at hnx
     have HN := Lib.hid (show N = if q = true then some (to, -1) else none from hnx)
     have HLR := Lib.hid hlr; clear hlr
     clear hnx hr1
     go_upto_region 1 with fail
     refine wp_region_U (fun W => W.cell? ⟨b, 0, none⟩ = some (.map (some mp)) ∧ W.cell? ⟨w.heap.size, 0, none⟩ = some (.int .i64 s) ∧ TabE W mp np P.ed) (fun _ => True) 13 (by kernel_rfl) ?_
     change anyU _ _ _ _ _ _ _ 14 _ _ _
     have hB0 : True := trivial
     have HB4 := Lib.hid (HB1.out.trans ((below_dr w1).mono HB1.out.size))
     generalize (w1).drew = w4 at HB4 ⊢
     have hA0 := HAT0.out w4 HB4.out
     (refine uA 0 ?_ rfl hA0 hB0 (fun W hA => ?_) ?_; rotate_left; (· (obtain ⟨a0, a1, _⟩ := hA; go_simp; try with_reducible rfl)); refine uA 1 ?_ rfl hA0 hB0 (fun W hA => ?_) ?_; rotate_left; (· (obtain ⟨a0, a1, _⟩ := hA; go_simp; try with_reducible rfl)); refine uA 2 ?_ rfl hA0 hB0 (fun W hA => ?_) ?_; rotate_left; (· (obtain ⟨a0, a1, _⟩ := hA; go_simp; try with_reducible rfl)); refine uA 3 ?_ rfl hA0 hB0 (fun W hA => ?_) ?_; rotate_left; (· (obtain ⟨a0, a1, _⟩ := hA; go_simp; try with_reducible rfl)); refine uA 4 ?_ rfl hA0 hB0 (fun W hA => ?_) ?_; rotate_left; (· (obtain ⟨a0, a1, _⟩ := hA; go_simp; try with_reducible rfl)); refine uA 5 ?_ rfl hA0 hB0 (fun W hA => ?_) ?_; rotate_left; (· (obtain ⟨a0, a1, _⟩ := hA; go_simp; try with_reducible rfl)); refine uA 6 ?_ rfl hA0 hB0 (fun W hA => ?_) ?_; rotate_left; (· (obtain ⟨a0, a1, _⟩ := hA; go_simp; try with_reducible rfl)); refine uA 7 ?_ rfl hA0 hB0 (fun W hA => ?_) ?_; rotate_left; (· (obtain ⟨a0, a1, _⟩ := hA; go_simp; try with_reducible rfl)); (try simp only [Act.put, List.setIfInBounds_toArray, List.set_cons_zero, List.set_cons_succ]))
     refine uTake (i := 8) (v := .tuple #[.int .i64 (to), .bool true]) rfl (by kernel_rfl) (fun _ _ _ h => h) (by rfl) (fun W hA hB => ?_) ⟨hA0, fun _ => hB0⟩ ?_
     ·clear hB
      exact exec_lookup rfl (TabI.run_ok (t := 87) hA.2.2 pairLaw Tryd.underlying87 Tryd.underlying3 (zeroInt W) (s, ev) HKP.out (some to) HLP.out)
     (try simp only [Act.put, List.setIfInBounds_toArray, List.set_cons_zero, List.set_cons_succ])
     (refine uA 9 ?_ rfl hA0 hB0 (fun W hA => ?_) ?_; rotate_left; (· (go_simp; try with_reducible rfl)); refine uA 10 ?_ rfl hA0 hB0 (fun W hA => ?_) ?_; rotate_left; (· (go_simp; try with_reducible rfl)); refine uA 11 ?_ rfl hA0 hB0 (fun W hA => ?_) ?_; rotate_left; (· (go_simp; try with_reducible rfl)); (try simp only [Act.put, List.setIfInBounds_toArray, List.set_cons_zero, List.set_cons_succ]))
     refine uOne (i := 12) rfl (by kernel_rfl) (fun K hK => ?_)
     go_simp
     (refine hK _ _ ⟨hA0, fun _ => hB0⟩ ?_; clear hK K; (try simp only [Act.put, List.setIfInBounds_toArray, List.set_cons_zero, List.set_cons_succ]))
     refine uOne (i := 13) rfl (by kernel_rfl) (fun K hK => ?_)
     go_simp
     (refine hK _ _ ⟨hA0, fun h => absurd (h.symm.trans (by kernel_rfl : _ = true)) Bool.false_ne_true⟩ ?_; clear hK K; (try simp only [Act.put, List.setIfInBounds_toArray, List.set_cons_zero, List.set_cons_succ]))
     refine anyU_done (by kernel_rfl) ?_ _
     clear hA0 hB0
     have hc1 : w4.cell? ⟨w.heap.size, 1, none⟩ = some (.int .i64 (r)) := (KP.out.below HB4.out KP.out.lt).cell (j := 1) rfl
     have hc0 : w4.cell? ⟨w.heap.size, 0, none⟩ = some (.int .i64 s) := (KP.out.below HB4.out KP.out.lt).cell (j := 0) rfl
     have g3 : w4.cell? ⟨b, 3, none⟩ = some (.slice UA nu cu) := (BLK.out.below HB4.out BLK.out.lt).cell (j := 3) rfl
     have g2 : w4.cell? ⟨b, 2, none⟩ = some (.slice RA nra cra) := (BLK.out.below HB4.out BLK.out.lt).cell (j := 2) rfl
     have HCU := Lib.hid (alphabet_Contains_n UA cu nu U ev q w4 UL.out HQ.out ((UAR.out.below HB4.out).more HB4.out.size) (by omega) HUI.out)
     go_wp2_with fail
     refine HCU.out.mono ?_
     rintro e w5 ⟨rfl, rfl⟩
     have HCN := Lib.hid (alphabet_Contains_n RA cra nra R.al ev true w4 RL.out hra ((RAR.out.below HB4.out).more HB4.out.size) (by omega) HWR.out.inc)
     go_wp2_with fail
     refine HCN.out.mono ?_
     rintro e w6 ⟨rfl, rfl⟩
     clear hc0 hc1 g2 g3
     go_upto_region 7 with fail
     refine wp_region_U (fun W => W.cell? ⟨b, 1, none⟩ = some (.map (some mr)) ∧ W.cell? ⟨w.heap.size, 1, none⟩ = some (.int .i64 r) ∧ TabE W mr nr R.ed) (fun _ => True) 13 (by kernel_rfl) ?_
     change anyU _ _ _ _ _ _ _ 14 _ _ _
     have hB0 : True := trivial
     have HB5 := Lib.hid (HB4.out.trans ((below_dr w4).mono HB4.out.size))
     generalize (w4).drew = w5 at HB5 ⊢
     have hA0 := HAT1.out w5 HB5.out
     (refine uA 0 ?_ rfl hA0 hB0 (fun W hA => ?_) ?_; rotate_left; (· (obtain ⟨a0, a1, _⟩ := hA; go_simp; try with_reducible rfl)); refine uA 1 ?_ rfl hA0 hB0 (fun W hA => ?_) ?_; rotate_left; (· (obtain ⟨a0, a1, _⟩ := hA; go_simp; try with_reducible rfl)); refine uA 2 ?_ rfl hA0 hB0 (fun W hA => ?_) ?_; rotate_left; (· (obtain ⟨a0, a1, _⟩ := hA; go_simp; try with_reducible rfl)); refine uA 3 ?_ rfl hA0 hB0 (fun W hA => ?_) ?_; rotate_left; (· (obtain ⟨a0, a1, _⟩ := hA; go_simp; try with_reducible rfl)); refine uA 4 ?_ rfl hA0 hB0 (fun W hA => ?_) ?_; rotate_left; (· (obtain ⟨a0, a1, _⟩ := hA; go_simp; try with_reducible rfl)); refine uA 5 ?_ rfl hA0 hB0 (fun W hA => ?_) ?_; rotate_left; (· (obtain ⟨a0, a1, _⟩ := hA; go_simp; try with_reducible rfl)); refine uA 6 ?_ rfl hA0 hB0 (fun W hA => ?_) ?_; rotate_left; (· (obtain ⟨a0, a1, _⟩ := hA; go_simp; try with_reducible rfl)); refine uA 7 ?_ rfl hA0 hB0 (fun W hA => ?_) ?_; rotate_left; (· (obtain ⟨a0, a1, _⟩ := hA; go_simp; try with_reducible rfl)); (try simp only [Act.put, List.setIfInBounds_toArray, List.set_cons_zero, List.set_cons_succ]))
     refine uTake (i := 8) (v := .tuple #[.int .i64 (0), .bool false]) rfl (by kernel_rfl) (fun _ _ _ h => h) (by rfl) (fun W hA hB => ?_) ⟨hA0, fun _ => hB0⟩ ?_
     ·clear hB
      exact exec_lookup rfl (TabI.run_ok (t := 87) hA.2.2 pairLaw Tryd.underlying87 Tryd.underlying3 (zeroInt W) (r, ev) HKR.out none HLR.out)
     (try simp only [Act.put, List.setIfInBounds_toArray, List.set_cons_zero, List.set_cons_succ])
     (refine uA 9 ?_ rfl hA0 hB0 (fun W hA => ?_) ?_; rotate_left; (· (go_simp; try with_reducible rfl)); refine uA 10 ?_ rfl hA0 hB0 (fun W hA => ?_) ?_; rotate_left; (· (go_simp; try with_reducible rfl)); refine uA 11 ?_ rfl hA0 hB0 (fun W hA => ?_) ?_; rotate_left; (· (go_simp; try with_reducible rfl)); (try simp only [Act.put, List.setIfInBounds_toArray, List.set_cons_zero, List.set_cons_succ]))
     refine uOne (i := 12) rfl (by kernel_rfl) (fun K hK => ?_)
     go_simp
     (refine hK _ _ ⟨hA0, fun _ => hB0⟩ ?_; clear hK K; (try simp only [Act.put, List.setIfInBounds_toArray, List.set_cons_zero, List.set_cons_succ]))
     refine uOne (i := 13) rfl (by kernel_rfl) (fun K hK => ?_)
     go_simp
     (refine hK _ _ ⟨hA0, fun h => absurd (h.symm.trans (by kernel_rfl : _ = true)) Bool.false_ne_true⟩ ?_; clear hK K; (try simp only [Act.put, List.setIfInBounds_toArray, List.set_cons_zero, List.set_cons_succ]))
     refine anyU_done (by kernel_rfl) ?_ _
     clear hA0 hB0
     have kR9 := KR.out.below HB5.out KR.out.lt
     have hB9 := HB0.out.trans (HB5.out.mono HB0.out.size)
     have f0 := kR9.free 0
     have f1 := kR9.free 1
     have e0 := kR9.cell (j := 0) rfl
     have e1 := kR9.cell (j := 1) rfl
     have l9 : w.heap.size + 1 < w5.heap.size := kR9.lt
     go_wp2
     have hb4 := (kR9.set (j := 0) (by simp) (.int .i64 (to))).set (j := 1) (by simp) (.int .i64 (-1))
     have z0 := hb4.cell (j := 0) rfl
     have z1 := hb4.cell (j := 1) rfl
     have F := (hB9.setCell (p := ⟨w.heap.size + 1, 0, none⟩) (by show w.heap.size ≤ w.heap.size + 1; omega) (.int .i64 (to))).setCell (p := ⟨w.heap.size + 1, 1, none⟩) (by show w.heap.size ≤ w.heap.size + 1; omega) (.int .i64 (-1))
     refine bodyPost_ret (v := .tuple #[.agg #[.int .i64 (to), .int .i64 (-1)], .bool q]) (by simp [results, Tryd.results56, go_sem, z0, z1]) rfl ?_
     exact ⟨(to, -1), by rw [HN.out]; cases q <;> rfl, fun x hx => by
      rw [HN.out] at hx
      cases q
      ·cases hx
      ·exact Option.some.inj hx, F⟩
    ·rw [hlr] at hnx
     have HN := Lib.hid (show N = some (to, y) from hnx)
     have HLR := Lib.hid hlr; clear hlr
     clear hnx hr1
     go_upto_region 1 with fail
     refine wp_region_U (fun W => W.cell? ⟨b, 0, none⟩ = some (.map (some mp)) ∧ W.cell? ⟨w.heap.size, 0, none⟩ = some (.int .i64 s) ∧ TabE W mp np P.ed) (fun _ => True) 13 (by kernel_rfl) ?_
     change anyU _ _ _ _ _ _ _ 14 _ _ _
     have hB0 : True := trivial
     have HB4 := Lib.hid (HB1.out.trans ((below_dr w1).mono HB1.out.size))
     generalize (w1).drew = w4 at HB4 ⊢
     have hA0 := HAT0.out w4 HB4.out
     (refine uA 0 ?_ rfl hA0 hB0 (fun W hA => ?_) ?_; rotate_left; (· (obtain ⟨a0, a1, _⟩ := hA; go_simp; try with_reducible rfl)); refine uA 1 ?_ rfl hA0 hB0 (fun W hA => ?_) ?_; rotate_left; (· (obtain ⟨a0, a1, _⟩ := hA; go_simp; try with_reducible rfl)); refine uA 2 ?_ rfl hA0 hB0 (fun W hA => ?_) ?_; rotate_left; (· (obtain ⟨a0, a1, _⟩ := hA; go_simp; try with_reducible rfl)); refine uA 3 ?_ rfl hA0 hB0 (fun W hA => ?_) ?_; rotate_left; (· (obtain ⟨a0, a1, _⟩ := hA; go_simp; try with_reducible rfl)); refine uA 4 ?_ rfl hA0 hB0 (fun W hA => ?_) ?_; rotate_left; (· (obtain ⟨a0, a1, _⟩ := hA; go_simp; try with_reducible rfl)); refine uA 5 ?_ rfl hA0 hB0 (fun W hA => ?_) ?_; rotate_left; (· (obtain ⟨a0, a1, _⟩ := hA; go_simp; try with_reducible rfl)); refine uA 6 ?_ rfl hA0 hB0 (fun W hA => ?_) ?_; rotate_left; (· (obtain ⟨a0, a1, _⟩ := hA; go_simp; try with_reducible rfl)); refine uA 7 ?_ rfl hA0 hB0 (fun W hA => ?_) ?_; rotate_left; (· (obtain ⟨a0, a1, _⟩ := hA; go_simp; try with_reducible rfl)); (try simp only [Act.put, List.setIfInBounds_toArray, List.set_cons_zero, List.set_cons_succ]))
     refine uTake (i := 8) (v := .tuple #[.int .i64 (to), .bool true]) rfl (by kernel_rfl) (fun _ _ _ h => h) (by rfl) (fun W hA hB => ?_) ⟨hA0, fun _ => hB0⟩ ?_
     ·clear hB
      exact exec_lookup rfl (TabI.run_ok (t := 87) hA.2.2 pairLaw Tryd.underlying87 Tryd.underlying3 (zeroInt W) (s, ev) HKP.out (some to) HLP.out)
     (try simp only [Act.put, List.setIfInBounds_toArray, List.set_cons_zero, List.set_cons_succ])
     (refine uA 9 ?_ rfl hA0 hB0 (fun W hA => ?_) ?_; rotate_left; (· (go_simp; try with_reducible rfl)); refine uA 10 ?_ rfl hA0 hB0 (fun W hA => ?_) ?_; rotate_left; (· (go_simp; try with_reducible rfl)); refine uA 11 ?_ rfl hA0 hB0 (fun W hA => ?_) ?_; rotate_left; (· (go_simp; try with_reducible rfl)); (try simp only [Act.put, List.setIfInBounds_toArray, List.set_cons_zero, List.set_cons_succ]))
     refine uOne (i := 12) rfl (by kernel_rfl) (fun K hK => ?_)
     go_simp
     (refine hK _ _ ⟨hA0, fun _ => hB0⟩ ?_; clear hK K; (try simp only [Act.put, List.setIfInBounds_toArray, List.set_cons_zero, List.set_cons_succ]))
     refine uOne (i := 13) rfl (by kernel_rfl) (fun K hK => ?_)
     go_simp
     (refine hK _ _ ⟨hA0, fun h => absurd (h.symm.trans (by kernel_rfl : _ = true)) Bool.false_ne_true⟩ ?_; clear hK K; (try simp only [Act.put, List.setIfInBounds_toArray, List.set_cons_zero, List.set_cons_succ]))
     refine anyU_done (by kernel_rfl) ?_ _
     clear hA0 hB0
     have hc1 : w4.cell? ⟨w.heap.size, 1, none⟩ = some (.int .i64 (r)) := (KP.out.below HB4.out KP.out.lt).cell (j := 1) rfl
     have hc0 : w4.cell? ⟨w.heap.size, 0, none⟩ = some (.int .i64 s) := (KP.out.below HB4.out KP.out.lt).cell (j := 0) rfl
     have g3 : w4.cell? ⟨b, 3, none⟩ = some (.slice UA nu cu) := (BLK.out.below HB4.out BLK.out.lt).cell (j := 3) rfl
     have g2 : w4.cell? ⟨b, 2, none⟩ = some (.slice RA nra cra) := (BLK.out.below HB4.out BLK.out.lt).cell (j := 2) rfl
     have HCU := Lib.hid (alphabet_Contains_n UA cu nu U ev q w4 UL.out HQ.out ((UAR.out.below HB4.out).more HB4.out.size) (by omega) HUI.out)
     go_wp2_with fail
     refine HCU.out.mono ?_
     rintro e w5 ⟨rfl, rfl⟩
     have HCN := Lib.hid (alphabet_Contains_n RA cra nra R.al ev true w4 RL.out hra ((RAR.out.below HB4.out).more HB4.out.size) (by omega) HWR.out.inc)
     go_wp2_with fail
     refine HCN.out.mono ?_
     rintro e w6 ⟨rfl, rfl⟩
     clear hc0 hc1 g2 g3
     go_upto_region 7 with fail
     refine wp_region_U (fun W => W.cell? ⟨b, 1, none⟩ = some (.map (some mr)) ∧ W.cell? ⟨w.heap.size, 1, none⟩ = some (.int .i64 r) ∧ TabE W mr nr R.ed) (fun _ => True) 13 (by kernel_rfl) ?_
     change anyU _ _ _ _ _ _ _ 14 _ _ _
     have hB0 : True := trivial
     have HB5 := Lib.hid (HB4.out.trans ((below_dr w4).mono HB4.out.size))
     generalize (w4).drew = w5 at HB5 ⊢
     have hA0 := HAT1.out w5 HB5.out
     (refine uA 0 ?_ rfl hA0 hB0 (fun W hA => ?_) ?_; rotate_left; (· (obtain ⟨a0, a1, _⟩ := hA; go_simp; try with_reducible rfl)); refine uA 1 ?_ rfl hA0 hB0 (fun W hA => ?_) ?_; rotate_left; (· (obtain ⟨a0, a1, _⟩ := hA; go_simp; try with_reducible rfl)); refine uA 2 ?_ rfl hA0 hB0 (fun W hA => ?_) ?_; rotate_left; (· (obtain ⟨a0, a1, _⟩ := hA; go_simp; try with_reducible rfl)); refine uA 3 ?_ rfl hA0 hB0 (fun W hA => ?_) ?_; rotate_left; (· (obtain ⟨a0, a1, _⟩ := hA; go_simp; try with_reducible rfl)); refine uA 4 ?_ rfl hA0 hB0 (fun W hA => ?_) ?_; rotate_left; (· (obtain ⟨a0, a1, _⟩ := hA; go_simp; try with_reducible rfl)); refine uA 5 ?_ rfl hA0 hB0 (fun W hA => ?_) ?_; rotate_left; (· (obtain ⟨a0, a1, _⟩ := hA; go_simp; try with_reducible rfl)); refine uA 6 ?_ rfl hA0 hB0 (fun W hA => ?_) ?_; rotate_left; (· (obtain ⟨a0, a1, _⟩ := hA; go_simp; try with_reducible rfl)); refine uA 7 ?_ rfl hA0 hB0 (fun W hA => ?_) ?_; rotate_left; (· (obtain ⟨a0, a1, _⟩ := hA; go_simp; try with_reducible rfl)); (try simp only [Act.put, List.setIfInBounds_toArray, List.set_cons_zero, List.set_cons_succ]))
     refine uTake (i := 8) (v := .tuple #[.int .i64 (y), .bool true]) rfl (by kernel_rfl) (fun _ _ _ h => h) (by rfl) (fun W hA hB => ?_) ⟨hA0, fun _ => hB0⟩ ?_
     ·clear hB
      exact exec_lookup rfl (TabI.run_ok (t := 87) hA.2.2 pairLaw Tryd.underlying87 Tryd.underlying3 (zeroInt W) (r, ev) HKR.out (some y) HLR.out)
     (try simp only [Act.put, List.setIfInBounds_toArray, List.set_cons_zero, List.set_cons_succ])
     (refine uA 9 ?_ rfl hA0 hB0 (fun W hA => ?_) ?_; rotate_left; (· (go_simp; try with_reducible rfl)); refine uA 10 ?_ rfl hA0 hB0 (fun W hA => ?_) ?_; rotate_left; (· (go_simp; try with_reducible rfl)); refine uA 11 ?_ rfl hA0 hB0 (fun W hA => ?_) ?_; rotate_left; (· (go_simp; try with_reducible rfl)); (try simp only [Act.put, List.setIfInBounds_toArray, List.set_cons_zero, List.set_cons_succ]))
     refine uOne (i := 12) rfl (by kernel_rfl) (fun K hK => ?_)
     go_simp
     (refine hK _ _ ⟨hA0, fun _ => hB0⟩ ?_; clear hK K; (try simp only [Act.put, List.setIfInBounds_toArray, List.set_cons_zero, List.set_cons_succ]))
     refine uOne (i := 13) rfl (by kernel_rfl) (fun K hK => ?_)
     go_simp
     (refine hK _ _ ⟨hA0, fun h => absurd (h.symm.trans (by kernel_rfl : _ = true)) Bool.false_ne_true⟩ ?_; clear hK K; (try simp only [Act.put, List.setIfInBounds_toArray, List.set_cons_zero, List.set_cons_succ]))
     refine anyU_done (by kernel_rfl) ?_ _
     clear hA0 hB0
     have kR9 := KR.out.below HB5.out KR.out.lt
     have hB9 := HB0.out.trans (HB5.out.mono HB0.out.size)
     have f0 := kR9.free 0
     have f1 := kR9.free 1
     have e0 := kR9.cell (j := 0) rfl
     have e1 := kR9.cell (j := 1) rfl
     have l9 : w.heap.size + 1 < w5.heap.size := kR9.lt
     go_wp2
     have hb4 := (kR9.set (j := 0) (by simp) (.int .i64 (to))).set (j := 1) (by simp) (.int .i64 (y))
     have z0 := hb4.cell (j := 0) rfl
     have z1 := hb4.cell (j := 1) rfl
     have F := (hB9.setCell (p := ⟨w.heap.size + 1, 0, none⟩) (by show w.heap.size ≤ w.heap.size + 1; omega) (.int .i64 (to))).setCell (p := ⟨w.heap.size + 1, 1, none⟩) (by show w.heap.size ≤ w.heap.size + 1; omega) (.int .i64 (y))
     refine bodyPost_ret (v := .tuple #[.agg #[.int .i64 (to), .int .i64 (y)], .bool true]) (by simp [results, Tryd.results56, go_sem, z0, z1]) rfl ?_
     exact ⟨(to, y), by rw [HN.out]; rfl, fun x hx => by rw [HN.out] at hx; exact Option.some.inj hx, F⟩
end Go.Proofs.YtcchnibgehonoaaDoor
