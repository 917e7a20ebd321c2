/- Walks: the machine's step. -/
import Derived.Test.YtbdliebjalghmaaDoorMc
namespace Go.Proofs.YtbdliebjalghmaaDoor
open Go.RowKit Go Go.Maps

theorem tab_run_hit {α : Type} {P : Program} {K E : TypeId} {key : α → Value} {w : World} {b n : Nat} {g : α → Option Int} (t : TypeId) (KK : Keyed P K) (ht : P.underlying t = some (.map K E)) (he : P.underlying E = some (.int .i64)) (hz : (zeroValue E).run P w = .ok (.int .i64 0) w)
    (h : TabI P K E key w b n g) (c : α) (hk : ∃ kl, keyOf P K (key c) = some kl) (y : Int) (hy : g c = some y) : (Instr.lookup t (.map (some b)) (key c) true).run P w = .ok (.tuple #[.int .i64 y, .bool true]) w := by
  obtain ⟨D, h1, h2⟩ := h
  obtain ⟨kl, hkl⟩ := hk
  obtain ⟨h3, h4⟩ := h2 c kl hkl
  obtain ⟨v, ps, hrun, hv⟩ := h1.look_ok KK ht hz (plainElem_int he (by decide)) hkl
  obtain ⟨z, rfl, hz1, _⟩ := plainElem_int_inv he hv
  have := congrArg Prod.fst hz1
  simp only at this
  rw [h4 y hy] at this
  simp only [DataW.lit.injEq, Lit.int.injEq, true_and] at this
  rw [hrun, h3, hy, ← this]; rfl
theorem tab_run_miss {α : Type} {P : Program} {K E : TypeId} {key : α → Value} {w : World} {b n : Nat} {g : α → Option Int} (t : TypeId) (KK : Keyed P K) (ht : P.underlying t = some (.map K E)) (he : P.underlying E = some (.int .i64)) (hz : (zeroValue E).run P w = .ok (.int .i64 0) w)
    (h : TabI P K E key w b n g) (c : α) (hk : ∃ kl, keyOf P K (key c) = some kl) (hy : g c = none) : (Instr.lookup t (.map (some b)) (key c) true).run P w = .ok (.tuple #[.int .i64 0, .bool false]) w := by
  obtain ⟨D, h1, h2⟩ := h
  obtain ⟨kl, hkl⟩ := hk
  obtain ⟨h3, h4⟩ := h2 c kl hkl
  rw [hy] at h3
  obtain ⟨v, ps, hrun, hv⟩ := h1.look_ok KK ht hz (plainElem_int he (by decide)) hkl
  obtain ⟨z, rfl, hz1, _⟩ := plainElem_int_inv he hv
  have := congrArg Prod.fst hz1
  simp only at this
  rw [Maps.atKey_of_not_has h3] at this
  simp only [DataW.lit.injEq, Lit.int.injEq, true_and] at this
  rw [hrun, h3, ← this]; rfl
theorem TabI.drewN {α : Type} {P : Program} {K E : TypeId} {key : α → Value} {w : World} {b n : Nat} {g : α → Option Int} (h : TabI P K E key w b n g) (p : Nat) : TabI P K E key (w.drewN p) b n g := h.block rfl
theorem iv_set (l : List Int) (k : Nat) (y : Int) : (iv l).set k (.int .i64 y) = iv (l.set k y) := by
  unfold iv; rw [List.map_set]


set_option maxRecDepth 100000 in
set_option maxHeartbeats 3200000 in
theorem mach_step (L : Option Addr) (n c : Nat) (V : Option Addr) (nv cv : Nat) (G : Option Addr) (cg : Nat) (xs : List AV) (T : Option Addr) (ct : Nat) (t : List Int) (v : Int) (r : Option (List Int)) (w : World) (h : MachR w w.heap.size L n c V nv cv G cg xs) (hn : n ≤ 12) (hT : RdI w w.heap.size T t) (hct : n ≤ ct)
    (hw : ∀ a ∈ xs.map AV.a, WF a) (htup : Tup (xs.map AV.a) t) (hr : stp (xs.map AV.a) t v = r) :
    Calls Tryd.prog 50 #[.agg #[.slice L n c, .slice V nv cv, .slice G n cg], .slice T n ct, .int .i64 v] w (RetOB (r.getD []) r.isSome w) := by
  have hB0 := box_below w (.cells #[.slice L n c, .slice V nv cv, .slice G n cg] 91)
  have hll := h.ll
  have hlc := h.lc
  have hcL := h.cL
  have hgc := h.gc
  have hcG := h.cG
  have ht : t.length = n := by rw [htup.len, List.length_map, hll]
  have hml : (mvs (xs.map AV.a) t v).length = t.length := by rw [mvs_len, List.length_map, hll, ht]; omega
  have HC := Lib.hid (slices_Clone_n T ct n t _ ht ((hT.below hB0).more hB0.size) (by omega))
  have HL := Lib.hid hll; clear hll
  have HTL := Lib.hid ht; clear ht
  have HR := Lib.hid hr; clear hr
  have HW := Lib.hid hw; clear hw
  have HTU := Lib.hid htup; clear htup
  have HML := Lib.hid hml; clear hml
  go_enter Tryd.func50, Tryd.ntmps50
  go_wp2_with fail
  refine HC.out.mono ?_
  rintro e w1 ⟨v8, rfl, ho8, hb8⟩
  rw [HTL.out] at ho8
  have hs8 : w.heap.size + 1 ≤ w1.heap.size := by have := hb8.size; simpa using this
  have hbase : (w.alloc (.cells #[.slice L n c, .slice V nv cv, .slice G n cg] 91)).heap.size = w.heap.size + 1 := by simp
  rw [hbase] at hb8 ho8
  obtain ⟨A8, c8, rfl⟩ := own_shape ho8
  have ho8' : w1.ownsRow (w.heap.size + 1) 3 1 (.slice A8 n c8) n (iv (nxk (mvs (xs.map AV.a) t v) t 0)) := by
    rw [show nxk (mvs (xs.map AV.a) t v) t 0 = t by simp [nxk]]; exact ho8
  have HO8 := Lib.hid ho8'; clear ho8'
  clear HC ho8 hbase
  have hq1 : w1.cell? ⟨w.heap.size, 0, none⟩ = some (.slice L n c) := box_cells (us := [_, _, _]) hb8 rfl
  go_wp2
  go_loopw [18] (fun i wr => ∃ k : Nat, k ≤ n ∧ i = .int .i64 k ∧ Hid (rfTo (xs.map AV.a) t v k) ∧ Hid (wr.ownsRow (w.heap.size + 1) 3 1 (.slice A8 n c8) n (iv (nxk (mvs (xs.map AV.a) t v) t k))) ∧ Below (w.heap.size + 1) (w.alloc (.cells #[.slice L n c, .slice V nv cv, .slice G n cg] 91)) wr) (fun i _ => n - (intOf i).toNat)
  case atStart => exact ⟨0, Nat.zero_le _, rfl, Lib.hid (fun j a s hj => by omega), HO8, hb8⟩
  case round =>
    obtain ⟨k, hk, rfl, HX, HO, hbel⟩ := hrel
    clear HO8
    have hsz1 : w.heap.size + 1 ≤ wr.heap.size := by have := hbel.size; simpa using this
    have hsz : w.heap.size ≤ wr.heap.size := by omega
    have hsz2 : w.heap.size < wr.heap.size := by omega
    have hbl := hB0.trans (hbel.mono (Nat.le_succ _))
    have c0 : wr.cell? ⟨w.heap.size, 0, none⟩ = some (.slice L n c) := box_cells (us := [_, _, _]) hbel rfl
    have c2 : wr.cell? ⟨w.heap.size, 2, none⟩ = some (.slice G n cg) := box_cells (us := [_, _, _]) hbel rfl
    by_cases hlt : k < n
    · skip
      obtain ⟨ad, A', na, ca, M, nm, cm, E, ne, ce, a, rfl, hbb, hx, q0, q1, q2, q3, haR⟩ := ((h.rl.below hbl).more hsz).at_ (k := k) (by have := HL.out; omega)
      have b1 : (k : Int) < (n : Int) := by omega
      have p1 : wr.cell? ⟨(ad.add (k * 4)).block, (ad.add (k * 4)).off + 1, none⟩ = some (.int .i64 a.st) := st_cells (j := 0) q1
      have p2 : wr.cell? ⟨(ad.add (k * 4)).block, (ad.add (k * 4)).off + 2, none⟩ = some (.slice M nm cm) := st_cells (j := 1) q2
      have p3 : wr.cell? ⟨(ad.add (k * 4)).block, (ad.add (k * 4)).off + 3, none⟩ = some (.slice E ne ce) := st_cells (j := 2) q3
      clear q1 q2 q3
      have hxa : (xs.map AV.a)[k]? = some a := by simp [hx]
      have hBA := box_below wr (.cells #[.slice A' na ca, .int .i64 a.st, .slice M nm cm, .slice E ne ce] 29)
      have HRA := Lib.hid ((haR.ra.after hBA (Nat.le_refl _)).more hBA.size)
      have HLA := Lib.hid haR.la
      have hwa := HW.out a (List.mem_of_getElem? hxa)
      have HAI := Lib.hid hwa.inc
      have hal := hwa.al_le
      rw [HLA.out] at hal
      obtain ⟨td, s, rfl, hbt, hts, hcs⟩ := ((hT.below hbl).more hsz).at_ (k := k) (by have := HTL.out; omega)
      have hcs' : (wr.alloc (.cells #[.slice A' na ca, .int .i64 a.st, .slice M nm cm, .slice E ne ce] 29)).cell? (td.add k) = some (.int .i64 s) := (World.cell?_alloc_lt wr _ _ (by rw [block_of_add]; exact hbt)).trans hcs
      have hmvk := mvs_at (v := v) hxa hts
      have hsr := HTU.out.at_ hxa hts
      have hst1 := hwa.st1
      have d1 : (k : Int) < (ct : Int) := by omega
      clear haR hcs
      cases hh : hasB a.al v with
      | false =>
        have hrf : rf a s v = false := by simp [rf, hh]
        have hmv : mv a s v = s := by simp [mv, hh]
        rw [hmv] at hmvk
        have HS := Lib.hid (rfTo_step HX.out hxa hts hrf)
        have HNK := Lib.hid (nxk_keep hmvk hts)
        have HH := Lib.hid hh; clear hh
        have HXA := Lib.hid hxa; clear hxa
        have HX2 := Lib.hid hx; clear hx
        have HTS := Lib.hid hts; clear hts
        have HMV := Lib.hid hmvk; clear hmvk
        have HWA := Lib.hid hwa; clear hwa
        clear hrf hmv
        go_wp2_with fail
        refine (alphabet_Contains_n A' ca na a.al v false _ HLA.out HH.out HRA.out (by omega) HAI.out).mono ?_
        rintro e w' ⟨rfl, rfl⟩
        go_wp2
        go_roundw
        case rel => exact ⟨k + 1, by omega, by go_num, HS, Lib.hid (by rw [HNK.out]; exact HO.out.alloc _), hbel.alloc hsz1 _⟩
        case measure => simp [intOf]; omega
      | true =>
        obtain ⟨gd, mb, mm, rfl, hgb, hmb, hgc1, htab⟩ := ((h.rg.below hbl).more hsz) k a hxa
        have hgc2 : (wr.alloc (.cells #[.slice A' na ca, .int .i64 a.st, .slice M nm cm, .slice E ne ce] 29)).cell? (gd.add k) = some (.map (some mb)) := (World.cell?_alloc_lt wr _ _ (by rw [block_of_add]; exact hgb)).trans hgc1
        have hv := hwa.rng v (hasB_mem.1 hh)
        have htab2 := TabI.alloc htab (.cells #[.slice A' na ca, .int .i64 a.st, .slice M nm cm, .slice E ne ce] 29)
        have hkey := pairKey wr s v (WalkArith.wf_i64 (by omega)) (WalkArith.wf_i64 (by omega))
        have hlk := lkE_of_nxt hwa (s := s) (v := v)
        have d2 : (k : Int) < (n : Int) := b1
        have d3 : k < n := hlt
        clear hgc1 htab
        by_cases hneg : nxt a s v < 0
        · have hrf : rf a s v = true := by simp [rf, hh, hneg]
          rw [if_pos hneg] at hlk
          have hlook : ∀ p : Nat, (Instr.lookup 105 (.map (some mb)) (.agg #[.int .i64 s, .int .i64 v]) true).run Tryd.prog ((wr.alloc (.cells #[.slice A' na ca, .int .i64 a.st, .slice M nm cm, .slice E ne ce] 29)).drewN p) = .ok (.tuple #[.int .i64 0, .bool false]) ((wr.alloc (.cells #[.slice A' na ca, .int .i64 a.st, .slice M nm cm, .slice E ne ce] 29)).drewN p) := fun p =>
            tab_run_miss 105 pairLaw Tryd.underlying105 Tryd.underlying3 rfl (TabI.drewN htab2 p) (s, v) hkey hlk
          have hres := HR.out.symm.trans (rfTo_no hxa hts hrf)
          subst hres
          have hlook0 := hlook 0
          have HH := Lib.hid hh; clear hh
          have HXA := Lib.hid hxa; clear hxa
          have HX2 := Lib.hid hx; clear hx
          have HTS := Lib.hid hts; clear hts
          have HMV := Lib.hid hmvk; clear hmvk
          have HWA := Lib.hid hwa; clear hwa
          have HLK := Lib.hid hlk; clear hlk
          clear hkey htab2 hrf
          go_wp2_with fail
          refine (alphabet_Contains_n A' ca na a.al v true _ HLA.out HH.out HRA.out (by omega) HAI.out).mono ?_
          rintro e w' ⟨rfl, rfl⟩
          go_wp2
          go_quiet (fail)
          go_wp2
          go_ret2
          exact ⟨_, rfl, World.ownsRow_nil _ _ _ _, below_drewN (hbl.alloc hsz _) _⟩
        · have hrf : rf a s v = false := by simp [rf, hh, hneg]
          rw [if_neg hneg] at hlk
          have hmv : mv a s v = nxt a s v := by simp [mv, hh]
          rw [hmv] at hmvk
          obtain ⟨y, hy⟩ : ∃ y, nxt a s v = y := ⟨_, rfl⟩
          rw [hy] at hlk hmvk
          have hlook : ∀ p : Nat, (Instr.lookup 105 (.map (some mb)) (.agg #[.int .i64 s, .int .i64 v]) true).run Tryd.prog ((wr.alloc (.cells #[.slice A' na ca, .int .i64 a.st, .slice M nm cm, .slice E ne ce] 29)).drewN p) = .ok (.tuple #[.int .i64 y, .bool true]) ((wr.alloc (.cells #[.slice A' na ca, .int .i64 a.st, .slice M nm cm, .slice E ne ce] 29)).drewN p) := fun p =>
            tab_run_hit 105 pairLaw Tryd.underlying105 Tryd.underlying3 rfl (TabI.drewN htab2 p) (s, v) hkey y hlk
          have hlook0 := hlook 0
          have HS := Lib.hid (rfTo_step HX.out hxa hts hrf)
          have HNK := Lib.hid (nxk_set HML.out hmvk hts)
          obtain ⟨g, cap, he8, hgB, hglt⟩ := HO.out.form (by omega)
          injection he8 with he8 _ hcap
          subst he8 hcap
          have hgk : (iv (nxk (mvs (xs.map AV.a) t v) t k))[k]? = some (.int .i64 s) := by
            rw [iv_get]
            unfold nxk
            rw [List.getElem?_append_right (by rw [List.length_take]; omega), List.length_take, List.getElem?_drop]
            rw [show k + (k - min k (mvs (xs.map AV.a) t v).length) = k by have := HML.out; have := HTL.out; omega, hts]; rfl
          have HOA := Lib.hid (HO.out.alloc (.cells #[.slice A' na ca, .int .i64 a.st, .slice M nm cm, .slice E ne ce] 29))
          have ck : (wr.alloc (.cells #[.slice A' na ca, .int .i64 a.st, .slice M nm cm, .slice E ne ce] 29)).cell? ⟨g, k, none⟩ = some (.int .i64 s) := by rw [HOA.out.cellAt k (by omega)]; exact hgk
          have fk : (wr.alloc (.cells #[.slice A' na ca, .int .i64 a.st, .slice M nm cm, .slice E ne ce] 29)).frozen? ⟨g, k, none⟩ = false := HOA.out.frozenAt k
          have HH := Lib.hid hh; clear hh
          have HXA := Lib.hid hxa; clear hxa
          have HX2 := Lib.hid hx; clear hx
          have HTS := Lib.hid hts; clear hts
          have HMV := Lib.hid hmvk; clear hmvk
          have HWA := Lib.hid hwa; clear hwa
          have HLK := Lib.hid hlk; clear hlk
          have HGK := Lib.hid hgk; clear hgk
          clear hkey htab2 hrf hmv hy
          go_wp2_with fail
          refine (alphabet_Contains_n A' ca na a.al v true _ HLA.out HH.out HRA.out (by omega) HAI.out).mono ?_
          rintro e w' ⟨rfl, rfl⟩
          go_wp2
          go_quiet (fail)
          go_wp2
          go_roundw
          case rel =>
            refine ⟨k + 1, by omega, by go_num, HS, ?_, ?_⟩
            · rw [HNK.out, ← iv_set]
              exact Lib.hid ((own_drewN HOA.out _).stored k (.int .i64 y)).1
            · exact (below_drewN (hbel.alloc hsz1 _) _).setCell (by omega) _
          case measure => simp [intOf]; omega
    · have hres := HR.out.symm.trans (rfTo_end HX.out (by rw [List.length_map, HL.out]; omega))
      subst hres
      have ho := HO.out
      rw [nxk_end HML.out (by rw [HTL.out]; omega)] at ho
      have hlen : (mvs (xs.map AV.a) t v).length = n := by rw [HML.out, HTL.out]
      have HOF := Lib.hid ho; clear ho
      have HLEN := Lib.hid hlen; clear hlen
      go_wp2
      go_ret2
      exact ⟨_, rfl, by rw [show ((some (mvs (xs.map AV.a) t v)).getD []) = mvs (xs.map AV.a) t v from rfl, HLEN.out]; exact own_base HOF.out (Nat.le_succ _), hbl⟩
end Go.Proofs.YtbdliebjalghmaaDoor
