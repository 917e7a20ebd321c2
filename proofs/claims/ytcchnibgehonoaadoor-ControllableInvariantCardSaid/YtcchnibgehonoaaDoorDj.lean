/- Walks: the law's within. -/
import Derived.Test.YtcchnibgehonoaaDoorDi
namespace Go.Proofs.YtcchnibgehonoaaDoor
open Go.RowKit Go Go.Maps

/-- an automaton to be read -/
def RetR (a : Aut) (w : World) (e : Ending) (w' : World) : Prop :=
  ∃ (A : Option Addr) (na ca : Nat) (M : Option Addr) (nm cm : Nat) (E : Option Addr) (ne ce : Nat), e = .returned (.agg #[.slice A na ca, .int .i64 a.st, .slice M nm cm, .slice E ne ce]) ∧ AutR w' w'.heap.size A na ca M nm cm E ne ce a ∧ Below w.heap.size w w'
theorem intS_snoc {l set : List Int} {k : Nat} {x : Int} (h : l[k]? = some x) : intS (l.take (k + 1)) set = intS (l.take k) set ++ (if hasB set x = true then [x] else []) := by
  unfold intS
  rw [take_snoc' h, List.filter_append]
  congr 1
  simp only [List.filter_cons, List.filter_nil]
theorem intS_len (l set : List Int) : (intS l set).length ≤ l.length := List.length_filter_le _ _
/-- the automaton under construction is read -/
theorem Bld.rd {w0 w : World} {A M E : Option Addr} {na ca km cm ke ce : Nat} {v1 : Value} {mk al : List Int} {es : List Ed} {st : Int} (h : Bld w0 w (.slice A na ca) v1 (.slice M km cm) (.slice E ke ce) km ke mk es) (hl : al.length = na) (h1 : na ≤ ca) (h2 : ca ≤ 9223372036854775807) (hr : RdI w w.heap.size A al) : AutR w w.heap.size A na ca M km cm E ke ce ⟨al, st, mk, es⟩ :=
  ⟨hl, h1, h2, hr, h.mkl, (own_cap' h.mrk).1, (own_cap' h.mrk).2, RdI.of_own h.mrk, h.edl, (own_cap' h.edg).1, (own_cap' h.edg).2, RdR.of_own (by omega) (fun _ _ => rfl) h.edg⟩

set_option maxRecDepth 100000 in
set_option maxHeartbeats 3200000 in
theorem law_within (A M E : Option Addr) (na ca nm cm ne ce : Nat) (a : Aut) (S : Option Addr) (cs ns : Nat) (set : List Int) (w : World) (h : AutR w w.heap.size A na ca M nm cm E ne ce a) (hw : WF a)
    (hsl : set.length = ns) (hS : RdI w w.heap.size S set) (hs1 : ns ≤ 9223372036854775807) :
    Calls Tryd.prog 35 #[.agg #[.slice A na ca, .int .i64 a.st, .slice M nm cm, .slice E ne ce], .slice S ns cs] w (RetR (witA a set) w) := by
  obtain ⟨st, hst⟩ : ∃ st, a.st = st := ⟨_, rfl⟩
  rw [hst]
  have hb1 := (box_below w (.cells #[.slice A na ca, .int .i64 st, .slice M nm cm, .slice E ne ce] 25)).alloc (by simp) (.cells #[.slice none 0 0, .int .i64 0, .slice none 0 0, .slice none 0 0] 25)
  obtain ⟨w2, hw2⟩ : ∃ w2, w2 = (w.alloc (.cells #[.slice A na ca, .int .i64 st, .slice M nm cm, .slice E ne ce] 25)).alloc (.cells #[.slice none 0 0, .int .i64 0, .slice none 0 0, .slice none 0 0] 25) := ⟨_, rfl⟩
  have k3 : Blk w2 w.heap.size 25 [.slice A na ca, .int .i64 st, .slice M nm cm, .slice E ne ce] := by rw [hw2]; exact (Blk.new _ _ [_, _, _, _]).al _
  have kR : Blk w2 (w.heap.size + 1) 25 [.slice none 0 0, .int .i64 0, .slice none 0 0, .slice none 0 0] := by rw [hw2]; exact Blk.at_ _ _ [_, _, _, _] (by simp)
  have hs2 : w2.heap.size = w.heap.size + 2 := by rw [hw2]; simp
  rw [← hw2] at hb1
  have h1 := (h.below hb1).more hb1.size
  have hS1 := (hS.below hb1).more hb1.size
  obtain ⟨q0, hq0⟩ : ∃ q, hasB set 0 = q := ⟨_, rfl⟩
  have HHAS := Lib.hid (fun (W : World) (hb : Below w2.heap.size w2 W) (x : Int) (q : Bool) (hq : hasB set x = q) => law_has S cs ns set x q W hsl ((hS1.below hb).more hb.size) hs1 hq)
  have HB0 := Lib.hid (Bld.start w2 (.slice A na ca) (.int .i64 0))
  have hal := hw.al_le
  rw [h1.la] at hal
  have hml : nm ≤ 4096 := by
    have h0 := inc_len (n := 4096) hw.minc (fun x hx => by have := hw.mrng x hx; have := hw.st1; omega)
    rw [h1.lm] at h0; exact h0
  have hel := hw.ed_le
  rw [h1.le] at hel
  have c0 := ((World.cell?_alloc_lt w2 (.cells #[.slice A na ca, .int .i64 0, .slice none 0 0, .slice none 0 0] 25) ⟨w.heap.size, 0, none⟩ k3.lt).trans (k3.cell (j := 0) rfl))
  have d0 := k3.cell (j := 0) rfl
  have HH := Lib.hid (HHAS.out _ HB0.out.bel 0 q0 hq0)
  have HW2 := Lib.hid hw2; clear hw2
  have HS2 := Lib.hid hs2; clear hs2
  have HX := Lib.hid h1; clear h1
  have HB1 := Lib.hid hb1; clear hb1
  have K3 := Lib.hid k3; clear k3
  have KR := Lib.hid kR; clear kR
  have HST := Lib.hid hst; clear hst
  have HWF := Lib.hid hw; clear hw
  have HQ0 := Lib.hid hq0; clear hq0
  have HX0 := Lib.hid h; clear h
  clear hS hS1 hsl
  go_enter Tryd.func35, Tryd.ntmps35
  cases q0 with
  | false =>
    go_wp2_with fail
    rw [← HW2.out]
    have ee2 : w.heap.size + 1 + 1 = w2.heap.size := by have := HS2.out; omega
    refine HH.out.mono ?_
    rintro e wx ⟨rfl, rfl⟩
    rw [ee2]
    clear c0 d0 HH ee2
    have HA := Lib.hid (show witA a set = ⟨a.al, 0, [], []⟩ by unfold witA; rw [HQ0.out]; rfl)
    obtain ⟨wx, hwx⟩ : ∃ wx, wx = w2.alloc (.cells #[.slice A na ca, .int .i64 0, .slice none 0 0, .slice none 0 0] 25) := ⟨_, rfl⟩
    rw [← hwx] at HB0 ⊢
    have o0 := HB0.out.blk.cell (j := 0) rfl
    have o1 := HB0.out.blk.cell (j := 1) rfl
    have o2 := HB0.out.blk.cell (j := 2) rfl
    have o3 := HB0.out.blk.cell (j := 3) rfl
    have kR9 := KR.out.below HB0.out.bel KR.out.lt
    have hB9 := HB1.out.trans (HB0.out.bel.mono HB1.out.size)
    have f0 := kR9.free 0
    have f1 := kR9.free 1
    have f2 := kR9.free 2
    have f3 := kR9.free 3
    have e0 := kR9.cell (j := 0) rfl
    have e1 := kR9.cell (j := 1) rfl
    have e2 := kR9.cell (j := 2) rfl
    have e3 := kR9.cell (j := 3) rfl
    have l9 := kR9.lt
    have HRR := Lib.hid (HB0.out.rd (al := a.al) (st := 0) HX.out.la HX.out.ac HX.out.cA ((HX.out.ra.below HB0.out.bel).more HB0.out.bel.size))
    clear hwx
    go_wp2
    have hb4 := kR9.set4 (.slice A na ca) (.int .i64 0) (.slice none 0 0) (.slice none 0 0)
    have z0 := hb4.cell (j := 0) rfl
    have z1 := hb4.cell (j := 1) rfl
    have z2 := hb4.cell (j := 2) rfl
    have z3 := hb4.cell (j := 3) rfl
    have F := below_set4 (b := w.heap.size + 1) (v0 := .slice A na ca) (v1 := .int .i64 0) (v2 := .slice none 0 0) (v3 := .slice none 0 0) hB9 (Nat.le_succ _)
    refine bodyPost_ret (v := .agg #[.slice A na ca, .int .i64 0, .slice none 0 0, .slice none 0 0]) (by simp [results, Tryd.results35, go_sem, z0, z1, z2, z3]) rfl ?_
    rw [HA.out]
    exact ⟨A, na, ca, none, 0, 0, none, 0, 0, rfl, ⟨HX.out.la, HX.out.ac, HX.out.cA, (HX0.out.ra.below F).more F.size, rfl, Nat.le_refl _, by omega, RdI.nil, rfl, Nat.le_refl _, by omega, RdX.nil⟩, F⟩
  | true =>
    go_wp2_with fail
    rw [← HW2.out]
    have ee2 : w.heap.size + 1 + 1 = w2.heap.size := by have := HS2.out; omega
    refine HH.out.mono ?_
    rintro e wx ⟨rfl, rfl⟩
    rw [ee2]
    clear c0 d0 HH ee2
    have HA := Lib.hid (show witA a set = canA (rstA a set) by unfold witA; rw [HQ0.out]; rfl)
    have k0 := K3.out.below HB0.out.bel K3.out.lt
    have c1 := k0.cell (j := 1) rfl
    have o1 := HB0.out.blk.cell (j := 1) rfl
    have o4 := HB0.out.blk.free 1
    have lo := HB0.out.blk.lt
    have HC0 := Lib.hid (Bld.start w2 (.slice A na ca) (.int .i64 st))
    clear HB0
    go_upto_region 5 with fail
    clear k0 c1 o1 o4 lo
    obtain ⟨wy, hwy⟩ : ∃ wy, wy = w2.alloc (.cells #[.slice A na ca, .int .i64 st, .slice none 0 0, .slice none 0 0] 25) := ⟨_, rfl⟩
    rw [← hwy] at HC0 ⊢
    clear hwy
    go_wp2
    go_loopw [6] (fun s6 wr => ∃ (k km : Nat) (mv : Value), s6 = .int .i64 k ∧ k ≤ nm ∧ km ≤ k ∧ Hid (Bld w2 wr (.slice A na ca) (.int .i64 st) mv (.slice none 0 0) km 0 (intS (a.ma.take k) set) [])) (fun s6 _ => nm - (intOf s6).toNat)
    case atStart => exact ⟨0, 0, _, rfl, Nat.zero_le _, Nat.le_refl _, HC0⟩
    case round =>
      clear HC0
      obtain ⟨k, km, mv, rfl, hk, hkm, HC⟩ := hrel
      obtain ⟨MA, mc, rfl⟩ := own_shape HC.out.mrk
      have c2 := (K3.out.below HC.out.bel K3.out.lt).cell (j := 2) rfl
      by_cases hlt : k < nm
      · obtain ⟨ma, y, hM, hyb, hye, hyc⟩ := HX.out.rm.at_ (k := k) (by rw [HX.out.lm]; exact hlt)
        subst hM
        have b1 : (k : Int) < (nm : Int) := by omega
        have HAT := Lib.hid (fun (W : World) (hb : Below w2.heap.size w2 W) => (show W.cell? ⟨w.heap.size, 2, none⟩ = some (.slice (some ma) nm cm) ∧ W.cell? (ma.add k) = some (.int .i64 y) from ⟨(K3.out.below hb K3.out.lt).cell (j := 2) rfl, (hb.cell (p := ma.add k) (by rw [block_of_add]; exact hyb)).trans hyc⟩))
        obtain ⟨_, c3⟩ := HAT.out wr HC.out.bel
        obtain ⟨q, hq⟩ : ∃ q, hasB set y = q := ⟨_, rfl⟩
        have HH := Lib.hid (HHAS.out wr HC.out.bel y q hq)
        have HYE := Lib.hid hye; clear hye
        have HYQ := Lib.hid hq; clear hq
        clear hyc hyb
        cases q with
        | true =>
          go_wp2_with fail
          refine HH.out.mono ?_
          rintro e wx ⟨rfl, rfl⟩
          clear c2 c3 HH
          have HSN := Lib.hid (show intS (a.ma.take (k + 1)) set = intS (a.ma.take k) set ++ [y] by rw [intS_snoc HYE.out, HYQ.out]; rfl)
          have HCD := Lib.hid (HC.out.quiet (below_dr wr))
          go_upto_region 9 with fail
          refine wp_region_U (fun W => W.cell? ⟨w.heap.size, 2, none⟩ = some (.slice (some ma) nm cm) ∧ W.cell? (ma.add k) = some (.int .i64 y)) (fun W => W.cell? ⟨w2.heap.size, 2, none⟩ = some (.slice MA km mc)) 8 (by kernel_rfl) ?_
          change anyU _ _ _ _ _ _ _ 11 _ _ _
          generalize hwd : wr.drew = wd at HCD ⊢
          have HWD := Lib.hid hwd; clear hwd
          have hA0 := HAT.out wd HCD.out.bel
          have hB0 : wd.cell? ⟨w2.heap.size, 2, none⟩ = some (.slice MA km mc) := HCD.out.blk.cell (j := 2) rfl
          have lo := HCD.out.blk.lt
          have hbs : w2.heap.size + 1 ≤ wd.heap.size := lo
          (refine uA 0 ?_ rfl hA0 hB0 (fun W hA => ?_) ?_; rotate_left; (· (go_simp; try with_reducible rfl)); (try simp only [Act.put, List.setIfInBounds_toArray, List.set_cons_zero, List.set_cons_succ]))
          (refine uB 1 ?_ rfl hA0 hB0 (fun W hA hB => ?_) ?_; rotate_left; (· (go_simp; try with_reducible rfl)); (try simp only [Act.put, List.setIfInBounds_toArray, List.set_cons_zero, List.set_cons_succ]))
          (refine uA 2 ?_ rfl hA0 hB0 (fun W hA => ?_) ?_; rotate_left; (· (go_simp; try with_reducible rfl)); (try simp only [Act.put, List.setIfInBounds_toArray, List.set_cons_zero, List.set_cons_succ]))
          (refine uA 3 ?_ rfl hA0 hB0 (fun W hA => ?_) ?_; rotate_left; (· (obtain ⟨a0, a1⟩ := hA; go_simp; try with_reducible rfl)); (try simp only [Act.put, List.setIfInBounds_toArray, List.set_cons_zero, List.set_cons_succ]))
          (refine uA 4 ?_ rfl hA0 hB0 (fun W hA => ?_) ?_; rotate_left; (· (go_simp; try with_reducible rfl)); refine uA 5 ?_ rfl hA0 hB0 (fun W hA => ?_) ?_; rotate_left; (· (go_simp; try with_reducible rfl)); (try simp only [Act.put, List.setIfInBounds_toArray, List.set_cons_zero, List.set_cons_succ]))
          (refine uA 6 ?_ rfl hA0 hB0 (fun W hA => ?_) ?_; rotate_left; (· (obtain ⟨a0, a1⟩ := hA; go_simp; try with_reducible rfl)); (try simp only [Act.put, List.setIfInBounds_toArray, List.set_cons_zero, List.set_cons_succ]))
          refine uOne (i := 7) rfl (by kernel_rfl) (fun K hK => ?_)
          go_simp
          have hA1 := HAT.out (wd.alloc (.cells #[.int .i64 y] 3)) (HCD.out.bel.alloc (Nat.le_of_lt lo) _)
          have hB1 : (wd.alloc (.cells #[.int .i64 y] 3)).cell? ⟨w2.heap.size, 2, none⟩ = some (.slice MA km mc) := (World.cell?_alloc_lt _ _ ⟨w2.heap.size, 2, none⟩ lo).trans hB0
          (refine hK _ _ ⟨hA1, fun _ => hB1⟩ ?_; clear hK K; (try simp only [Act.put, List.setIfInBounds_toArray, List.set_cons_zero, List.set_cons_succ]))
          refine uOne (i := 8) rfl (by kernel_rfl) (fun K hK => ?_)
          refine step_pushN wd [.int .i64 y] (by rfl) (.tmp 33) (.tmp 39) 22 (by rfl) (w2.heap.size + 1) 3 (.int .i64 0) 1 8 Tryd.underlying22 int_info (by rfl) (by decide) (by rfl) (.slice MA km mc) km _ (by rfl) HCD.out.mrk (by rfl) (fun q hq => by simp at hq; subst hq; rfl) (by omega) (by omega) hbs ?_
          intro A9 c9 w9 ho9 hg9
          have B9 := HCD.out.blk.kept hg9 (own_lt_ne HCD.out.mrk (Nat.lt_succ_self _))
          have e9 := B9.cell (j := 2) rfl
          have f9 := B9.free 2
          have l9 := B9.lt
          have hC9 := HCD.out.mark (i := y) ho9 hg9
          have hA2 := HAT.out w9 (HCD.out.bel.grown hg9 (Nat.le_of_lt lo) (fun j hj => by have := (HCD.out.mrk.lt j hj).1; omega))
          have hA3 := HAT.out _ hC9.bel
          rw [← HSN.out] at hC9
          have HC9 := Lib.hid hC9; clear hC9
          clear B9 ho9 hg9 hA1 hB1 hA0 hB0 HCD lo hbs
          (refine hK _ _ ⟨hA2, fun h => absurd (h.symm.trans (by kernel_rfl : _ = true)) Bool.false_ne_true⟩ ?_; clear hK K; (try simp only [Act.put, List.setIfInBounds_toArray, List.set_cons_zero, List.set_cons_succ]))
          refine uOne (i := 9) rfl (by kernel_rfl) (fun K hK => ?_)
          go_simp
          (refine hK _ _ ⟨hA2, fun h => absurd (h.symm.trans (by kernel_rfl : _ = true)) Bool.false_ne_true⟩ ?_; clear hK K; (try simp only [Act.put, List.setIfInBounds_toArray, List.set_cons_zero, List.set_cons_succ]))
          refine uOne (i := 10) rfl (by kernel_rfl) (fun K hK => ?_)
          go_simp
          (refine hK _ _ ⟨hA3, fun h => absurd (h.symm.trans (by kernel_rfl : _ = true)) Bool.false_ne_true⟩ ?_; clear hK K; (try simp only [Act.put, List.setIfInBounds_toArray, List.set_cons_zero, List.set_cons_succ]))
          refine anyU_done (by kernel_rfl) ?_ _
          clear e9 f9 l9 hA2 hA3
          go_wp2
          go_roundw
          case rel => exact ⟨k + 1, km + 1, _, by go_num, by omega, by omega, HC9⟩
          case measure => simp [intOf]; omega
        | false =>
          have HC9 := Lib.hid (show Bld w2 wr (.slice A na ca) (.int .i64 st) (.slice MA km mc) (.slice none 0 0) km 0 (intS (a.ma.take (k + 1)) set) [] from by rw [intS_snoc HYE.out, HYQ.out, if_neg (by simp), List.append_nil]; exact HC.out)
          go_wp2_with fail
          refine HH.out.mono ?_
          rintro e wx ⟨rfl, rfl⟩
          clear c2 c3 HH
          go_wp2
          go_roundw
          case rel => exact ⟨k + 1, km, _, by go_num, by omega, by omega, HC9⟩
          case measure => simp [intOf]; omega
      · obtain rfl : k = nm := by omega
        have hC := HC.out
        rw [List.take_of_length_le (by rw [HX.out.lm]; exact Nat.le_refl _)] at hC
        have HD0 := Lib.hid (show Bld w2 wr (.slice A na ca) (.int .i64 st) (.slice MA km mc) (.slice none 0 0) km 0 (intS a.ma set) ((a.ed.take 0).filter (inE set)) from hC)
        have b1 : ¬ (k : Int) < (k : Int) := by omega
        clear hC HC
        go_wp2
        clear c2
        go_loopw [7] (fun s7 wr => ∃ (k ke : Nat) (ev : Value), s7 = .int .i64 k ∧ k ≤ ne ∧ ke ≤ k ∧ Hid (Bld w2 wr (.slice A na ca) (.int .i64 st) (.slice MA km mc) ev km ke (intS a.ma set) ((a.ed.take k).filter (inE set)))) (fun s7 _ => ne - (intOf s7).toNat)
        case atStart => exact ⟨0, 0, _, rfl, Nat.zero_le _, Nat.le_refl _, HD0⟩
        case round =>
          clear HD0 b1
          obtain ⟨k, ke, ev, rfl, hk, hke, HC⟩ := hrel
          obtain ⟨EA, ec, rfl⟩ := own_shape HC.out.edg
          have c3 := (K3.out.below HC.out.bel K3.out.lt).cell (j := 3) rfl
          by_cases hlt : k < ne
          · obtain ⟨ed, x, hE, hxb, hxe, hcell⟩ := HX.out.re.get (k := k) (by rw [HX.out.le]; exact hlt)
            subst hE
            have b1 : (k : Int) < (ne : Int) := by omega
            have HAT := Lib.hid (fun (W : World) (hb : Below w2.heap.size w2 W) => (show W.cell? ⟨w.heap.size, 3, none⟩ = some (.slice (some ed) ne ce) ∧ W.cell? (ed.add (k * 3)) = some (.int .i64 x.f) ∧ W.cell? ⟨(ed.add (k * 3)).block, (ed.add (k * 3)).off + 1, none⟩ = some (.int .i64 x.e) ∧ W.cell? ⟨(ed.add (k * 3)).block, (ed.add (k * 3)).off + 2, none⟩ = some (.int .i64 x.t) from by
              have hbk : (ed.add (k * 3)).block < w2.heap.size := by rw [block_of_add]; exact hxb
              exact ⟨(K3.out.below hb K3.out.lt).cell (j := 3) rfl, (hb.cell (p := ed.add (k * 3)) hbk).trans (hcell 0 _ rfl), (hb.cell (p := ⟨(ed.add (k * 3)).block, (ed.add (k * 3)).off + 1, none⟩) hbk).trans (st_cells (j := 0) (hcell 1 _ rfl)), (hb.cell (p := ⟨(ed.add (k * 3)).block, (ed.add (k * 3)).off + 2, none⟩) hbk).trans (st_cells (j := 1) (hcell 2 _ rfl))⟩))
            obtain ⟨_, g0, g1, g2⟩ := HAT.out wr HC.out.bel
            obtain ⟨qf, hqf⟩ : ∃ q, hasB set x.f = q := ⟨_, rfl⟩
            obtain ⟨qt, hqt⟩ : ∃ q, hasB set x.t = q := ⟨_, rfl⟩
            have HH1 := Lib.hid (HHAS.out wr HC.out.bel x.f qf hqf)
            have HH2 := Lib.hid (HHAS.out wr HC.out.bel x.t qt hqt)
            have HXE := Lib.hid hxe; clear hxe
            have HQF := Lib.hid hqf; clear hqf
            have HQT := Lib.hid hqt; clear hqt
            clear hcell hxb
            cases qf with
            | false =>
              go_wp2_with fail
              refine HH1.out.mono ?_
              rintro e wx ⟨rfl, rfl⟩
              clear c3 g0 g1 g2 HH1 HH2
              have HC9 := Lib.hid (show Bld w2 wr (.slice A na ca) (.int .i64 st) (.slice MA km mc) (.slice EA ke ec) km ke (intS a.ma set) ((a.ed.take (k + 1)).filter (inE set)) from by rw [filter_snoc HXE.out, if_neg (by show ¬ (hasB set x.f && hasB set x.t) = true; rw [HQF.out, HQT.out]; simp), List.append_nil]; exact HC.out)
              go_wp2
              go_roundw
              case rel => exact ⟨k + 1, ke, _, by go_num, by omega, by omega, HC9⟩
              case measure => simp [intOf]; omega
            | true =>
              cases qt with
              | false =>
                go_wp2_with fail
                refine HH1.out.mono ?_
                rintro e wx ⟨rfl, rfl⟩
                go_wp2_with fail
                refine HH2.out.mono ?_
                rintro e wx ⟨rfl, rfl⟩
                clear c3 g0 g1 g2 HH1 HH2
                have HC9 := Lib.hid (show Bld w2 wr (.slice A na ca) (.int .i64 st) (.slice MA km mc) (.slice EA ke ec) km ke (intS a.ma set) ((a.ed.take (k + 1)).filter (inE set)) from by rw [filter_snoc HXE.out, if_neg (by show ¬ (hasB set x.f && hasB set x.t) = true; rw [HQF.out, HQT.out]; simp), List.append_nil]; exact HC.out)
                go_wp2
                go_roundw
                case rel => exact ⟨k + 1, ke, _, by go_num, by omega, by omega, HC9⟩
                case measure => simp [intOf]; omega
              | true =>
                have HSN := Lib.hid (show (a.ed.take (k + 1)).filter (inE set) = (a.ed.take k).filter (inE set) ++ [x] by rw [filter_snoc HXE.out, if_pos (by show (hasB set x.f && hasB set x.t) = true; rw [HQF.out, HQT.out]; rfl)])
                go_wp2_with fail
                refine HH1.out.mono ?_
                rintro e wx ⟨rfl, rfl⟩
                go_wp2_with fail
                refine HH2.out.mono ?_
                rintro e wx ⟨rfl, rfl⟩
                clear c3 g0 g1 g2 HH1 HH2
                have HCD := Lib.hid (HC.out.quiet (below_dr wr))
                go_upto_region 14 with fail
                refine wp_region_U (fun W => W.cell? ⟨w.heap.size, 3, none⟩ = some (.slice (some ed) ne ce) ∧ W.cell? (ed.add (k * 3)) = some (.int .i64 x.f) ∧ W.cell? ⟨(ed.add (k * 3)).block, (ed.add (k * 3)).off + 1, none⟩ = some (.int .i64 x.e) ∧ W.cell? ⟨(ed.add (k * 3)).block, (ed.add (k * 3)).off + 2, none⟩ = some (.int .i64 x.t)) (fun W => W.cell? ⟨w2.heap.size, 3, none⟩ = some (.slice EA ke ec)) 8 (by kernel_rfl) ?_
                change anyU _ _ _ _ _ _ _ 11 _ _ _
                generalize hwd : wr.drew = wd at HCD ⊢
                have HWD := Lib.hid hwd; clear hwd
                have hA0 := HAT.out wd HCD.out.bel
                have hB0 : wd.cell? ⟨w2.heap.size, 3, none⟩ = some (.slice EA ke ec) := HCD.out.blk.cell (j := 3) rfl
                have lo := HCD.out.blk.lt
                have hbs : w2.heap.size + 1 ≤ wd.heap.size := lo
                (refine uA 0 ?_ rfl hA0 hB0 (fun W hA => ?_) ?_; rotate_left; (· (go_simp; try with_reducible rfl)); (try simp only [Act.put, List.setIfInBounds_toArray, List.set_cons_zero, List.set_cons_succ]))
                (refine uB 1 ?_ rfl hA0 hB0 (fun W hA hB => ?_) ?_; rotate_left; (· (go_simp; try with_reducible rfl)); (try simp only [Act.put, List.setIfInBounds_toArray, List.set_cons_zero, List.set_cons_succ]))
                (refine uA 2 ?_ rfl hA0 hB0 (fun W hA => ?_) ?_; rotate_left; (· (go_simp; try with_reducible rfl)); (try simp only [Act.put, List.setIfInBounds_toArray, List.set_cons_zero, List.set_cons_succ]))
                (refine uA 3 ?_ rfl hA0 hB0 (fun W hA => ?_) ?_; rotate_left; (· (obtain ⟨a0, a1, a2, a3⟩ := hA; go_simp; try with_reducible rfl)); (try simp only [Act.put, List.setIfInBounds_toArray, List.set_cons_zero, List.set_cons_succ]))
                (refine uA 4 ?_ rfl hA0 hB0 (fun W hA => ?_) ?_; rotate_left; (· (go_simp; try with_reducible rfl)); refine uA 5 ?_ rfl hA0 hB0 (fun W hA => ?_) ?_; rotate_left; (· (go_simp; try with_reducible rfl)); (try simp only [Act.put, List.setIfInBounds_toArray, List.set_cons_zero, List.set_cons_succ]))
                (refine uA 6 ?_ rfl hA0 hB0 (fun W hA => ?_) ?_; rotate_left; (· (obtain ⟨a0, a1, a2, a3⟩ := hA; go_simp; try with_reducible rfl)); (try simp only [Act.put, List.setIfInBounds_toArray, List.set_cons_zero, List.set_cons_succ]))
                refine uOne (i := 7) rfl (by kernel_rfl) (fun K hK => ?_)
                go_simp
                have hA1 := HAT.out (wd.alloc (.cells #[.int .i64 x.f, .int .i64 x.e, .int .i64 x.t] 83)) (HCD.out.bel.alloc (Nat.le_of_lt lo) _)
                have hB1 : (wd.alloc (.cells #[.int .i64 x.f, .int .i64 x.e, .int .i64 x.t] 83)).cell? ⟨w2.heap.size, 3, none⟩ = some (.slice EA ke ec) := (World.cell?_alloc_lt _ _ ⟨w2.heap.size, 3, none⟩ lo).trans hB0
                (refine hK _ _ ⟨hA1, fun _ => hB1⟩ ?_; clear hK K; (try simp only [Act.put, List.setIfInBounds_toArray, List.set_cons_zero, List.set_cons_succ]))
                refine uOne (i := 8) rfl (by kernel_rfl) (fun K hK => ?_)
                refine step_pushN wd [.int .i64 x.f, .int .i64 x.e, .int .i64 x.t] (by rfl) (.tmp 68) (.tmp 74) 23 (by rfl) (w2.heap.size + 1) 83 (.agg #[.int .i64 0, .int .i64 0, .int .i64 0]) 3 24 Tryd.underlying23 edge_info (by rfl) (by decide) (by rfl) (.slice EA ke ec) ke _ (by rfl) HCD.out.edg (by rfl) (fun q hq => by simp at hq; rcases hq with rfl | rfl | rfl <;> rfl) (by omega) (by omega) hbs ?_
                intro A9 c9 w9 ho9 hg9
                have B9 := HCD.out.blk.kept hg9 (own_lt_ne HCD.out.edg (Nat.lt_succ_self _))
                have e9 := B9.cell (j := 3) rfl
                have f9 := B9.free 3
                have l9 := B9.lt
                have hC9 := HCD.out.edge (x := x) ho9 hg9
                have hA2 := HAT.out w9 (HCD.out.bel.grown hg9 (Nat.le_of_lt lo) (fun j hj => by have := (HCD.out.edg.lt j hj).1; omega))
                have hA3 := HAT.out _ hC9.bel
                rw [← HSN.out] at hC9
                have HC9 := Lib.hid hC9; clear hC9
                clear B9 ho9 hg9 hA1 hB1 hA0 hB0 HCD lo hbs
                (refine hK _ _ ⟨hA2, fun h => absurd (h.symm.trans (by kernel_rfl : _ = true)) Bool.false_ne_true⟩ ?_; clear hK K; (try simp only [Act.put, List.setIfInBounds_toArray, List.set_cons_zero, List.set_cons_succ]))
                refine uOne (i := 9) rfl (by kernel_rfl) (fun K hK => ?_)
                go_simp
                (refine hK _ _ ⟨hA2, fun h => absurd (h.symm.trans (by kernel_rfl : _ = true)) Bool.false_ne_true⟩ ?_; clear hK K; (try simp only [Act.put, List.setIfInBounds_toArray, List.set_cons_zero, List.set_cons_succ]))
                refine uOne (i := 10) rfl (by kernel_rfl) (fun K hK => ?_)
                go_simp
                (refine hK _ _ ⟨hA3, fun h => absurd (h.symm.trans (by kernel_rfl : _ = true)) Bool.false_ne_true⟩ ?_; clear hK K; (try simp only [Act.put, List.setIfInBounds_toArray, List.set_cons_zero, List.set_cons_succ]))
                refine anyU_done (by kernel_rfl) ?_ _
                clear e9 f9 l9 hA2 hA3
                go_wp2
                go_roundw
                case rel => exact ⟨k + 1, ke + 1, _, by go_num, by omega, by omega, HC9⟩
                case measure => simp [intOf]; omega
          · obtain rfl : k = ne := by omega
            have hC := HC.out
            rw [List.take_of_length_le (by rw [HX.out.le]; exact Nat.le_refl _)] at hC
            have b1 : ¬ (k : Int) < (k : Int) := by omega
            have hra := hC.rd (al := a.al) (st := st) HX.out.la HX.out.ac HX.out.cA ((HX.out.ra.below hC.bel).more hC.bel.size)
            have HCA := Lib.hid (automaton_Canonical A na ca MA km mc EA ke ec ⟨a.al, st, intS a.ma set, a.ed.filter (inE set)⟩ wr hra (by have := rst_wf (set := set) HWF.out; unfold rstA at this; rw [HST.out] at this; exact this))
            have HCE := Lib.hid (show canA ⟨a.al, st, intS a.ma set, a.ed.filter (inE set)⟩ = witA a set by rw [HA.out]; unfold rstA; rw [HST.out])
            rw [HCE.out] at HCA
            have o0 := hC.blk.cell (j := 0) rfl
            have o1 := hC.blk.cell (j := 1) rfl
            have o2 := hC.blk.cell (j := 2) rfl
            have o3 := hC.blk.cell (j := 3) rfl
            have HC9 := Lib.hid hC; clear hC
            clear HC hra
            go_wp2_with fail
            refine HCA.out.mono ?_
            rintro e wz ⟨A9, na9, ca9, M9, nm9, cm9, E9, ne9, ce9, rfl, ho9, hb9⟩
            clear c3 o0 o1 o2 o3 HCA
            have hCz := HC9.out.quiet hb9
            have o0 := hCz.blk.cell (j := 0) rfl
            have o1 := hCz.blk.cell (j := 1) rfl
            have o2 := hCz.blk.cell (j := 2) rfl
            have o3 := hCz.blk.cell (j := 3) rfl
            have p0 := hCz.blk.free 0
            have p1 := hCz.blk.free 1
            have p2 := hCz.blk.free 2
            have p3 := hCz.blk.free 3
            have lo := hCz.blk.lt
            obtain ⟨s9, hs9⟩ : ∃ s, (witA a set).st = s := ⟨_, rfl⟩
            rw [hs9]
            have hbo := hCz.blk.set4 (.slice A9 na9 ca9) (.int .i64 s9) (.slice M9 nm9 cm9) (.slice E9 ne9 ce9)
            have hbl := below_set4 (b := w2.heap.size) (v0 := .slice A9 na9 ca9) (v1 := .int .i64 s9) (v2 := .slice M9 nm9 cm9) (v3 := .slice E9 ne9 ce9) hCz.bel (Nat.le_refl _)
            have ho10 := ho9.keepB hCz.blk (grown_set4 wz w2.heap.size (.slice A9 na9 ca9) (.int .i64 s9) (.slice M9 nm9 cm9) (.slice E9 ne9 ce9))
            have HS9 := Lib.hid hs9; clear hs9
            clear hb9 ho9 hCz
            go_upto_region 16 with fail
            clear o0 o1 o2 o3 p0 p1 p2 p3 lo
            generalize (((wz.setCell ⟨w2.heap.size, 0, none⟩ (.slice A9 na9 ca9)).setCell ⟨w2.heap.size, 1, none⟩ (.int .i64 s9)).setCell ⟨w2.heap.size, 2, none⟩ (.slice M9 nm9 cm9)).setCell ⟨w2.heap.size, 3, none⟩ (.slice E9 ne9 ce9) = we at hbo hbl ho10 ⊢
            have o0 := hbo.cell (j := 0) rfl
            have o1 := hbo.cell (j := 1) rfl
            have o2 := hbo.cell (j := 2) rfl
            have o3 := hbo.cell (j := 3) rfl
            have kR9 := KR.out.below hbl KR.out.lt
            have hB9 := HB1.out.trans (hbl.mono HB1.out.size)
            have f0 := kR9.free 0
            have f1 := kR9.free 1
            have f2 := kR9.free 2
            have f3 := kR9.free 3
            have e0 := kR9.cell (j := 0) rfl
            have e1 := kR9.cell (j := 1) rfl
            have e2 := kR9.cell (j := 2) rfl
            have e3 := kR9.cell (j := 3) rfl
            have l9 := kR9.lt
            have HO9 := Lib.hid ho10; clear ho10
            clear hbo hbl
            go_wp2
            have hb4 := kR9.set4 (.slice A9 na9 ca9) (.int .i64 s9) (.slice M9 nm9 cm9) (.slice E9 ne9 ce9)
            have z0 := hb4.cell (j := 0) rfl
            have z1 := hb4.cell (j := 1) rfl
            have z2 := hb4.cell (j := 2) rfl
            have z3 := hb4.cell (j := 3) rfl
            have F := below_set4 (b := w.heap.size + 1) (v0 := .slice A9 na9 ca9) (v1 := .int .i64 s9) (v2 := .slice M9 nm9 cm9) (v3 := .slice E9 ne9 ce9) hB9 (Nat.le_succ _)
            have hoF := HO9.out.keepB kR9 (grown_set4 we (w.heap.size + 1) (.slice A9 na9 ca9) (.int .i64 s9) (.slice M9 nm9 cm9) (.slice E9 ne9 ce9))
            refine bodyPost_ret (v := .agg #[.slice A9 na9 ca9, .int .i64 s9, .slice M9 nm9 cm9, .slice E9 ne9 ce9]) (by simp [results, Tryd.results35, go_sem, z0, z1, z2, z3]) rfl ?_
            exact ⟨A9, na9, ca9, M9, nm9, cm9, E9, ne9, ce9, by rw [HS9.out], hoF.rd, F⟩
end Go.Proofs.YtcchnibgehonoaaDoor
