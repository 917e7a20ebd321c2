/- Walks: product.open. -/
import Derived.Test.YtbdliebjalghmaaDoorMa
namespace Go.Proofs.YtbdliebjalghmaaDoor
open Go.RowKit Go Go.Maps

theorem map_info : (Tryd.prog.info? 105).map (fun i => (i.zero, i.size, i.bytes)) = some (some (.map none), 1, 8) := by kernel_rfl
def mpv (gl : List Nat) : List Value := gl.map (fun b => .map (some b))
/-- the maps made so far -/
def MapsR (w : World) (B : Nat) (gl : List Nat) (l : List Aut) : Prop := gl.length = l.length ∧ ∀ (j b : Nat) (a : Aut), gl[j]? = some b → l[j]? = some a → B ≤ b ∧ ∃ m, TabE w b m a.ed
theorem MapsR.step {w w' : World} {B bm m : Nat} {gl : List Nat} {l : List Aut} {a : Aut} (h : MapsR w B gl l) (hk : ∀ b n ed, TabE w b n ed → B ≤ b → TabE w' b n ed) (hB : B ≤ bm) (ht : TabE w' bm m a.ed) : MapsR w' B (gl ++ [bm]) (l ++ [a]) := by
  refine ⟨by simp [h.1], fun j b x hb hx => ?_⟩
  rcases Nat.lt_or_ge j gl.length with hj | hj
  · rw [List.getElem?_append_left hj] at hb
    rw [List.getElem?_append_left (by rw [← h.1]; exact hj)] at hx
    obtain ⟨h1, n, h2⟩ := h.2 j b x hb hx
    exact ⟨h1, n, hk b n _ h2 h1⟩
  · rw [List.getElem?_append_right hj] at hb
    rw [List.getElem?_append_right (by rw [← h.1]; exact hj)] at hx
    have hj0 : j - gl.length = 0 := by
      rcases Nat.eq_zero_or_pos (j - gl.length) with h0 | h0
      · exact h0
      · rw [List.getElem?_eq_none (by simp; omega)] at hb; cases hb
    rw [hj0] at hb
    rw [← h.1, hj0] at hx
    simp at hb hx
    subst hb hx
    exact ⟨hB, m, ht⟩
theorem tab_ne_own {w : World} {b n : Nat} {ed : List Ed} (h : TabE w b n ed) {base : Nat} {e : TypeId} {size m : Nat} {v : Value} {xs : List Value} (ho : w.ownsRow base e size v m xs) : some b ≠ v.ownBlock := by
  obtain ⟨D, ⟨es, clock, hb, _⟩, _⟩ := h
  rcases ho.2 with ⟨rfl, _⟩ | ⟨g, cap, cur, rfl, _, hg, _⟩
  · simp [Value.ownBlock]
  · intro he
    simp only [Value.ownBlock, Option.some.injEq] at he
    subst he
    rw [hb] at hg; cases hg
theorem tab_ne_blk {w : World} {b n c : Nat} {ed : List Ed} {t : TypeId} {vs : List Value} (h : TabE w b n ed) (hc : Blk w c t vs) : b ≠ c := by
  obtain ⟨D, ⟨es, clock, hb, _⟩, _⟩ := h
  rintro rfl
  unfold Blk at hc
  rw [hb] at hc; cases hc
theorem open_step {wr wi w' : World} {mb bm m k : Nat} {gl : List Nat} {gv v' : Value} {l : List Aut} {a : Aut} (hM : MapsR wr (mb + 1) gl l) (h1 : wr.grownBy wi (some bm)) (hbm : wr.heap.size ≤ bm) (hmb : mb + 1 ≤ bm)
    (ho : wi.ownsRow (mb + 1) 105 1 gv k (mpv gl)) (h2 : wi.grownBy w' gv.ownBlock) (hT : TabE wi bm m a.ed) : MapsR (w'.setCell ⟨mb, 2, none⟩ v') (mb + 1) (gl ++ [bm]) (l ++ [a]) := by
  refine hM.step (fun b n ed ht hB => ?_) hmb (m := m) ?_
  · have hlt : b < wr.heap.size := TabI.lt ht
    have t1 : TabE wi b n ed := TabI.kept ht h1 (fun e => by injection e with e; omega)
    have t2 : TabE w' b n ed := TabI.kept t1 h2 (tab_ne_own t1 ho)
    exact TabI.kept t2 (grown_setCell w' mb 2 v') (fun e => by injection e with e; omega)
  · have t2 : TabE w' bm m a.ed := TabI.kept hT h2 (tab_ne_own hT ho)
    exact TabI.kept t2 (grown_setCell w' mb 2 v') (fun e => by injection e with e; omega)
theorem own_kept_new {w w' : World} {base bm : Nat} {e : TypeId} {size n : Nat} {v : Value} {xs : List Value} (h : w.ownsRow base e size v n xs) (hg : w.grownBy w' (some bm)) (hb : w.heap.size ≤ bm) : w'.ownsRow base e size v n xs := by
  refine h.kept hg ?_
  cases hv : v.ownBlock with
  | none => exact .inl rfl
  | some g =>
    right
    have := (h.lt g hv).2
    intro e; injection e with e; omega
theorem own_shape {w : World} {base : Nat} {e : TypeId} {size n : Nat} {v : Value} {xs : List Value} (h : w.ownsRow base e size v n xs) : ∃ A c, v = .slice A n c := by
  rcases h.2 with ⟨rfl, rfl⟩ | ⟨g, cap, cur, rfl, _⟩
  · exact ⟨_, _, rfl⟩
  · exact ⟨_, _, rfl⟩
theorem own_cap' {w : World} {base : Nat} {e : TypeId} {size n cap : Nat} {A : Option Addr} {xs : List Value} (h : w.ownsRow base e size (.slice A n cap) n xs) : n ≤ cap ∧ cap ≤ 9223372036854775807 := by
  rcases h.2 with ⟨h', h0⟩ | ⟨g', cap', cur, h', _, _, hnc, hcm, _⟩
  · injection h' with _ _ h'
    subst h' h0; exact ⟨Nat.le_refl _, by omega⟩
  · injection h' with _ _ h'
    subst h'
    exact ⟨hnc, by simpa [maxLen] using hcm⟩
theorem rdg_of {w : World} {r base B n cg : Nat} {G : Option Addr} {gl : List Nat} {l : List Aut} (ho : w.ownsRow base 105 1 (.slice G n cg) n (mpv gl)) (hM : MapsR w B gl l) (h1 : r < base) (h2 : r < B) : RdGF w r w.heap.size G l := fun k a ha => by
  have hk : k < gl.length := by rw [hM.1]; exact (List.getElem?_eq_some_iff.1 ha).1
  have hb : gl[k]? = some gl[k] := List.getElem?_eq_getElem hk
  obtain ⟨h3, m, ht⟩ := hM.2 k _ a hb ha
  obtain ⟨ad, e, hlt, hc⟩ := RdV.of_own ho k (.map (some gl[k])) (by simp [mpv, hb])
  subst e
  have hba := (ho.lt ad.block rfl).1
  exact ⟨ad, gl[k], m, rfl, by omega, hlt, by omega, TabI.lt ht, hc, ht⟩
theorem MapsR.kept {w w' : World} {B r : Nat} {gl : List Nat} {l : List Aut} (h : MapsR w B gl l) (hg : w.grownBy w' (some r)) (hr : r < B) : MapsR w' B gl l := ⟨h.1, fun j b a hb ha => by
  obtain ⟨h1, m, h2⟩ := h.2 j b a hb ha
  exact ⟨h1, m, TabI.kept h2 hg (fun e => by injection e with e; omega)⟩⟩
theorem own_kept_low {w w' : World} {base r : Nat} {e : TypeId} {size n : Nat} {v : Value} {xs : List Value} (h : w.ownsRow base e size v n xs) (hg : w.grownBy w' (some r)) (hb : r < base) : w'.ownsRow base e size v n xs := by
  refine h.kept hg ?_
  cases hv : v.ownBlock with
  | none => exact .inl rfl
  | some g =>
    right
    have := (h.lt g hv).1
    intro e; injection e with e; omega
theorem mpv_snoc (gl : List Nat) (b : Nat) : mpv (gl ++ [b]) = mpv gl ++ [.map (some b)] := by simp [mpv]
/-- What open hands back. -/
def RetMch (r : Nat) (L : Option Addr) (n c : Nat) (xs : List AV) (w : World) (e : Ending) (w' : World) : Prop :=
  ∃ V nv cv G cg, e = .returned (.agg #[.slice L n c, .slice V nv cv, .slice G n cg]) ∧ MachF w' r w'.heap.size L n c V nv cv G cg xs ∧ Below w.heap.size w w'

set_option maxRecDepth 100000 in
set_option maxHeartbeats 3200000 in
theorem product_open (L : Option Addr) (c n : Nat) (xs : List AV) (w : World) (r : Nat) (hl : xs.length = n) (h0 : RdL w r L xs) (hr : r ≤ w.heap.size) (hc1 : n ≤ c) (hc2 : c ≤ 9223372036854775807) (hn : n ≤ 12) (hw : ∀ a ∈ xs.map AV.a, WF a) :
    Calls Tryd.prog 46 #[.slice L n c] w (RetMch r L n c xs w) := by
  have h := h0.more hr
  have hmm := @run_makeMap Tryd.prog
  have hB0 := box_below w (.cells #[.slice none 0 0, .slice none 0 0, .slice none 0 0] 91)
  have HEV := Lib.hid (product_events L c n xs _ hl ((h.below hB0).more hB0.size) hc1 hc2 hw)
  have hr0 : Blk (w.alloc (.cells #[.slice none 0 0, .slice none 0 0, .slice none 0 0] 91)) w.heap.size 91 [.slice none 0 0, .slice none 0 0, .slice none 0 0] := Blk.new _ _ _
  have HR0 := Lib.hid hr0; clear hr0
  have HL := Lib.hid hl; clear hl
  have HW := Lib.hid hw; clear hw
  go_enter Tryd.func46, Tryd.ntmps46
  go_wp2_with fail
  refine HEV.out.mono ?_
  rintro e w2 ⟨v, rfl, ho, hb⟩
  have hs2 := hb.size
  have ho0 := ho
  obtain ⟨V, cv, rfl, gv1, gv2, gv3⟩ := own_slI ho
  obtain ⟨nv, hnv⟩ : ∃ nv, (evs (xs.map AV.a)).length = nv := ⟨_, rfl⟩
  rw [hnv] at gv1 ⊢
  have HB2 := Lib.hid (hB0.trans (hb.mono hB0.size))
  have HR2 := Lib.hid (HR0.out.below hb (by simp))
  have HV := Lib.hid ho0
  have HNV := Lib.hid hnv; clear hnv
  clear HEV HR0 ho ho0 hb gv3
  have hbk := Blk.new w2 91 [.slice L n c, .slice V nv cv, .slice none 0 0]
  have HBK := Lib.hid hbk; clear hbk
  go_wp2
  go_loopw [15] (fun s15 wr => ∃ (k : Nat) (gl : List Nat) (gv : Value), k ≤ n ∧ s15 = .int .i64 k ∧ Hid (Blk wr w2.heap.size 91 [.slice L n c, .slice V nv cv, gv]) ∧ Hid (wr.ownsRow (w2.heap.size + 1) 105 1 gv k (mpv gl)) ∧ Hid (MapsR wr (w2.heap.size + 1) gl ((xs.map AV.a).take k)) ∧ Below w2.heap.size w2 wr) (fun s15 _ => n - (intOf s15).toNat)
  case atStart => exact ⟨0, [], _, Nat.zero_le _, rfl, HBK, Lib.hid (World.ownsRow_nil _ _ _ _), Lib.hid ⟨rfl, fun j b a hb => by simp at hb⟩, box_below _ _⟩
  case round =>
    obtain ⟨k, gl, gv, hk, rfl, HB, HO, HM, hbel2⟩ := hrel
    clear HBK
    obtain ⟨wo, rfl⟩ : ∃ wo : World, wo = wr := ⟨_, rfl⟩
    have hsz2 : w2.heap.size + 1 ≤ wo.heap.size := HB.out.lt
    have hbel : Below w.heap.size w wo := HB2.out.trans (hbel2.mono (HB2.out.size))
    have hsz := hbel.size
    by_cases hlt : k < n
    · obtain ⟨ad, A', na, ca, M, nm, cm, E, ne, ce, a, rfl, hbb, hx, q0, q1, q2, q3, haR⟩ := ((h.below hbel).more hsz).at_ (k := k) (by have := HL.out; omega)
      have b1 : (k : Int) < (n : Int) := by omega
      have p1 : wo.cell? ⟨(ad.add (k * 4)).block, (ad.add (k * 4)).off + 1, none⟩ = some (.int .i64 a.st) := st_cells (j := 0) q1
      have p2 : wo.cell? ⟨(ad.add (k * 4)).block, (ad.add (k * 4)).off + 2, none⟩ = some (.slice M nm cm) := st_cells (j := 1) q2
      have p3 : wo.cell? ⟨(ad.add (k * 4)).block, (ad.add (k * 4)).off + 3, none⟩ = some (.slice E ne ce) := st_cells (j := 2) q3
      clear q1 q2 q3
      have hxa : (xs.map AV.a)[k]? = some a := by simp [hx]
      have hwa := HW.out a (List.mem_of_getElem? hxa)
      have HEI := Lib.hid hwa.einc
      have hre := haR.re
      have hle := haR.le
      have hec := haR.ec
      have hcE := haR.cE
      have hedl := hwa.ed_le
      rw [hle] at hedl
      have HEV := Lib.hid (fun (x : Ed) (hx : x ∈ a.ed) => hwa.ev_rng hx)
      have hst1 := hwa.st1
      have HLE := Lib.hid hle; clear hle
      have HXA := Lib.hid hxa; clear hxa
      have HX := Lib.hid hx; clear hx
      have HWA := Lib.hid hwa; clear hwa
      clear haR
      go_wp2
      have hg0 : wo.grownBy ((wo.alloc (.cells #[.slice A' na ca, .int .i64 a.st, .slice M nm cm, .slice E ne ce] 29)).alloc (.map #[] 0)) (some (wo.heap.size + 1)) := (grown_alloc _ _ _).trans (grown_alloc _ _ _)
      have hT0 : TabE ((wo.alloc (.cells #[.slice A' na ca, .int .i64 a.st, .slice M nm cm, .slice E ne ce] 29)).alloc (.map #[] 0)) (wo.heap.size + 1) 0 (a.ed.take 0) := by
        have := TabI.made (wo.alloc (.cells #[.slice A' na ca, .int .i64 a.st, .slice M nm cm, .slice E ne ce] 29)) Tryd.prog 106 3 kP
        rw [show (wo.alloc (.cells #[.slice A' na ca, .int .i64 a.st, .slice M nm cm, .slice E ne ce] 29)).heap.size = wo.heap.size + 1 by simp] at this
        exact this
      have HG0 := Lib.hid hg0; clear hg0
      have HT0 := Lib.hid hT0; clear hT0
      go_loopw [23] (fun s23 wi => ∃ q : Nat, q ≤ ne ∧ s23 = .int .i64 q ∧ Hid (TabE wi (wo.heap.size + 1) q (a.ed.take q)) ∧ Hid (wo.grownBy wi (some (wo.heap.size + 1)))) (fun s23 _ => ne - (intOf s23).toNat)
      case atStart => exact ⟨0, Nat.zero_le _, rfl, HT0, HG0⟩
      case round =>
        obtain ⟨q, hq, rfl, HT, HG⟩ := hrel
        clear HT0 HG0
        have hszi : wo.heap.size ≤ wr.heap.size := HG.out.size
        by_cases hql : q < ne
        · have hre' : RdX wr wo.heap.size E a.ed := hre.keep fun p hp => HG.out.cell_far p hp (by intro e; injection e with e; omega)
          obtain ⟨ed, x, rfl, hbe, hxe, g0, g1, g2⟩ := hre'.at_ (k := q) (by have := HLE.out; omega)
          have c1 : (q : Int) < (ne : Int) := by omega
          have r1 : wr.cell? ⟨(ed.add (q * 3)).block, (ed.add (q * 3)).off + 1, none⟩ = some (.int .i64 x.e) := st_cells (j := 0) g1
          have r2 : wr.cell? ⟨(ed.add (q * 3)).block, (ed.add (q * 3)).off + 2, none⟩ = some (.int .i64 x.t) := st_cells (j := 1) g2
          clear g1 g2
          have hrng := HEV.out x (List.mem_of_getElem? hxe)
          have hput := lkE_put HEI.out hxe
          have HPUT := Lib.hid hput
          have w1 : (Lit.int .i64 x.f).wf = true := WalkArith.wf_i64 (by omega)
          have w2' : (Lit.int .i64 x.e).wf = true := WalkArith.wf_i64 (by omega)
          have w3 : (Lit.int .i64 x.t).wf = true := WalkArith.wf_i64 (by omega)
          have HKEY := Lib.hid (pairKey wr x.f x.e w1 w2')
          have HW3 := Lib.hid w3
          have HT2 := Lib.hid (TabI.alloc HT.out (.cells #[.int .i64 x.f, .int .i64 x.e, .int .i64 x.t] 43))
          have HXE := Lib.hid hxe; clear hxe
          clear hput w1 w2' w3 hrng hre'
          go_wp2_with (at_mapUpdate; refine wpList_tab_put rfl (.tmp 27) (.tmp 32) (.tmp 34) 105 rfl pairLaw Tryd.underlying105 Tryd.underlying3 rfl HT2.out (by omega) (x.f, x.e) rfl HKEY.out x.t rfl HW3.out (fun p => lkE p.1 p.2 (a.ed.take (q + 1))) (fun d hd => by rw [kP_inj hd]; exact (HPUT.out _ _).1 ⟨rfl, rfl⟩) (fun d hd => (HPUT.out _ _).2 (fun e => hd (by rw [show d = (x.f, x.e) from Prod.ext e.1.symm e.2.symm]))) ?_; intro w' hT' hg')
          go_roundw
          case rel => exact ⟨q + 1, by omega, by go_num, Lib.hid hT', Lib.hid (HG.out.trans ((grown_alloc _ _ _).trans hg'))⟩
          case measure => simp [intOf]; omega
        · obtain rfl : q = ne := by omega
          have hT := HT.out
          rw [List.take_of_length_le (by rw [HLE.out]; exact Nat.le_refl _)] at hT
          have hOi := own_kept_new HO.out HG.out (Nat.le_succ _)
          have hBi := HB.out.kept HG.out (by intro e; injection e with e; omega)
          have cc := hBi.cell (j := 2) rfl
          have HTI := Lib.hid hT
          have HOI := Lib.hid hOi
          have HBI := Lib.hid hBi
          have hszm : w2.heap.size + 1 ≤ wr.heap.size := by omega
          clear hT hOi hBi
          go_wp2_with (at_builtin; refine wpList_push _ (.map (some (wo.heap.size + 1))) rfl (.tmp 37) (.tmp 39) 89 rfl (w2.heap.size + 1) 105 (.map none) 8 Tryd.underlying89 map_info rfl gv k _ rfl HOI.out rfl rfl (by omega) (by omega) hszm ?_; intro v' w' ho' hg' hb1; obtain ⟨Gx, cx, rfl⟩ := own_shape ho'; have HB5 := Lib.hid (HBI.out.kept hg' (fun e => by have := (HOI.out.lt _ e.symm).1; omega)); have c5 := HB5.out.cell (j := 2) rfl; have f5 := HB5.out.free 2; have l5 := HB5.out.lt)
          go_roundw
          case rel =>
            refine ⟨k + 1, gl ++ [wo.heap.size + 1], _, by omega, by go_num, Lib.hid (HB5.out.set (by simp) _), ?_, ?_, ?_⟩
            · rw [mpv_snoc]
              exact Lib.hid (ho'.kept (grown_setCell _ _ _ _) (by
                cases hv : (Value.slice Gx (k + 1) cx).ownBlock with
                | none => exact .inl rfl
                | some g => right; have := (ho'.lt g hv).1; intro e; injection e with e; omega))
            · rw [take_snoc' HXA.out]
              exact Lib.hid (open_step HM.out HG.out (Nat.le_succ _) (by omega) HOI.out hg' HTI.out)
            · exact (((hbel2.grown HG.out (by omega) (fun j e => by injection e with e; omega)).trans (hb1.mono (by omega)))).setCell (Nat.le_refl _) _
          case measure => simp [intOf]; omega
    · obtain rfl : k = n := by omega
      obtain ⟨G, cg, rfl⟩ := own_shape HO.out
      have k0 := HB.out.cell (j := 0) rfl
      have k1 := HB.out.cell (j := 1) rfl
      have k2 := HB.out.cell (j := 2) rfl
      have hr2 := HR2.out.below hbel2 HR2.out.lt
      have f0 := hr2.free 0
      have f1 := hr2.free 1
      have f2 := hr2.free 2
      have e0 := hr2.cell (j := 0) rfl
      have e1 := hr2.cell (j := 1) rfl
      have e2 := hr2.cell (j := 2) rfl
      have l0 : w.heap.size < wo.heap.size := hr2.lt
      go_wp2
      have hb3 := ((hr2.set (j := 0) (by simp) (.slice L k c)).set (j := 1) (by simp) (.slice V nv cv)).set (j := 2) (by simp) (.slice G k cg)
      have z0 := hb3.cell (j := 0) rfl
      have z1 := hb3.cell (j := 1) rfl
      have z2 := hb3.cell (j := 2) rfl
      refine bodyPost_ret (v := .agg #[.slice L k c, .slice V nv cv, .slice G k cg]) (by simp [results, Tryd.results46, go_sem, z0, z1, z2]) rfl ?_
      have hg3 : wo.grownBy (((wo.setCell ⟨w.heap.size, 0, none⟩ (.slice L k c)).setCell ⟨w.heap.size, 1, none⟩ (.slice V nv cv)).setCell ⟨w.heap.size, 2, none⟩ (.slice G k cg)) (some w.heap.size) := ((grown_setCell _ _ _ _).trans (grown_setCell _ _ _ _)).trans (grown_setCell _ _ _ _)
      have hB3 := hbel.grown hg3 hbel.size (fun j e => by injection e with e; omega)
      have hM := HM.out
      rw [List.take_of_length_le (by rw [List.length_map, HL.out]; exact Nat.le_refl _)] at hM
      have hV3 := own_kept_low (own_below HV.out hbel2) hg3 (by simp)
      refine ⟨V, nv, cv, G, cg, rfl, ⟨HL.out, hc1, hc2, h0.below (hB3.mono hr), HNV.out, gv1, gv2, RdI.of_own hV3, ?_, (own_cap' HO.out).1, (own_cap' HO.out).2, rdg_of (own_kept_low HO.out hg3 (by have := HB2.out.size; omega)) (hM.kept hg3 (by have := HB2.out.size; omega)) (by have := HB2.out.size; omega) (by have := HB2.out.size; omega)⟩, hB3⟩
      intro ad e
      subst e
      have := (hV3.lt ad.block rfl).1
      simp at this
      omega
end Go.Proofs.YtbdliebjalghmaaDoor
