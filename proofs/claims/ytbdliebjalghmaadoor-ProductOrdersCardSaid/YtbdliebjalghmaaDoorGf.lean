/- Walks: L06.List. -/
import Derived.Test.YtbdliebjalghmaaDoorGe
import Derived.Deep.MidRow
namespace Go.Proofs.YtbdliebjalghmaaDoor
open Go.RowKit Go

/-- a part as cells -/
def pcells (p : Pt) : List Value := .int .u8 p.ev :: gcells p.g
/-- A slice of parts. -/
def RdP (w : World) (B : Nat) (A : Option Addr) (ps : List Pt) : Prop := RdR 28 pcells w B A ps ∧ ∀ p ∈ ps, p.ok
def AV.own (w : World) (b : Nat) (x : AV) : Prop := AutO w b x.A x.na x.ca x.M x.nm x.cm x.E x.ne x.ce x.a
section
variable {w w' : World} {b b' : Nat} {A M E : Option Addr} {na ca nm cm ne ce : Nat} {a : Aut}
theorem AutO.kept (h : AutO w b A na ca M nm cm E ne ce a) {size n : Nat} {v : Value} {xs : List Value} (h' : w.ownsRow b' 29 size v n xs) (hg : w.grownBy w' v.ownBlock) : AutO w' b A na ca M nm cm E ne ce a :=
  ⟨h.la, own_kept_ne h.oa h' (by decide) hg, h.lm, own_kept_ne h.om h' (by decide) hg, h.le, own_kept_ne h.oe h' (by decide) hg⟩
end
theorem aut_info : (Tryd.prog.info? 29).map (fun i => (i.zero, i.size, i.bytes)) = some (some (.agg #[.slice none 0 0, .int .i64 0, .slice none 0 0, .slice none 0 0]), 4, 80) := by kernel_rfl
/-- What List hands back. -/
def RetL (l : List Aut) (w : World) (e : Ending) (w' : World) : Prop :=
  ∃ (A : Option Addr) (n c : Nat) (xs : List AV), e = .returned (.slice A n c) ∧ xs.map AV.a = l ∧ xs.length = n ∧ n ≤ c ∧ c ≤ 9223372036854775807 ∧ RdL w' w'.heap.size A xs ∧ Below w.heap.size w w'
theorem take_map {α β : Type} (f : α → β) {l : List α} {k : Nat} {x : α} (h : l[k]? = some x) : (l.take (k + 1)).map f = (l.take k).map f ++ [f x] := by rw [take_snoc' h]; simp
theorem range_below {w w' : World} {B bb o : Nat} {cs : List Value} (h : w.rangeAt bb o cs) (hb : Below B w w') (hB : bb < B) : w'.rangeAt bb o cs := fun j v hj => (hb.cell (p := ⟨bb, o + j, none⟩) hB).trans (h j v hj)

set_option maxRecDepth 100000 in
set_option maxHeartbeats 3200000 in
theorem law_List (A : Option Addr) (c n : Nat) (ps : List Pt) (w : World) (hl : ps.length = n) (h : RdP w w.heap.size A ps) :
    Calls Tryd.prog 14 #[.slice A n c] w (RetL (lstA ps) w) := by
  have HL := Lib.hid hl; clear hl
  have HH := Lib.hid h; clear h
  go_enter Tryd.func14, Tryd.ntmps14
  go_wp2
  go_loopw [3, 4] (fun s3 s4 wr => ∃ (k : Nat) (v : Value) (xs : List AV), s4 = .int .i64 k ∧ s3 = v ∧ k ≤ n ∧ k ≤ 3 ∧ Hid (xs.map AV.a = (ps.take k).map ptA) ∧ Hid (xs.length = k) ∧ Hid (wr.ownsRow w.heap.size 29 4 v k (xs.flatMap avc)) ∧ Hid (∀ x ∈ xs, x.own wr w.heap.size) ∧ Below w.heap.size w wr) (fun _ s4 _ => 3 - (intOf s4).toNat)
  case atStart => exact ⟨0, _, [], rfl, rfl, Nat.zero_le _, by omega, Lib.hid rfl, Lib.hid rfl, Lib.hid (World.ownsRow_nil _ _ _ _), Lib.hid (fun x hx => by simp at hx), Below.refl _ _⟩
  case round =>
    obtain ⟨k, v, xs, rfl, rfl, hk, hk3, HM, HN, HO, HX, hbel⟩ := hrel
    obtain ⟨VA, vc, rfl⟩ := own_shape HO.out
    have hsz := hbel.size
    by_cases hlt : k < n
    · by_cases hlt3 : k < 3
      · obtain ⟨ad, p, rfl, hbb, hp, hcells⟩ := (HH.out.1.below hbel).get (k := k) (by have := HL.out; omega)
        have hadb : ad.block < wr.heap.size := by omega
        have b1 : (k : Int) < (n : Int) := by omega
        have b2 : (k : Int) < 3 := by omega
        have hpok := HH.out.2 p (List.mem_of_getElem? hp)
        have hev := hpok.1
        have q0 : wr.cell? (ad.add (k * 28)) = some (.int .u8 p.ev) := hcells 0 _ rfl
        have hr0 : wr.rangeAt (ad.add (k * 28)).block ((ad.add (k * 28)).off + 1) (gcells p.g) := fun j u hj => by
          have := st_cells (j := j) (hcells (j + 1) u hj)
          rw [show (ad.add (k * 28)).off + 1 + j = (ad.add (k * 28)).off + (j + 1) by omega]; exact this
        have hlen : (gcells p.g).length = 27 := by simp [gcells, bv, hpok.2.len]
        have HST := Lib.hid (take_map ptA hp)
        have HP := Lib.hid hp; clear hp
        have HPOK := Lib.hid hpok; clear hpok
        have HLEN := Lib.hid hlen; clear hlen
        clear hcells
        go_wp2
        refine wp_region_U (fun W => W.cell? (ad.add (k * 28)) = some (.int .u8 p.ev) ∧ W.rangeAt (ad.add (k * 28)).block ((ad.add (k * 28)).off + 1) (gcells p.g)) (fun _ => True) 15 (by kernel_rfl) ?_
        change anyU _ _ _ _ _ _ _ 16 _ _ _
        have hA0 : wr.drew.cell? (ad.add (k * 28)) = some (.int .u8 p.ev) ∧ wr.drew.rangeAt (ad.add (k * 28)).block ((ad.add (k * 28)).off + 1) (gcells p.g) := ⟨q0, hr0⟩
        have hB0 : True := trivial
        have HO1 : Hid (wr.drew.ownsRow w.heap.size 29 4 (.slice VA k vc) k (xs.flatMap avc)) := Lib.hid HO.out
        have HX1 : Hid (∀ x ∈ xs, x.own wr.drew w.heap.size) := Lib.hid (fun x hx => AutO.below (HX.out x hx) (below_dr wr))
        have hbel1 : Below w.heap.size w wr.drew := hbel.trans ((below_dr wr).mono hsz)
        have hadb1 : ad.block < wr.drew.heap.size := hadb
        clear q0 hr0 hadb HO HX hbel hsz
        generalize hwd : wr.drew = wd at hA0 HO1 HX1 hbel1 hadb1 ⊢
        have HWD := Lib.hid hwd; clear hwd
        have hszd := hbel1.size
        ((refine uTake (i := 0) (v := ?_) rfl (by kernel_rfl) (fun _ _ _ h => h) (by rfl) (fun W hA hB => ?_) ⟨hA0, fun _ => hB0⟩ ?_; rotate_left; (· (clear hB; (try dsimp only at hA); go_simp; try with_reducible rfl)); (try simp only [Act.put, List.setIfInBounds_toArray, List.set_cons_zero, List.set_cons_succ])); (refine uTake (i := 1) (v := ?_) rfl (by kernel_rfl) (fun _ _ _ h => h) (by rfl) (fun W hA hB => ?_) ⟨hA0, fun _ => hB0⟩ ?_; rotate_left; (· (clear hB; (try dsimp only at hA); go_simp; try with_reducible rfl)); (try simp only [Act.put, List.setIfInBounds_toArray, List.set_cons_zero, List.set_cons_succ])); (refine uTake (i := 2) (v := ?_) rfl (by kernel_rfl) (fun _ _ _ h => h) (by rfl) (fun W hA hB => ?_) ⟨hA0, fun _ => hB0⟩ ?_; rotate_left; (· (clear hB; (try dsimp only at hA); go_simp; try with_reducible rfl)); (try simp only [Act.put, List.setIfInBounds_toArray, List.set_cons_zero, List.set_cons_succ])); (refine uTake (i := 3) (v := ?_) rfl (by kernel_rfl) (fun _ _ _ h => h) (by rfl) (fun W hA hB => ?_) ⟨hA0, fun _ => hB0⟩ ?_; rotate_left; (· (clear hB; (try dsimp only at hA); go_simp; try with_reducible rfl)); (try simp only [Act.put, List.setIfInBounds_toArray, List.set_cons_zero, List.set_cons_succ])); (refine uTake (i := 4) (v := ?_) rfl (by kernel_rfl) (fun _ _ _ h => h) (by rfl) (fun W hA hB => ?_) ⟨hA0, fun _ => hB0⟩ ?_; rotate_left; (· (clear hB; (try dsimp only at hA); go_simp; try with_reducible rfl)); (try simp only [Act.put, List.setIfInBounds_toArray, List.set_cons_zero, List.set_cons_succ])); (refine uTake (i := 5) (v := ?_) rfl (by kernel_rfl) (fun _ _ _ h => h) (by rfl) (fun W hA hB => ?_) ⟨hA0, fun _ => hB0⟩ ?_; rotate_left; (· (clear hB; (try dsimp only at hA); go_simp; try with_reducible rfl)); (try simp only [Act.put, List.setIfInBounds_toArray, List.set_cons_zero, List.set_cons_succ])); (refine uTake (i := 7) (v := ?_) rfl (by kernel_rfl) (fun _ _ _ h => h) (by rfl) (fun W hA hB => ?_) ⟨hA0, fun _ => hB0⟩ ?_; rotate_left; (· (clear hB; (try dsimp only at hA); go_simp; try with_reducible rfl)); (try simp only [Act.put, List.setIfInBounds_toArray, List.set_cons_zero, List.set_cons_succ])); (refine uTake (i := 8) (v := ?_) rfl (by kernel_rfl) (fun _ _ _ h => h) (by rfl) (fun W hA hB => ?_) ⟨hA0, fun _ => hB0⟩ ?_; rotate_left; (· (clear hB; (try dsimp only at hA); go_simp; try with_reducible rfl)); (try simp only [Act.put, List.setIfInBounds_toArray, List.set_cons_zero, List.set_cons_succ])); (refine uTake (i := 9) (v := ?_) rfl (by kernel_rfl) (fun _ _ _ h => h) (by rfl) (fun W hA hB => ?_) ⟨hA0, fun _ => hB0⟩ ?_; rotate_left; (· (clear hB; (try dsimp only at hA); go_simp; try with_reducible rfl)); (try simp only [Act.put, List.setIfInBounds_toArray, List.set_cons_zero, List.set_cons_succ])); (refine uTake (i := 10) (v := ?_) rfl (by kernel_rfl) (fun _ _ _ h => h) (by rfl) (fun W hA hB => ?_) ⟨hA0, fun _ => hB0⟩ ?_; rotate_left; (· (clear hB; (try dsimp only at hA); go_simp; try with_reducible rfl)); (try simp only [Act.put, List.setIfInBounds_toArray, List.set_cons_zero, List.set_cons_succ])))
        refine uTakeY (i := 11) (v := .agg (gcells p.g).toArray) rfl (by kernel_rfl) (fun _ _ _ h => h) ?_ ⟨hA0, fun _ => hB0⟩ ?_
        · exact yieldsIf_load_mid (by rfl) 51 (.tmp 25) rfl (ad.add (k * 28)).block ((ad.add (k * 28)).off + 1) rfl (gcells p.g) _ (fun W hW => hW.2) Tryd.underlying51 rfl (by rw [HLEN.out]; kernel_rfl)
        simp only [Act.put, List.setIfInBounds_toArray, List.set_cons_zero, List.set_cons_succ]
        refine uOne (i := 6) rfl (by kernel_rfl) (fun K hK => ?_)
        go_simp
        go_at_call 45
        refine (set_Events p.ev wd hev.1 hev.2).mono ?_
        rintro e w5 ⟨v5, rfl, ho5, hb5⟩
        obtain ⟨A5, c5, rfl⟩ := own_shape ho5
        have hA5 : w5.cell? (ad.add (k * 28)) = some (.int .u8 p.ev) ∧ w5.rangeAt (ad.add (k * 28)).block ((ad.add (k * 28)).off + 1) (gcells p.g) := ⟨(hb5.cell (p := ad.add (k * 28)) (by rw [block_of_add]; exact hadb1)).trans hA0.1, range_below hA0.2 hb5 (by rw [block_of_add]; exact hadb1)⟩
        have HO5 := Lib.hid (own_below HO1.out hb5)
        have HX5 : Hid (∀ x ∈ xs, x.own w5 w.heap.size) := Lib.hid (fun x hx => AutO.below (HX1.out x hx) hb5)
        have hbel5 := hbel1.trans (hb5.mono hszd)
        have hsz5 := hbel5.size
        have hadb5 : ad.block < w5.heap.size := by have := hb5.size; omega
        have HMK := Lib.hid (law_Make A5 c5 _ (setB p.ev 5) p.g w5 rfl (RdI.of_own ho5) (own_cap' ho5).1 (own_cap' ho5).2 HPOK.out.2 (set5 p.ev).1 (set32 p.ev))
        clear hA0 HO1 HX1 hbel1 hadb1 hszd hb5 ho5
        (refine hK _ _ ⟨hA5, fun _ => hB0⟩ ?_; clear hK K; (try simp only [Act.put, List.setIfInBounds_toArray, List.set_cons_zero, List.set_cons_succ]))
        refine uOne (i := 12) rfl (by kernel_rfl) (fun K hK => ?_)
        go_simp
        go_at_call 44
        refine HMK.out.mono ?_
        rintro e w6 ⟨A6, na6, ca6, M6, nm6, cm6, E6, ne6, ce6, rfl, hO6, hb6⟩
        have hA6 : w6.cell? (ad.add (k * 28)) = some (.int .u8 p.ev) ∧ w6.rangeAt (ad.add (k * 28)).block ((ad.add (k * 28)).off + 1) (gcells p.g) := ⟨(hb6.cell (p := ad.add (k * 28)) (by rw [block_of_add]; exact hadb5)).trans hA5.1, range_below hA5.2 hb6 (by rw [block_of_add]; exact hadb5)⟩
        have HO6 := Lib.hid (own_below HO5.out hb6)
        have HX6 : Hid (∀ x ∈ xs, x.own w6 w.heap.size) := Lib.hid (fun x hx => AutO.below (HX5.out x hx) hb6)
        have hbel6 := hbel5.trans (hb6.mono hsz5)
        have hsz6 := hbel6.size
        have hadb6 : ad.block < w6.heap.size := by have := hb6.size; omega
        have HN6 := Lib.hid (hO6.down (b0 := w.heap.size) hsz5)
        obtain ⟨av, hav⟩ : ∃ av : AV, av = ⟨A6, na6, ca6, M6, nm6, cm6, E6, ne6, ce6, mkG (setB p.ev 5) p.g⟩ := ⟨_, rfl⟩
        obtain ⟨st6, hst6⟩ : ∃ s6, (mkG (setB p.ev 5) p.g).st = s6 := ⟨_, rfl⟩
        rw [hst6]
        have HAVC := Lib.hid (show avc av = [.slice A6 na6 ca6, .int .i64 st6, .slice M6 nm6 cm6, .slice E6 ne6 ce6] by rw [hav, ← hst6]; rfl)
        have HAV := Lib.hid hav; clear hav
        have HST6 := Lib.hid hst6; clear hst6
        clear hA5 HO5 HX5 hbel5 hadb5 hsz5 hb6 hO6 HMK
        (refine hK _ _ ⟨hA6, fun _ => hB0⟩ ?_; clear hK K; (try simp only [Act.put, List.setIfInBounds_toArray, List.set_cons_zero, List.set_cons_succ]))
        refine uOne (i := 13) rfl (by kernel_rfl) (fun K hK => ?_)
        go_simp
        have hA7 : (w6.alloc (.cells #[.slice A6 na6 ca6, .int .i64 st6, .slice M6 nm6 cm6, .slice E6 ne6 ce6] 29)).cell? (ad.add (k * 28)) = some (.int .u8 p.ev) ∧ (w6.alloc (.cells #[.slice A6 na6 ca6, .int .i64 st6, .slice M6 nm6 cm6, .slice E6 ne6 ce6] 29)).rangeAt (ad.add (k * 28)).block ((ad.add (k * 28)).off + 1) (gcells p.g) := ⟨(World.cell?_alloc_lt _ _ _ (by rw [block_of_add]; exact hadb6)).trans hA6.1, World.rangeAt_alloc hA6.2 _⟩
        (refine hK _ _ ⟨hA7, fun _ => hB0⟩ ?_; clear hK K; (try simp only [Act.put, List.setIfInBounds_toArray, List.set_cons_zero, List.set_cons_succ]))
        refine uOne (i := 14) rfl (by kernel_rfl) (fun K hK => ?_)
        refine step_pushN w6 [.slice A6 na6 ca6, .int .i64 st6, .slice M6 nm6 cm6, .slice E6 ne6 ce6] (by rfl) (.tmp 15) (.tmp 28) 24 (by rfl) w.heap.size 29 (.agg #[.slice none 0 0, .int .i64 0, .slice none 0 0, .slice none 0 0]) 4 80 Tryd.underlying24 aut_info (by rfl) (by decide) (by rfl) (.slice VA k vc) k _ (by rfl) HO6.out (by rfl) (fun q hq => by simp at hq; rcases hq with rfl | rfl | rfl | rfl <;> rfl) (by omega) (by omega) hsz6 ?_
        intro A9 c9 w9 ho9 hg9
        have hfar : ∀ x : Addr, x.block = ad.block → w9.cell? x = w6.cell? x := fun x hx => hg9.cell_far x (by omega) (fun e => by have := (HO6.out.lt _ e.symm).1; omega)
        have hA9 : w9.cell? (ad.add (k * 28)) = some (.int .u8 p.ev) ∧ w9.rangeAt (ad.add (k * 28)).block ((ad.add (k * 28)).off + 1) (gcells p.g) := ⟨(hfar _ (block_of_add _ _)).trans hA6.1, fun j u hj => (hfar ⟨(ad.add (k * 28)).block, _, none⟩ (block_of_add ad (k * 28))).trans (hA6.2 j u hj)⟩
        have hbel9 : Below w.heap.size w w9 := hbel6.grown hg9 hsz6 (fun j hj => (HO6.out.lt j hj).1)
        have HO9 : Hid (w9.ownsRow w.heap.size 29 4 (.slice A9 (k + 1) c9) (k + 1) ((xs ++ [av]).flatMap avc)) := Lib.hid (by rw [List.flatMap_append, List.flatMap_cons, List.flatMap_nil, List.append_nil, HAVC.out]; exact ho9)
        have HX9 : Hid (∀ x ∈ xs ++ [av], x.own w9 w.heap.size) := Lib.hid (fun x hx => by
          rcases List.mem_append.1 hx with hx | hx
          · exact AutO.kept (HX6.out x hx) HO6.out hg9
          · obtain rfl := List.mem_singleton.1 hx
            rw [HAV.out]
            exact AutO.kept HN6.out HO6.out hg9)
        have HM9 := Lib.hid (show (xs ++ [av]).map AV.a = (ps.take (k + 1)).map ptA by rw [List.map_append, HST.out, HM.out, HAV.out]; rfl)
        have HN9 := Lib.hid (show (xs ++ [av]).length = k + 1 by rw [List.length_append, HN.out]; rfl)
        clear hA6 hA7 hfar ho9 hg9 HX6 HO6 hbel6 hsz6 hadb6 HN6
        (refine hK _ _ ⟨hA9, fun _ => hB0⟩ ?_; clear hK K; (try simp only [Act.put, List.setIfInBounds_toArray, List.set_cons_zero, List.set_cons_succ]))
        refine uOne (i := 15) rfl (by kernel_rfl) (fun K hK => ?_)
        go_simp
        (refine hK _ _ ⟨hA9, fun _ => hB0⟩ ?_; clear hK K; (try simp only [Act.put, List.setIfInBounds_toArray, List.set_cons_zero, List.set_cons_succ]))
        refine anyU_done (by kernel_rfl) ?_ _
        clear hA9
        go_wp2
        go_roundw
        case rel => exact ⟨k + 1, _, xs ++ [av], by go_num, rfl, by omega, by omega, HM9, HN9, HO9, HX9, hbel9⟩
        case measure => simp [intOf]; omega
      · obtain rfl : k = 3 := by omega
        have b1 : (3 : Int) < (n : Int) := by omega
        have HR := Lib.hid (show RdL wr wr.heap.size VA xs from ⟨RdR.of_own (by omega) (fun _ _ => rfl) HO.out, fun x hx => AutO.rd (HX.out x hx)⟩)
        go_wp2
        go_ret
        exact ⟨VA, 3, vc, xs, rfl, by rw [HM.out]; rfl, HN.out, (own_cap' HO.out).1, (own_cap' HO.out).2, HR.out, hbel⟩
    · obtain rfl : k = n := by omega
      have HR := Lib.hid (show RdL wr wr.heap.size VA xs from ⟨RdR.of_own (by omega) (fun _ _ => rfl) HO.out, fun x hx => AutO.rd (HX.out x hx)⟩)
      have HF := Lib.hid (show xs.map AV.a = lstA ps by rw [HM.out]; unfold lstA; rw [List.take_of_length_le (by rw [HL.out]; exact Nat.le_refl _), List.take_of_length_le (by rw [HL.out]; exact hk3)])
      go_wp2
      go_ret
      exact ⟨VA, k, vc, xs, rfl, HF.out, HN.out, (own_cap' HO.out).1, (own_cap' HO.out).2, HR.out, hbel⟩
end Go.Proofs.YtbdliebjalghmaaDoor
