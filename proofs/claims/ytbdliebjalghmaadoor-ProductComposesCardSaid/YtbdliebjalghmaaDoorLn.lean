/- The law ProductComposes: its walk. -/
import Derived.Test.YtbdliebjalghmaaDoorGk
import Derived.Test.YtbdliebjalghmaaDoorGf
import Derived.Test.YtbdliebjalghmaaDoorMn
namespace Go.Proofs.YtbdliebjalghmaaDoor
open Go.RowKit Go Go.Maps

theorem syn_few {l : List Aut} (h : ∀ a ∈ l, Sm a) (hl : l.length ≤ 3) : (∃ a T, synR l = some (a, T)) ∧ (noSt l = false → ¬ Many 4096 (stp l) (evs l) (ini l)) := by
  have hw : ∀ a ∈ l, WF a := fun a ha => (h a ha).wf
  have hp : prodN l ≤ 4096 := Nat.le_trans (prodN_few h hl) (by omega)
  refine ⟨?_, fun hn hm => not_many (box l) (by rw [box_len]; exact hp) (fun x hx => box_mem.2 (rch_tup hw hn hx)) hm⟩
  unfold synR
  by_cases hn : noSt l = true
  · rw [if_pos hn]; exact ⟨_, _, rfl⟩
  · rw [if_neg hn]
    obtain ⟨s, hs, _⟩ := synS_some hw (by simpa using hn) hp
    rw [hs]; exact ⟨_, _, rfl⟩
/-- what the walks want of a few small automata -/
structure FewL (l : List Aut) : Prop where
  chk : chkL l = 0
  st : ∀ a ∈ l, a.st ≤ 100
  wf : ∀ a ∈ l, WF a
  len : l.length ≤ 3
  syn : ∃ a T, synR l = some (a, T)
  nm : noSt l = false → ¬ Many 4096 (stp l) (evs l) (ini l)
theorem few_of {l : List Aut} (h : ∀ a ∈ l, Sm a) (hl : l.length ≤ 3) : FewL l :=
  ⟨sm_chk h hl, fun a ha => by have := (h a ha).st; omega, fun a ha => (h a ha).wf, hl, (syn_few h hl).1, (syn_few h hl).2⟩
theorem lst_few {ps : List Pt} (h : ∀ p ∈ ps, p.ok) : FewL (lstA ps) := few_of (lstA_sm h) (by rw [lstA_len]; omega)

set_option maxRecDepth 100000 in
set_option maxHeartbeats 6400000 in
theorem composes_walk (L : Option Addr) (c n : Nat) (ps : List Pt) (w : World) (hl : ps.length = n) (h : RdP w w.heap.size L ps) :
    Calls Tryd.prog 3 #[.slice L n c] w fun e w' => e = .returned (.bool true) ∧ Below w.heap.size w w' := by
  have HK := Lib.hid (law_known w)
  have hf := lst_few h.2
  obtain ⟨a, T, haT⟩ := hf.syn
  have HF := Lib.hid hf; clear hf
  have HAT := Lib.hid haT; clear haT
  have HL := Lib.hid hl; clear hl
  have HX := Lib.hid h; clear h
  go_enter Tryd.func3, Tryd.ntmps3
  go_wp2_with fail
  refine HK.out.mono ?_
  rintro e w1 ⟨rfl, hb1⟩
  have HLI := Lib.hid (law_List L c n ps w1 HL.out ⟨(HX.out.1.below hb1).more hb1.size, HX.out.2⟩)
  have HB1 := Lib.hid hb1; clear hb1
  clear HK
  go_wp2_with fail
  refine HLI.out.mono ?_
  rintro e w2 ⟨A2, n2, c2, xs, rfl, hm2, hl2, hc1, hc2, hr2, hb2⟩
  have hB2 := HB1.out.trans (hb2.mono HB1.out.size)
  have hn2 : n2 ≤ 3 := by have := HF.out.len; rw [← hm2, List.length_map, hl2] at this; exact this
  have HSY := Lib.hid (product_Synchronous A2 c2 n2 xs w2 hl2 hr2 hc1 hc2 (by rw [hm2]; exact HF.out.chk) (by rw [hm2]; exact HF.out.st))
  rw [hm2, HAT.out] at HSY
  have HM2 := Lib.hid hm2; clear hm2
  have HL2 := Lib.hid hl2; clear hl2
  have HR2 := Lib.hid hr2; clear hr2
  have HB2 := Lib.hid hB2; clear hB2
  clear hb2 HLI HB1
  go_wp2_with fail
  refine HSY.out.mono ?_
  rintro e w3 ⟨hb3, A, na, ca, M, nm, cm, E, ne, ce, B, nb, cb, ts, rfl, haR, htS, htn, hnb, hcb, htl, _⟩
  have hB3 := HB2.out.trans (hb3.mono HB2.out.size)
  obtain ⟨st, hst⟩ : ∃ st, a.st = st := ⟨_, rfl⟩
  rw [hst]
  have k3 : Blk (w3.alloc (.cells #[.slice A na ca, .int .i64 st, .slice M nm cm, .slice E ne ce] 29)) w3.heap.size 29 [.slice A na ca, .int .i64 st, .slice M nm cm, .slice E ne ce] := Blk.new _ _ _
  have hb3a := box_below w3 (.cells #[.slice A na ca, .int .i64 st, .slice M nm cm, .slice E ne ce] 29)
  have hB3a := hB3.trans (hb3a.mono hB3.size)
  have HR3 := Lib.hid (((HR2.out.below hb3).more hb3.size).below hb3a |>.more hb3a.size)
  have HA3 := Lib.hid ((haR.below hb3a).more hb3a.size)
  have HT3 := Lib.hid ((htS.below hb3a).more hb3a.size)
  have HCO := Lib.hid (compose_some A2 c2 n2 3 a T (w3.alloc (.cells #[.slice A na ca, .int .i64 st, .slice M nm cm, .slice E ne ce] 29)) (fun W hW => by
    have := product_Synchronous A2 c2 n2 xs W HL2.out ((HR3.out.below hW).more hW.size) hc1 hc2 (by rw [HM2.out]; exact HF.out.chk) (by rw [HM2.out]; exact HF.out.st)
    rwa [HM2.out, HAT.out] at this))
  have HST := Lib.hid hst; clear hst
  have HTN := Lib.hid htn; clear htn
  have HTL := Lib.hid htl; clear htl
  have K3 := Lib.hid k3; clear k3
  have HB3 := Lib.hid hB3a; clear hB3a
  clear hb3 hb3a haR htS hB3 HSY HB2 HR2
  go_wp2_with fail
  refine HCO.out.mono ?_
  rintro e w4 ⟨hb4, A', na', ca', M', nm', cm', E', ne', ce', rfl, haR'⟩
  rw [HST.out]
  have hB4 := HB3.out.trans (hb4.mono HB3.out.size)
  have k4 : Blk (w4.alloc (.cells #[.slice A' na' ca', .int .i64 st, .slice M' nm' cm', .slice E' ne' ce'] 29)) w4.heap.size 29 [.slice A' na' ca', .int .i64 st, .slice M' nm' cm', .slice E' ne' ce'] := Blk.new _ _ _
  have hb4a := box_below w4 (.cells #[.slice A' na' ca', .int .i64 st, .slice M' nm' cm', .slice E' ne' ce'] 29)
  have hb4c := hb4.trans (hb4a.mono hb4.size)
  have hB4a := hB4.trans (hb4a.mono hB4.size)
  have HR4 := Lib.hid ((HR3.out.below hb4c).more hb4c.size)
  have HA4 := Lib.hid ((HA3.out.below hb4c).more hb4c.size)
  have HT4 := Lib.hid ((HT3.out.below hb4c).more hb4c.size)
  have K34 := Lib.hid (K3.out.below hb4c K3.out.lt)
  have HD4 := Lib.hid ((haR'.below hb4a).more hb4a.size)
  have HRS := Lib.hid (ref_Synchronous A2 c2 n2 xs _ HL2.out HR4.out hc1 hc2 (by omega) (by rw [HM2.out]; exact HF.out.wf) (by rw [HM2.out]; exact HF.out.nm))
  rw [HM2.out, HAT.out] at HRS
  have K4 := Lib.hid k4; clear k4
  have HB4 := Lib.hid hB4a; clear hB4a
  clear hb4 hb4a hb4c haR' hB4 HCO HB3 HR3 HA3 HT3 K3
  go_wp2_with fail
  refine HRS.out.mono ?_
  rintro e w5 ⟨hb5, a2, T2, haT2, A5, na5, ca5, M5, nm5, cm5, E5, ne5, ce5, B5, nb5, cb5, ts5, rfl, haO, htS5, htn5, hnb5, hcb5, htl5⟩
  injection haT2 with haT2
  injection haT2 with h1 h2
  subst h1 h2
  rw [HST.out]
  have hB5 := HB4.out.trans (hb5.mono HB4.out.size)
  have k5 : Blk (w5.alloc (.cells #[.slice A5 na5 ca5, .int .i64 st, .slice M5 nm5 cm5, .slice E5 ne5 ce5] 29)) w5.heap.size 29 [.slice A5 na5 ca5, .int .i64 st, .slice M5 nm5 cm5, .slice E5 ne5 ce5] := Blk.new _ _ _
  have hb5a := box_below w5 (.cells #[.slice A5 na5 ca5, .int .i64 st, .slice M5 nm5 cm5, .slice E5 ne5 ce5] 29)
  have hb5c := hb5.trans (hb5a.mono hb5.size)
  have hB5a := hB5.trans (hb5a.mono hB5.size)
  have hA5 := (HA4.out.below hb5c).more hb5c.size
  have hT5 := (HT4.out.below hb5c).more hb5c.size
  have hD5 := (HD4.out.below hb5c).more hb5c.size
  have hE5 := (haO.rd.below hb5a).more hb5a.size
  have hS5 := (htS5.below hb5a).more hb5a.size
  have hK3 := K34.out.below hb5c K34.out.lt
  have hK4 := K4.out.below hb5c K4.out.lt
  have f30 : (w5.alloc (.cells #[.slice A5 na5 ca5, .int .i64 st, .slice M5 nm5 cm5, .slice E5 ne5 ce5] 29)).cell? ⟨w3.heap.size, 0, none⟩ = some (.slice A na ca) := hK3.cell (j := 0) rfl
  have f31 : (w5.alloc (.cells #[.slice A5 na5 ca5, .int .i64 st, .slice M5 nm5 cm5, .slice E5 ne5 ce5] 29)).cell? ⟨w3.heap.size, 1, none⟩ = some (.int .i64 st) := hK3.cell (j := 1) rfl
  have f32 : (w5.alloc (.cells #[.slice A5 na5 ca5, .int .i64 st, .slice M5 nm5 cm5, .slice E5 ne5 ce5] 29)).cell? ⟨w3.heap.size, 2, none⟩ = some (.slice M nm cm) := hK3.cell (j := 2) rfl
  have f33 : (w5.alloc (.cells #[.slice A5 na5 ca5, .int .i64 st, .slice M5 nm5 cm5, .slice E5 ne5 ce5] 29)).cell? ⟨w3.heap.size, 3, none⟩ = some (.slice E ne ce) := hK3.cell (j := 3) rfl
  have f50 : (w5.alloc (.cells #[.slice A5 na5 ca5, .int .i64 st, .slice M5 nm5 cm5, .slice E5 ne5 ce5] 29)).cell? ⟨w5.heap.size, 0, none⟩ = some (.slice A5 na5 ca5) := k5.cell (j := 0) rfl
  have f51 : (w5.alloc (.cells #[.slice A5 na5 ca5, .int .i64 st, .slice M5 nm5 cm5, .slice E5 ne5 ce5] 29)).cell? ⟨w5.heap.size, 1, none⟩ = some (.int .i64 st) := k5.cell (j := 1) rfl
  have f52 : (w5.alloc (.cells #[.slice A5 na5 ca5, .int .i64 st, .slice M5 nm5 cm5, .slice E5 ne5 ce5] 29)).cell? ⟨w5.heap.size, 2, none⟩ = some (.slice M5 nm5 cm5) := k5.cell (j := 2) rfl
  have f53 : (w5.alloc (.cells #[.slice A5 na5 ca5, .int .i64 st, .slice M5 nm5 cm5, .slice E5 ne5 ce5] 29)).cell? ⟨w5.heap.size, 3, none⟩ = some (.slice E5 ne5 ce5) := k5.cell (j := 3) rfl
  have HQ1 := Lib.hid (automaton_Equal A M E A5 M5 E5 na ca nm cm ne ce na5 ca5 nm5 cm5 ne5 ce5 a a true (w5.alloc (.cells #[.slice A5 na5 ca5, .int .i64 st, .slice M5 nm5 cm5, .slice E5 ne5 ce5] 29)) (eqA_of rfl) hA5 hE5)
  rw [HST.out] at HQ1
  have HT5 := Lib.hid hT5; clear hT5
  have HD5 := Lib.hid hD5; clear hD5
  have HE5 := Lib.hid hE5; clear hE5
  have HS5 := Lib.hid hS5; clear hS5
  have K5 := Lib.hid k5; clear k5
  have K4 := Lib.hid hK4; clear hK4
  have HB5 := Lib.hid hB5a; clear hB5a
  have HTL5 := Lib.hid htl5; clear htl5
  have HTN5 := Lib.hid htn5; clear htn5
  clear hb5 hb5a hb5c haO htS5 hB5 HRS HB4 HR4 HA4 HT4 HD4 K34 hK3 hA5
  go_wp2_with fail
  refine HQ1.out.mono ?_
  rintro e w6 ⟨rfl, hb6⟩
  have HQ2 := Lib.hid (law_sameAll_n B B5 cb cb5 nb nb5 ts ts5 true w6 HTN.out HTN5.out (sameB_of (HTL.out.trans HTL5.out.symm)) ((HT5.out.below hb6).more hb6.size) hnb hcb ((HS5.out.below hb6).more hb6.size))
  have hB6 := HB5.out.trans (hb6.mono HB5.out.size)
  have HD6 := Lib.hid ((HD5.out.below hb6).more hb6.size)
  have HE6 := Lib.hid ((HE5.out.below hb6).more hb6.size)
  have K46 := Lib.hid (K4.out.below hb6 K4.out.lt)
  have K56 := Lib.hid (K5.out.below hb6 K5.out.lt)
  have HB6 := Lib.hid hB6; clear hB6
  clear hb6 HQ1 HT5 HD5 HE5 HS5 K5 K4 HB5 f30 f31 f32 f33 f50 f51 f52 f53
  go_wp2_with fail
  refine HQ2.out.mono ?_
  rintro e w7 ⟨rfl, m, hm⟩
  have hb7 : Below w6.heap.size w6 w7 := by rw [hm]; exact below_drewN (Below.refl _ _) m
  have hB7 := HB6.out.trans (hb7.mono HB6.out.size)
  have hD7 := (HD6.out.below hb7).more hb7.size
  have hE7 := (HE6.out.below hb7).more hb7.size
  have k47 := K46.out.below hb7 K46.out.lt
  have k57 := K56.out.below hb7 K56.out.lt
  have f40 : w7.cell? ⟨w4.heap.size, 0, none⟩ = some (.slice A' na' ca') := k47.cell (j := 0) rfl
  have f41 : w7.cell? ⟨w4.heap.size, 1, none⟩ = some (.int .i64 st) := k47.cell (j := 1) rfl
  have f42 : w7.cell? ⟨w4.heap.size, 2, none⟩ = some (.slice M' nm' cm') := k47.cell (j := 2) rfl
  have f43 : w7.cell? ⟨w4.heap.size, 3, none⟩ = some (.slice E' ne' ce') := k47.cell (j := 3) rfl
  have f50 : w7.cell? ⟨w5.heap.size, 0, none⟩ = some (.slice A5 na5 ca5) := k57.cell (j := 0) rfl
  have f51 : w7.cell? ⟨w5.heap.size, 1, none⟩ = some (.int .i64 st) := k57.cell (j := 1) rfl
  have f52 : w7.cell? ⟨w5.heap.size, 2, none⟩ = some (.slice M5 nm5 cm5) := k57.cell (j := 2) rfl
  have f53 : w7.cell? ⟨w5.heap.size, 3, none⟩ = some (.slice E5 ne5 ce5) := k57.cell (j := 3) rfl
  have HQ3 := Lib.hid (automaton_Equal A' M' E' A5 M5 E5 na' ca' nm' cm' ne' ce' na5 ca5 nm5 cm5 ne5 ce5 a a true w7 (eqA_of rfl) hD7 hE7)
  rw [HST.out] at HQ3
  have HB7 := Lib.hid hB7; clear hB7
  clear hb7 hm hD7 hE7 k47 k57 HQ2 HD6 HE6 K46 K56 HB6
  go_wp2_with fail
  refine HQ3.out.mono ?_
  rintro e w8 ⟨rfl, hb8⟩
  go_wp2
  go_ret
  exact ⟨rfl, HB7.out.trans (hb8.mono HB7.out.size)⟩
end Go.Proofs.YtbdliebjalghmaaDoor
