/- The law's Known of chapter 28. -/
import Derived.Test.YtdnmpndnpfklcaaBl
import Derived.Test.YtdnmpndnpfklcaaI1
import Derived.Test.YtdnmpndnpfklcaaIv
import Derived.Test.YtdnmpndnpfklcaaXx

namespace Go.Proofs.Ytdnmpndnpfklcaa
open Go.RowKit Go Go.Maps

theorem law_Known28 (w : World) : Calls Try.prog 10 #[] w fun e w' => e = .returned (.bool true) ∧ Below w.heap.size w w' := by
  have HK := Lib.hid (law_known28 w)
  go_enter Try.func10, Try.ntmps10
  go_wp2_with fail
  refine HK.out.mono ?_
  rintro e w1 ⟨rfl, hb1⟩
  have HB1 := Lib.hid hb1
  have HJ := Lib.hid (law_Known04 w1)
  clear HK hb1
  go_wp2_with fail
  refine HJ.out.mono ?_
  rintro e w2 ⟨rfl, hb2⟩
  have HB2 := Lib.hid (HB1.out.trans (hb2.mono HB1.out.size))
  clear HJ hb2
  go_wp2
  go_ret
  exact ⟨rfl, HB2.out⟩
end Go.Proofs.Ytdnmpndnpfklcaa
/- The law MaximalityFewer: its walk. -/
namespace Go.Proofs.Ytdnmpndnpfklcaa
open Go.RowKit Go Go.Maps

/-- ints do not lie among bytes -/
theorem blk_no64 {W : World} {b : Nat} {t : TypeId} {vs : List Value} (h : Blk W b t vs) (hv : ∀ v ∈ vs, ∃ z, v = .int .u8 z) {p : Addr} {x : Int} (hc : W.cell? p = some (.int .i64 x)) : p.block ≠ b := by
  intro e
  unfold World.cell? at hc
  rw [e, show W.heap[b]? = _ from h] at hc
  simp only at hc
  split at hc
  · cases hc
  · obtain ⟨z, hz⟩ := hv _ (by simpa using Array.mem_of_getElem? hc)
    cases hz
def Keeps64 (W W' : World) : Prop := W.heap.size ≤ W'.heap.size ∧ ∀ (p : Addr) (x : Int), W.cell? p = some (.int .i64 x) → W'.cell? p = some (.int .i64 x)
theorem RdI.k64 {W W' : World} {A : Option Addr} {l : List Int} (h : RdI W W.heap.size A l) (hk : Keeps64 W W') : RdI W' W'.heap.size A l := fun k u hu => by
  obtain ⟨ad, h1, h2, h3⟩ := h k u hu
  rw [iv_get] at hu
  obtain ⟨x, _, rfl⟩ := Option.map_eq_some_iff.1 hu
  exact ⟨ad, h1, Nat.lt_of_lt_of_le h2 hk.1, hk.2 _ _ h3⟩
theorem RdX.k64 {W W' : World} {A : Option Addr} {l : List Ed} (h : RdX W W.heap.size A l) (hk : Keeps64 W W') : RdX W' W'.heap.size A l := fun k u hu => by
  obtain ⟨ad, h1, h2, h3⟩ := h k u hu
  refine ⟨ad, h1, Nat.lt_of_lt_of_le h2 hk.1, fun j v hv => ?_⟩
  have h4 := h3 j v hv
  have h5 : v ∈ edc u := List.mem_of_getElem? hv
  unfold edc at h5
  simp only [List.mem_cons, List.not_mem_nil, or_false] at h5
  rcases h5 with rfl | rfl | rfl <;> exact hk.2 _ _ h4
theorem PB.ok.k64 {W W' : World} {z : PB} (h : z.ok W W.heap.size) (hk : Keeps64 W W') : z.ok W' W'.heap.size :=
  ⟨⟨h.x.la, h.x.ac, h.x.cA, RdI.k64 h.x.ra hk, h.x.lm, h.x.mc, h.x.cM, RdI.k64 h.x.rm hk, h.x.le, h.x.ec, h.x.cE, RdX.k64 h.x.re hk⟩, ⟨h.u.la, h.u.ac, h.u.cA, RdI.k64 h.u.ra hk⟩, ⟨h.f.la, h.f.ac, h.f.cA, RdI.k64 h.f.ra hk⟩⟩
theorem sp4_u8 (g : Sm4) (u f : Int) : ∀ v ∈ sp4 g u f, ∃ z, v = .int .u8 z := by
  intro v hv
  unfold sp4 smc at hv
  simp only [List.mem_append, List.mem_cons, List.mem_map, List.not_mem_nil, or_false] at hv
  rcases hv with (rfl | rfl | ⟨z, _, rfl⟩) | rfl | rfl <;> exact ⟨_, rfl⟩
theorem sp4_set {g : Sm4} (hg : g.ok) (u f u' f' : Int) : ((sp4 g u f).set 27 (.int .u8 f')).set 26 (.int .u8 u') = sp4 g u' f' := by
  unfold sp4
  rw [List.set_append_right _ _ (by rw [smc_len hg]; omega), List.set_append_right _ _ (by rw [smc_len hg]; omega), smc_len hg]
  rfl
theorem k64_set {W : World} {b j : Nat} {t : TypeId} {vs : List Value} (h : Blk W b t vs) (hv : ∀ v ∈ vs, ∃ z, v = .int .u8 z) (u : Value) : Keeps64 W (W.setCell ⟨b, j, none⟩ u) :=
  ⟨by simp [World.setCell], fun p x hx => ((grown_setCell W b j u).cell_far p (World.block_lt_of_cell? _ _ hx) (fun e => blk_no64 h hv hx (by injection e))).trans hx⟩
set_option maxRecDepth 100000 in
set_option maxHeartbeats 6400000 in
theorem fewer_walk (g : Sm4) (u f a b : Int) (w : World) (h0 : g.ok ∧ (0 ≤ u ∧ u ≤ 255) ∧ 0 ≤ f ∧ f ≤ 255) (ha : 0 ≤ a ∧ a ≤ 255) (hb : 0 ≤ b ∧ b ≤ 255) :
    Calls Try.prog 5 #[.agg (sp4 g u f).toArray, .int .u8 a, .int .u8 b] w fun e w' => e = .returned (.bool true) ∧ Below w.heap.size w w' := by
  obtain ⟨hg, hu, hf⟩ := h0
  have hlen : (sp4 g u f).length = 28 := by unfold sp4; rw [List.length_append, smc_len hg]; rfl
  have hb1 := box_below w (.cells (sp4 g u f).toArray 27)
  have kx := Blk.new w 27 (sp4 g u f)
  obtain ⟨w1, hw1⟩ : ∃ w1, w1 = w.alloc (.cells (sp4 g u f).toArray 27) := ⟨_, rfl⟩
  rw [← hw1] at hb1 kx
  have HOR1 := Lib.hid (or_bits hf ha)
  have HOR2 := Lib.hid (or_bits hu hb)
  have HKN := Lib.hid (law_Known28 w1)
  have HG := Lib.hid hg
  have HU := Lib.hid hu
  have HF := Lib.hid hf
  have HLN := Lib.hid hlen
  have HB1 := Lib.hid hb1
  have HKX := Lib.hid kx
  have HW1 := Lib.hid hw1
  obtain ⟨u2, hu2⟩ : ∃ z, bits .or .u8 u b = z := ⟨_, rfl⟩
  obtain ⟨f2, hf2⟩ : ∃ z, bits .or .u8 f a = z := ⟨_, rfl⟩
  rw [hu2] at HOR2
  rw [hf2] at HOR1
  clear hg hu hf hlen hb1 kx hw1 ha hb
  go_enter Try.func5, Try.ntmps5
  go_upto_region 1 with fail
  rw [← HW1.out]
  go_wp2_with fail
  refine HKN.out.mono ?_
  rintro e w2 ⟨rfl, hb2⟩
  have HB2 := Lib.hid (HB1.out.trans (hb2.mono HB1.out.size))
  have HK2 := Lib.hid (HKX.out.below hb2 HKX.out.lt)
  clear HKN hb2 HKX HB1 HW1
  have hrg : w2.rangeAt w.heap.size 0 (sp4 g u f) := fun j v hj => by rw [Nat.zero_add]; exact HK2.out.cell hj
  go_wp2_with (first | (refine wpList_load_mid rfl 27 (.tmp 3) rfl w.heap.size 0 rfl (sp4 g u f) _ hrg Try.underlying27 rfl (by rw [HLN.out]; kernel_rfl) ?_) | fail)
  refine (law_Make28 g u f w2 HG.out HU.out HF.out).mono ?_
  rintro e w3 ⟨z1, rfl, hz1, hm1, hb3⟩
  have HM1 := Lib.hid hm1
  have HB3 := Lib.hid (HB2.out.trans (hb3.mono HB2.out.size))
  have HK3 := Lib.hid (HK2.out.below hb3 HK2.out.lt)
  clear hrg hb3 HB2 HK2 hm1
  have HPB := Lib.hid (show ∀ z : PB, pbc z = [.slice z.x.A z.x.na z.x.ca, .int .i64 z.x.a.st, .slice z.x.M z.x.nm z.x.cm, .slice z.x.E z.x.ne z.x.ce, .slice z.u.A z.u.n z.u.c, .slice z.f.A z.f.n z.f.c] from fun z => rfl)
  rw [HPB.out z1]
  have hbx := box_below w3 (.cells #[.slice z1.x.A z1.x.na z1.x.ca, .int .i64 z1.x.a.st, .slice z1.x.M z1.x.nm z1.x.cm, .slice z1.x.E z1.x.ne z1.x.ce, .slice z1.u.A z1.u.n z1.u.c, .slice z1.f.A z1.f.n z1.f.c] 34)
  have k7 := Blk.new w3 34 [.slice z1.x.A z1.x.na z1.x.ca, .int .i64 z1.x.a.st, .slice z1.x.M z1.x.nm z1.x.cm, .slice z1.x.E z1.x.ne z1.x.ce, .slice z1.u.A z1.u.n z1.u.c, .slice z1.f.A z1.f.n z1.f.c]
  have HZ4 := Lib.hid ((hz1.below hbx).more hbx.size)
  have HB4 := Lib.hid (HB3.out.trans (hbx.mono HB3.out.size))
  have HK4 := Lib.hid (HK3.out.below hbx HK3.out.lt)
  have HL7 := Lib.hid (show w.heap.size < w3.heap.size from HK3.out.lt)
  clear hz1 HB3 HK3
  go_upto_region 4 with fail
  obtain ⟨b7, hb7⟩ : ∃ b, w3.heap.size = b := ⟨_, rfl⟩
  rw [hb7] at k7 HL7 ⊢
  clear hb7 hbx
  generalize w3.alloc (.cells #[.slice z1.x.A z1.x.na z1.x.ca, .int .i64 z1.x.a.st, .slice z1.x.M z1.x.nm z1.x.cm, .slice z1.x.E z1.x.ne z1.x.ce, .slice z1.u.A z1.u.n z1.u.c, .slice z1.f.A z1.f.n z1.f.c] 34) = w4 at k7 HZ4 HB4 HK4 ⊢
  have HK7 := Lib.hid k7
  clear k7
  have c26 : w4.cell? ⟨w.heap.size, 26, none⟩ = some (.int .u8 u) := HK4.out.cell (by unfold sp4; rw [List.getElem?_append_right (by rw [smc_len HG.out]; omega), smc_len HG.out]; rfl)
  have c27 : w4.cell? ⟨w.heap.size, 27, none⟩ = some (.int .u8 f) := HK4.out.cell (by unfold sp4; rw [List.getElem?_append_right (by rw [smc_len HG.out]; omega), smc_len HG.out]; rfl)
  have f26 := HK4.out.free 26
  have f27 := HK4.out.free 27
  have l4 := HK4.out.lt
  go_upto_region 5 with fail
  have hk5 := (HK4.out.set (j := 27) (by rw [HLN.out]; omega) (.int .u8 f2)).set (j := 26) (by rw [List.length_set, HLN.out]; omega) (.int .u8 u2)
  rw [sp4_set HG.out] at hk5
  have h64a := k64_set (j := 27) HK4.out (sp4_u8 g u f) (.int .u8 f2)
  have h64b := k64_set (j := 26) (HK4.out.set (j := 27) (by rw [HLN.out]; omega) (.int .u8 f2)) (fun v hv => by
    rcases List.mem_or_eq_of_mem_set hv with h | h
    · exact sp4_u8 g u f v h
    · exact ⟨_, h⟩) (.int .u8 u2)
  have hg45 := (grown_setCell w4 w.heap.size 27 (.int .u8 f2)).trans (grown_setCell (w4.setCell ⟨w.heap.size, 27, none⟩ (.int .u8 f2)) w.heap.size 26 (.int .u8 u2))
  have HZ5 := Lib.hid ((HZ4.out.k64 h64a).k64 h64b)
  have HK7b := Lib.hid (HK7.out.kept hg45 (fun e => by injection e with e; have := HL7.out; omega))
  have HB5 := Lib.hid ((HB4.out.setCell (p := ⟨w.heap.size, 27, none⟩) (Nat.le_refl _) (.int .u8 f2)).setCell (p := ⟨w.heap.size, 26, none⟩) (Nat.le_refl _) (.int .u8 u2))
  have HK5 := Lib.hid hk5
  clear c26 c27 f26 f27 l4 hk5 h64a h64b hg45 HZ4 HB4 HK4 HK7
  generalize (w4.setCell ⟨w.heap.size, 27, none⟩ (.int .u8 f2)).setCell ⟨w.heap.size, 26, none⟩ (.int .u8 u2) = w5 at HZ5 HK7b HB5 HK5 ⊢
  have HLM := Lib.hid (show (sp4 g u2 f2).length = 28 by unfold sp4; rw [List.length_append, smc_len HG.out]; rfl)
  have hrg : w5.rangeAt w.heap.size 0 (sp4 g u2 f2) := fun j v hj => by rw [Nat.zero_add]; exact HK5.out.cell hj
  go_wp2_with (first | (refine wpList_load_mid rfl 27 (.tmp 3) rfl w.heap.size 0 rfl (sp4 g u2 f2) _ hrg Try.underlying27 rfl (by rw [HLM.out]; kernel_rfl) ?_) | fail)
  refine (law_Make28 g u2 f2 w5 HG.out HOR2.out.1 HOR1.out.1).mono ?_
  rintro e w6 ⟨z2, rfl, hz2, hm2, hb6⟩
  have HM2 := Lib.hid hm2
  have HB6 := Lib.hid (HB5.out.trans (hb6.mono HB5.out.size))
  have HZ6 := Lib.hid ((HZ5.out.below hb6).more hb6.size)
  have HK76 := Lib.hid (HK7b.out.below hb6 HK7b.out.lt)
  clear hrg hb6 HB5 HK5 hm2 HZ5 HK7b
  rw [HPB.out z2]
  have hbx := box_below w6 (.cells #[.slice z2.x.A z2.x.na z2.x.ca, .int .i64 z2.x.a.st, .slice z2.x.M z2.x.nm z2.x.cm, .slice z2.x.E z2.x.ne z2.x.ce, .slice z2.u.A z2.u.n z2.u.c, .slice z2.f.A z2.f.n z2.f.c] 34)
  have k8 := Blk.new w6 34 [.slice z2.x.A z2.x.na z2.x.ca, .int .i64 z2.x.a.st, .slice z2.x.M z2.x.nm z2.x.cm, .slice z2.x.E z2.x.ne z2.x.ce, .slice z2.u.A z2.u.n z2.u.c, .slice z2.f.A z2.f.n z2.f.c]
  have hz27 := (hz2.below hbx).more hbx.size
  have hz17 := (HZ6.out.below hbx).more hbx.size
  have hk77 := HK76.out.below hbx HK76.out.lt
  have HB7 := Lib.hid (HB6.out.trans (hbx.mono HB6.out.size))
  go_upto_region 6 with fail
  obtain ⟨b8, hb8⟩ : ∃ b, w6.heap.size = b := ⟨_, rfl⟩
  rw [hb8] at k8 ⊢
  clear hb8 hbx hz2 HB6 HZ6 HK76
  generalize w6.alloc (.cells #[.slice z2.x.A z2.x.na z2.x.ca, .int .i64 z2.x.a.st, .slice z2.x.M z2.x.nm z2.x.cm, .slice z2.x.E z2.x.ne z2.x.ce, .slice z2.u.A z2.u.n z2.u.c, .slice z2.f.A z2.f.n z2.f.c] 34) = w7 at k8 hz27 hz17 hk77 HB7 ⊢
  -- from here on everything stays
  have HZ1 := Lib.hid (fun (W : World) (hb : Below w7.heap.size w7 W) => (hz17.below hb).more hb.size)
  have HZ2 := Lib.hid (fun (W : World) (hb : Below w7.heap.size w7 W) => (hz27.below hb).more hb.size)
  have HP1 := Lib.hid (fun (W : World) (hb : Below w7.heap.size w7 W) => Blk.c6 (hk77.below hb hk77.lt))
  have HP2 := Lib.hid (fun (W : World) (hb : Below w7.heap.size w7 W) => Blk.c6 (k8.below hb k8.lt))
  clear k8 hz27 hz17 hk77
  have HOK1 := Lib.hid (show z1.m.ok by rw [HM1.out]; exact prb4_ok g u f)
  have HOK2 := Lib.hid (show z2.m.ok by rw [HM2.out]; exact prb4_ok g u2 f2)
  have HPR1 := Lib.hid (fun (W : World) (hb : Below w7.heap.size w7 W) => max_Prove z1 W (HZ1.out W hb) HOK1.out)
  have HPR2 := Lib.hid (fun (W : World) (hb : Below w7.heap.size w7 W) => max_Prove z2 W (HZ2.out W hb) HOK2.out)
  rw [HPB.out z1] at HPR1
  rw [HPB.out z2] at HPR2
  obtain ⟨⟨a0, a1, a2, a3, a4⟩, a5⟩ := HP1.out w7 (Below.refl _ _)
  go_wp2_with fail
  refine (HPR1.out w7 (Below.refl _ _)).mono ?_
  rintro e w8 ⟨C, rfl, hC, hCe, hb8⟩
  have HCE1 := Lib.hid hCe
  have HC1v := Lib.hid (show cvc C = [.slice C.k.A C.k.n C.k.c, .slice C.d.A C.d.n C.d.c, .slice C.R C.rn C.rc] from rfl)
  rw [HC1v.out]
  clear a0 a1 a2 a3 a4 a5 hCe
  have hbx := box_below w8 (.cells #[.slice C.k.A C.k.n C.k.c, .slice C.d.A C.d.n C.d.c, .slice C.R C.rn C.rc] 38)
  have k9 := Blk.new w8 38 [.slice C.k.A C.k.n C.k.c, .slice C.d.A C.d.n C.d.c, .slice C.R C.rn C.rc]
  have hc9 := (hC.below hbx).more hbx.size
  have HB79 := Lib.hid (hb8.trans (hbx.mono hb8.size))
  go_upto_region 7 with fail
  obtain ⟨b9, hb9⟩ : ∃ b, w8.heap.size = b := ⟨_, rfl⟩
  rw [hb9] at k9 ⊢
  clear hb9 hbx hC hb8
  generalize w8.alloc (.cells #[.slice C.k.A C.k.n C.k.c, .slice C.d.A C.d.n C.d.c, .slice C.R C.rn C.rc] 38) = w9 at k9 hc9 HB79 ⊢
  have HCO1 := Lib.hid (fun (W : World) (hb : Below w9.heap.size w9 W) => (hc9.below hb).more hb.size)
  have HCK1 := Lib.hid (fun (W : World) (hb : Below w9.heap.size w9 W) => Blk.c3 (k9.below hb k9.lt))
  have H79 := Lib.hid (fun (W : World) (hb : Below w9.heap.size w9 W) => HB79.out.trans (hb.mono HB79.out.size))
  clear k9 hc9
  obtain ⟨⟨a0, a1, a2, a3, a4⟩, a5⟩ := HP2.out w9 HB79.out
  go_wp2_with fail
  refine (HPR2.out w9 HB79.out).mono ?_
  rintro e wA ⟨D, rfl, hD, hDe, hbA⟩
  have HCE2 := Lib.hid hDe
  have HD2v := Lib.hid (show cvc D = [.slice D.k.A D.k.n D.k.c, .slice D.d.A D.d.n D.d.c, .slice D.R D.rn D.rc] from rfl)
  rw [HD2v.out]
  clear a0 a1 a2 a3 a4 a5 hDe HPR1 HPR2
  have hbx := box_below wA (.cells #[.slice D.k.A D.k.n D.k.c, .slice D.d.A D.d.n D.d.c, .slice D.R D.rn D.rc] 38)
  have kB := Blk.new wA 38 [.slice D.k.A D.k.n D.k.c, .slice D.d.A D.d.n D.d.c, .slice D.R D.rn D.rc]
  have hdB := (hD.below hbx).more hbx.size
  have HB9B := Lib.hid (hbA.trans (hbx.mono hbA.size))
  go_upto_region 8 with fail
  obtain ⟨bB, hbB⟩ : ∃ b, wA.heap.size = b := ⟨_, rfl⟩
  rw [hbB] at kB ⊢
  clear hbB hbx hD hbA
  generalize wA.alloc (.cells #[.slice D.k.A D.k.n D.k.c, .slice D.d.A D.d.n D.d.c, .slice D.R D.rn D.rc] 38) = wB at kB hdB HB9B ⊢
  have HDO := Lib.hid (fun (W : World) (hb : Below wB.heap.size wB W) => (hdB.below hb).more hb.size)
  have HDK := Lib.hid (fun (W : World) (hb : Below wB.heap.size wB W) => Blk.c3 (kB.below hb kB.lt))
  have H9B := Lib.hid (fun (W : World) (hb : Below wB.heap.size wB W) => HB9B.out.trans (hb.mono HB9B.out.size))
  clear kB hdB
  have HP1c := Lib.hid (show FOk z1.m.a.st C.ce ∧ VOk z1.m C.ce by rw [HCE1.out]; exact prvC_ok HOK1.out)
  have HP2c := Lib.hid (show FOk z2.m.a.st D.ce ∧ VOk z2.m D.ce by rw [HCE2.out]; exact prvC_ok HOK2.out)
  have HSV := Lib.hid (fun (W : World) (hb : Below wB.heap.size wB W) (hn : C.rn ≤ 1000000) => max_Supervisor z1 C W (HZ1.out W (H79.out W (H9B.out W hb))) HOK1.out (HCO1.out W (H9B.out W hb)) hn HP1c.out.1 HP1c.out.2)
  have hcrn : C.rn ≤ 1000000 := by
    have h1 := incR_len (k := z1.m.a.st.toNat) HP1c.out.1.rinc (by have := HOK1.out.wf.st0; rw [show ((z1.m.a.st.toNat : Nat) : Int) = z1.m.a.st by omega]; exact HP1c.out.1.rrng)
    have h2 : C.ce.rm.length = C.rn := (HCO1.out _ (Below.refl _ _)).rl
    have h3 := HOK1.out.wf.st1
    omega
  rw [HPB.out z1, HC1v.out] at HSV
  obtain ⟨⟨a0, a1, a2, a3, a4⟩, a5⟩ := HP1.out wB (H79.out wB HB9B.out)
  obtain ⟨c0, c1, c2⟩ := HCK1.out wB HB9B.out
  go_wp2_with fail
  refine (HSV.out wB (Below.refl _ _) hcrn).mono ?_
  rintro e wC ⟨y, rfl, hy, hya, hbC⟩
  clear a0 a1 a2 a3 a4 a5 c0 c1 c2 HSV
  have HYV := Lib.hid (show avc y = [.slice y.A y.na y.ca, .int .i64 y.a.st, .slice y.M y.nm y.cm, .slice y.E y.ne y.ce] from rfl)
  rw [HYV.out]
  have HYA := Lib.hid (show y.a = rsA z1.m.a C.ce.kp from hya)
  clear hya
  have hbx := box_below wC (.cells #[.slice y.A y.na y.ca, .int .i64 y.a.st, .slice y.M y.nm y.cm, .slice y.E y.ne y.ce] 32)
  have kD := Blk.new wC 32 [.slice y.A y.na y.ca, .int .i64 y.a.st, .slice y.M y.nm y.cm, .slice y.E y.ne y.ce]
  have hyD := (AutR.below hy.ok hbx).more hbx.size
  have HBBD := Lib.hid (hbC.trans (hbx.mono hbC.size))
  go_upto_region 9 with fail
  obtain ⟨bD, hbD⟩ : ∃ b, wC.heap.size = b := ⟨_, rfl⟩
  rw [hbD] at kD ⊢
  clear hbD hbx hy hbC
  generalize wC.alloc (.cells #[.slice y.A y.na y.ca, .int .i64 y.a.st, .slice y.M y.nm y.cm, .slice y.E y.ne y.ce] 32) = wD at kD hyD HBBD ⊢
  have HWY := Lib.hid (show WF y.a by rw [HYA.out]; exact rsA_wf HOK1.out.wf)
  obtain ⟨ny, hny⟩ : ∃ n : Nat, y.a.st = (n : Int) := ⟨y.a.st.toNat, by have := HWY.out.st0; omega⟩
  have HCR := Lib.hid (reach_Coreachable y ny wD hyD HWY.out hny)
  have HCL := Lib.hid (show (coS y.a).length = ny from by
    rw [HYA.out]
    have h := coS_all HOK1.out HP1c.out.2 HP1c.out.1
    rw [h, ← HYA.out, rngI_len, hny]; rfl)
  have HYK := Lib.hid (fun (W : World) (hb : Below wD.heap.size wD W) => Blk.c4 (kD.below hb kD.lt))
  rw [hny] at HCR HYK
  clear kD hyD
  obtain ⟨a0, a1, a2, a3⟩ := HYK.out wD (Below.refl _ _)
  go_wp2_with fail
  refine HCR.out.mono ?_
  rintro e wE ⟨v, rfl, ho, hbE⟩
  rw [HCL.out] at ho
  obtain ⟨LA, lc, rfl⟩ := own_shape ho
  clear a0 a1 a2 a3 ho HCR
  have HBE := Lib.hid hbE
  clear hbE
  obtain ⟨a0, a1, a2, a3⟩ := HYK.out wE HBE.out
  have HBBE := Lib.hid (HBBD.out.trans (HBE.out.mono HBBD.out.size))
  go_upto_region 12 with fail
  clear a0 a1 a2 a3 hny
  have HFW := Lib.hid (show ∀ s ∈ D.k.l, s ∈ C.k.l from fun s hs => fewer (p := z1.m) (q := z2.m) (by rw [HM1.out, HM2.out]; rfl) (fun x hx => by rw [HM1.out] at hx; rw [HM2.out]; exact HOR2.out.2 _ _ hx) (fun x hx => by rw [HM1.out] at hx; rw [HM2.out]; exact HOR1.out.2 _ _ hx) HOK1.out HP1c.out.2 HP1c.out.1 HP2c.out.2 HP2c.out.1 s hs)
  have HDL := Lib.hid (show D.k.l.length = D.k.n from (HDO.out wB (Below.refl _ _)).k.la)
  have hdn : D.k.n ≤ 4096 := by
    have h1 := inc_len (n := z2.m.a.st.toNat) HP2c.out.1.kinc (by have := HOK2.out.wf.st0; rw [show ((z2.m.a.st.toNat : Nat) : Int) = z2.m.a.st by omega]; exact HP2c.out.1.krng)
    have h2 : D.ce.kp.length = D.k.n := HDL.out
    have h3 := HOK2.out.wf.st1
    omega
  go_wp2
  go_loopw [17] (fun s17 wr => ∃ k : Nat, s17 = .int .i64 k ∧ k ≤ D.k.n ∧ Hid (Below wB.heap.size wB wr)) (fun s17 _ => D.k.n - (intOf s17).toNat)
  case atStart => exact ⟨0, rfl, Nat.zero_le _, HBBE⟩
  case round =>
    obtain ⟨k, rfl, hk, HBR⟩ := hrel
    obtain ⟨d0, d1, d2⟩ := HDK.out wr HBR.out
    by_cases hlt : k < D.k.n
    case neg =>
      obtain rfl : k = D.k.n := by omega
      have b1 : ¬ (D.k.n : Int) < (D.k.n : Int) := by omega
      go_wp2
      go_ret
      exact ⟨rfl, HB7.out.trans ((H79.out _ (H9B.out _ HBR.out)).mono HB7.out.size)⟩
    have b1 : (k : Int) < (D.k.n : Int) := by omega
    obtain ⟨x, hx⟩ : ∃ x, D.k.l[k]? = some x := ⟨_, List.getElem?_eq_getElem (by rw [HDL.out]; exact hlt)⟩
    obtain ⟨ad, hA, _, hcell⟩ := (HDO.out wr HBR.out).k.ra k (.int .i64 x) (by rw [iv_get, hx]; rfl)
    have HAD := Lib.hid (fun (W : World) (hb : Below wr.heap.size wr W) => (hb.cell (World.block_lt_of_cell? _ _ hcell)).trans hcell)
    have hdc : D.k.n ≤ D.k.c := (HDO.out wr HBR.out).k.ac
    have hdc2 : D.k.c ≤ 9223372036854775807 := (HDO.out wr HBR.out).k.cA
    have HAE := Lib.hid hA
    have HHS := Lib.hid (fun (W : World) (hb : Below wB.heap.size wB W) => law_has C.k.A C.k.c C.k.n C.k.l x true W (HCO1.out W (H9B.out W hb)).k.la (HCO1.out W (H9B.out W hb)).k.ra (by have h1 := (HCO1.out W (H9B.out W hb)).k.ac; have h2 := (HCO1.out W (H9B.out W hb)).k.cA; omega) (hasB_mem.2 (HFW.out x (List.mem_of_getElem? hx))))
    clear hx hcell hA
    go_upto_region 15 with fail
    clear d0 d1 d2
    refine wp_region_U (fun W => Below wr.heap.size wr W) (fun _ => True) 99 (by kernel_rfl) ?_
    change anyU _ _ _ _ _ _ _ 9 _ _ _
    have hB0 : True := trivial
    have hA0 := below_dr wr
    generalize wr.drew = wd at hA0 ⊢
    (refine uA 0 ?_ rfl hA0 hB0 (fun W hA => ?_) ?_; rotate_left; (· (go_simp; try with_reducible rfl)); (try simp only [Act.put, List.setIfInBounds_toArray, List.set_cons_zero, List.set_cons_succ]))
    (refine uA 1 ?_ rfl hA0 hB0 (fun W hA => ?_) ?_; rotate_left; (· (obtain ⟨a0, a1, a2⟩ := HCK1.out W (H9B.out W (HBR.out.trans (hA.mono HBR.out.size))); go_simp; try with_reducible rfl)); (try simp only [Act.put, List.setIfInBounds_toArray, List.set_cons_zero, List.set_cons_succ]))
    (refine uA 2 ?_ rfl hA0 hB0 (fun W hA => ?_) ?_; rotate_left; (· (go_simp; try with_reducible rfl)); (try simp only [Act.put, List.setIfInBounds_toArray, List.set_cons_zero, List.set_cons_succ]))
    (refine uA 3 ?_ rfl hA0 hB0 (fun W hA => ?_) ?_; rotate_left; (· (obtain ⟨a0, a1, a2⟩ := HDK.out W (HBR.out.trans (hA.mono HBR.out.size)); rw [HAE.out] at a0; go_simp; try with_reducible rfl)); (try simp only [Act.put, List.setIfInBounds_toArray, List.set_cons_zero, List.set_cons_succ]))
    (refine uA 4 ?_ rfl hA0 hB0 (fun W hA => ?_) ?_; rotate_left; (· (go_simp; try with_reducible rfl)); (try simp only [Act.put, List.setIfInBounds_toArray, List.set_cons_zero, List.set_cons_succ]))
    (refine uA 5 ?_ rfl hA0 hB0 (fun W hA => ?_) ?_; rotate_left; (· (go_simp; try with_reducible rfl)); (try simp only [Act.put, List.setIfInBounds_toArray, List.set_cons_zero, List.set_cons_succ]))
    (refine uA 6 ?_ rfl hA0 hB0 (fun W hA => ?_) ?_; rotate_left; (· (have a0 := HAD.out W hA; go_simp; try with_reducible rfl)); (try simp only [Act.put, List.setIfInBounds_toArray, List.set_cons_zero, List.set_cons_succ]))
    refine uOne (i := 7) rfl (by kernel_rfl) (fun K hK => ?_)
    go_simp
    go_at_call 21
    refine (HHS.out wd (HBR.out.trans (hA0.mono HBR.out.size))).mono ?_
    rintro e w9x ⟨rfl, rfl⟩
    (refine hK _ _ ⟨hA0, fun _ => hB0⟩ ?_; clear hK K; (try simp only [Act.put, List.setIfInBounds_toArray, List.set_cons_zero, List.set_cons_succ]))
    (refine uA 8 ?_ rfl hA0 hB0 (fun W hA => ?_) ?_; rotate_left; (· (go_simp; try with_reducible rfl)); (try simp only [Act.put, List.setIfInBounds_toArray, List.set_cons_zero, List.set_cons_succ]))
    refine anyU_done (by kernel_rfl) ?_ _
    have HBN := Lib.hid (HBR.out.trans (hA0.mono HBR.out.size))
    clear hA0
    go_wp2
    go_roundw
    case rel => exact ⟨k + 1, by go_num, by omega, HBN⟩
    case measure => simp [intOf]; omega
end Go.Proofs.Ytdnmpndnpfklcaa
