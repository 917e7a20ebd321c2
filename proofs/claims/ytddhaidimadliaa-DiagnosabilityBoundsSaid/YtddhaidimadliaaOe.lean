/- Walks: automaton.out. -/
import Derived.Test.YtddhaidimadliaaMi
import Derived.Test.YtddhaidimadliaaSa
import Derived.Test.YtddhaidimadliaaQa
namespace Go.Proofs.Ytddhaidimadliaa
open Go.RowKit Go Go.Maps

def LoE (l : List Ed) (s : Int) (i : Nat) : Prop := ∀ k x, k < i → l[k]? = some x → x.f < s
def HiE (l : List Ed) (s : Int) (i : Nat) : Prop := ∀ k x, i ≤ k → l[k]? = some x → s ≤ x.f
theorem edf_le {l : List Ed} (hs : l.Pairwise edLt) {i k : Nat} {x y : Ed} (hi : l[i]? = some x) (hk : l[k]? = some y) (h : i ≤ k) : x.f ≤ y.f := by
 rcases Nat.lt_or_ge i k with h1 | h1
 ·obtain ⟨a1, a2⟩ := List.getElem?_eq_some_iff.1 hi
  obtain ⟨b1, b2⟩ := List.getElem?_eq_some_iff.1 hk
  have := (List.pairwise_iff_getElem.1 hs) i k a1 b1 h1
  rw [a2, b2] at this
  unfold edLt at this
  omega
 ·obtain rfl : i = k := by omega
  rw [hi] at hk; injection hk with hk; subst hk; exact Int.le_refl _
theorem LoE.up {l : List Ed} (hs : l.Pairwise edLt) {s : Int} {x : Ed} {h : Nat} (hx : l[h]? = some x) (hlt : x.f < s) : LoE l s (h + 1) := fun k y hk hy => by
 have := edf_le hs hy hx (by omega); omega
theorem HiE.down {l : List Ed} (hs : l.Pairwise edLt) {s : Int} {x : Ed} {h : Nat} (hx : l[h]? = some x) (hge : ¬ x.f < s) : HiE l s h := fun k y hk hy => by
 have := edf_le hs hx hy hk; omega

set_option maxHeartbeats 1600000 in
theorem out_fn1 (x : Ed) (s : Int) (w : World) (h1 : 0 ≤ x.f) (h2 : x.f ≤ 4096) (h3 : 0 ≤ s) (h4 : s ≤ 4096) :
  Calls Try.prog 131 #[.agg #[.int .i64 x.f, .int .i64 x.e, .int .i64 x.t], .int .i64 s] w fun e w' => e = .returned (.int .i64 (x.f - s)) ∧ Below w.heap.size w w' := by
 have hb := box_below w (.cells #[.int .i64 x.f, .int .i64 x.e, .int .i64 x.t] 106)
 have HB := Lib.hid hb; clear hb
 go_enter Try.func131, Try.ntmps131
 go_wp2
 go_ret
 exact ⟨rfl, HB.out⟩

set_option maxHeartbeats 1600000 in
theorem out_fn2 (x : Ed) (s : Int) (w : World) (h1 : 0 ≤ x.f) (h2 : x.f ≤ 4096) (h3 : 0 ≤ s) (h4 : s ≤ 4096) :
  Calls Try.prog 132 #[.agg #[.int .i64 x.f, .int .i64 x.e, .int .i64 x.t], .int .i64 s] w fun e w' => e = .returned (.int .i64 (x.f - s)) ∧ Below w.heap.size w w' := by
 have hb := box_below w (.cells #[.int .i64 x.f, .int .i64 x.e, .int .i64 x.t] 106)
 have HB := Lib.hid hb; clear hb
 go_enter Try.func132, Try.ntmps132
 go_wp2
 go_ret
 exact ⟨rfl, HB.out⟩

set_option maxHeartbeats 1600000 in
theorem bsf1 (E : Option Addr) (c n : Nat) (l : List Ed) (s : Int) (w : World) (hl : l.length = n) (h : RdX w w.heap.size E l) (hn : n ≤ 4611686018427387903) (hs : l.Pairwise edLt) (hf : ∀ x ∈ l, 0 ≤ x.f ∧ x.f ≤ 4096) (h3 : 0 ≤ s) (h4 : s ≤ 4096) :
  Calls Try.prog 130 #[.slice E n c, .int .i64 s, .func (.func 131) #[] #[]] w fun e w' => (∃ (i : Nat) (b : Bool), e = .returned (.tuple #[.int .i64 i, .bool b]) ∧ i ≤ n ∧ LoE l s i ∧ HiE l s i) ∧ Below w.heap.size w w' := by
 have HL := Lib.hid hl; clear hl
 have HS := Lib.hid hs; clear hs
 have HF := Lib.hid hf; clear hf
 go_enter Try.func130, Try.ntmps130
 go_wp2
 go_loopw [9, 10] (fun i j wr => ∃ p q : Nat, p ≤ q ∧ q ≤ n ∧ i = .int .i64 p ∧ j = .int .i64 q ∧ Hid (LoE l s p) ∧ Hid (HiE l s q) ∧ Below w.heap.size w wr) (fun i j _ => (intOf j).toNat - (intOf i).toNat)
 case atStart => exact ⟨0, n, Nat.zero_le _, Nat.le_refl _, rfl, rfl, Lib.hid (fun k y hk => by omega), Lib.hid (fun k y hk hy => by have := get_lt hy; have := HL.out; omega), Below.refl _ _⟩
 case round =>
  obtain ⟨p, q, hpq, hq, rfl, rfl, H1, H2, hbel⟩ := hrel
  have hsz := hbel.size
  by_cases hlt : p < q
  ·obtain ⟨ad, y, rfl, hb, hy, hcell⟩ := ((h.below hbel).more hsz).get (k := (p + q) / 2) (by have := HL.out; omega)
   have b1 : (p : Int) < (q : Int) := by omega
   have hyb := HF.out y (List.mem_of_getElem? hy)
   have HC := Lib.hid (out_fn1 y s wr hyb.1 hyb.2 h3 h4)
   have HY := Lib.hid hy; clear hy
   have q0 : wr.cell? (ad.add ((p + q) / 2 * 3)) = some (.int .i64 y.f) := hcell 0 _ rfl
   have q1 : wr.cell? ⟨(ad.add ((p + q) / 2 * 3)).block, (ad.add ((p + q) / 2 * 3)).off + 1, none⟩ = some (.int .i64 y.e) := st_cells (j := 0) (hcell 1 _ rfl)
   have q2 : wr.cell? ⟨(ad.add ((p + q) / 2 * 3)).block, (ad.add ((p + q) / 2 * 3)).off + 2, none⟩ = some (.int .i64 y.t) := st_cells (j := 1) (hcell 2 _ rfl)
   clear hcell
   by_cases hyx : y.f < s
   ·have d1 : decide (y.f - s < 0) = true := decide_eq_true (by omega)
    have d2 : y.f - s < 0 := by omega
    go_wp2_with fail
    refine HC.out.mono ?_
    rintro e w1 ⟨rfl, hb1⟩
    have hbel1 := hbel.trans (hb1.mono hsz)
    clear q0 q1 q2
    go_wp2
    go_roundw
    case rel => exact ⟨(p + q) / 2 + 1, q, by omega, by omega, by go_num, rfl, Lib.hid (LoE.up HS.out HY.out hyx), H2, hbel1⟩
    case measure => simp [intOf]; omega
   ·have d1 : decide (y.f - s < 0) = false := decide_eq_false (by omega)
    have d2 : ¬ y.f - s < 0 := by omega
    go_wp2_with fail
    refine HC.out.mono ?_
    rintro e w1 ⟨rfl, hb1⟩
    have hbel1 := hbel.trans (hb1.mono hsz)
    clear q0 q1 q2
    go_wp2
    go_roundw
    case rel => exact ⟨p, (p + q) / 2, by omega, by omega, rfl, by go_num, H1, Lib.hid (HiE.down HS.out HY.out (by omega)), hbel1⟩
    case measure => simp [intOf]; omega
  ·obtain rfl : p = q := by omega
   clear hlt hpq
   by_cases hl : p < n
   ·obtain ⟨ad, y, rfl, hb, hy, hcell⟩ := ((h.below hbel).more hsz).get (k := p) (by have := HL.out; omega)
    have b1 : (p : Int) < (n : Int) := by omega
    have hyb := HF.out y (List.mem_of_getElem? hy)
    have HC := Lib.hid (out_fn1 y s wr hyb.1 hyb.2 h3 h4)
    have HY := Lib.hid hy; clear hy
    have q0 : wr.cell? (ad.add (p * 3)) = some (.int .i64 y.f) := hcell 0 _ rfl
    have q1 : wr.cell? ⟨(ad.add (p * 3)).block, (ad.add (p * 3)).off + 1, none⟩ = some (.int .i64 y.e) := st_cells (j := 0) (hcell 1 _ rfl)
    have q2 : wr.cell? ⟨(ad.add (p * 3)).block, (ad.add (p * 3)).off + 2, none⟩ = some (.int .i64 y.t) := st_cells (j := 1) (hcell 2 _ rfl)
    clear hcell
    go_wp2
    go_ret2
    exact ⟨⟨p, _, rfl, hq, H1.out, H2.out⟩, hbel.trans ((box_below _ _).mono hsz)⟩
   ·have b1 : decide ((p : Int) < (n : Int)) = false := decide_eq_false (by omega)
    go_wp2
    go_ret2
    exact ⟨⟨p, false, rfl, hq, H1.out, H2.out⟩, hbel⟩

set_option maxHeartbeats 1600000 in
theorem bsf2 (E : Option Addr) (c n : Nat) (l : List Ed) (s : Int) (w : World) (hl : l.length = n) (h : RdX w w.heap.size E l) (hn : n ≤ 4611686018427387903) (hs : l.Pairwise edLt) (hf : ∀ x ∈ l, 0 ≤ x.f ∧ x.f ≤ 4096) (h3 : 0 ≤ s) (h4 : s ≤ 4096) :
  Calls Try.prog 130 #[.slice E n c, .int .i64 s, .func (.func 132) #[] #[]] w fun e w' => (∃ (i : Nat) (b : Bool), e = .returned (.tuple #[.int .i64 i, .bool b]) ∧ i ≤ n ∧ LoE l s i ∧ HiE l s i) ∧ Below w.heap.size w w' := by
 have HL := Lib.hid hl; clear hl
 have HS := Lib.hid hs; clear hs
 have HF := Lib.hid hf; clear hf
 go_enter Try.func130, Try.ntmps130
 go_wp2
 go_loopw [9, 10] (fun i j wr => ∃ p q : Nat, p ≤ q ∧ q ≤ n ∧ i = .int .i64 p ∧ j = .int .i64 q ∧ Hid (LoE l s p) ∧ Hid (HiE l s q) ∧ Below w.heap.size w wr) (fun i j _ => (intOf j).toNat - (intOf i).toNat)
 case atStart => exact ⟨0, n, Nat.zero_le _, Nat.le_refl _, rfl, rfl, Lib.hid (fun k y hk => by omega), Lib.hid (fun k y hk hy => by have := get_lt hy; have := HL.out; omega), Below.refl _ _⟩
 case round =>
  obtain ⟨p, q, hpq, hq, rfl, rfl, H1, H2, hbel⟩ := hrel
  have hsz := hbel.size
  by_cases hlt : p < q
  ·obtain ⟨ad, y, rfl, hb, hy, hcell⟩ := ((h.below hbel).more hsz).get (k := (p + q) / 2) (by have := HL.out; omega)
   have b1 : (p : Int) < (q : Int) := by omega
   have hyb := HF.out y (List.mem_of_getElem? hy)
   have HC := Lib.hid (out_fn2 y s wr hyb.1 hyb.2 h3 h4)
   have HY := Lib.hid hy; clear hy
   have q0 : wr.cell? (ad.add ((p + q) / 2 * 3)) = some (.int .i64 y.f) := hcell 0 _ rfl
   have q1 : wr.cell? ⟨(ad.add ((p + q) / 2 * 3)).block, (ad.add ((p + q) / 2 * 3)).off + 1, none⟩ = some (.int .i64 y.e) := st_cells (j := 0) (hcell 1 _ rfl)
   have q2 : wr.cell? ⟨(ad.add ((p + q) / 2 * 3)).block, (ad.add ((p + q) / 2 * 3)).off + 2, none⟩ = some (.int .i64 y.t) := st_cells (j := 1) (hcell 2 _ rfl)
   clear hcell
   by_cases hyx : y.f < s
   ·have d1 : decide (y.f - s < 0) = true := decide_eq_true (by omega)
    have d2 : y.f - s < 0 := by omega
    go_wp2_with fail
    refine HC.out.mono ?_
    rintro e w1 ⟨rfl, hb1⟩
    have hbel1 := hbel.trans (hb1.mono hsz)
    clear q0 q1 q2
    go_wp2
    go_roundw
    case rel => exact ⟨(p + q) / 2 + 1, q, by omega, by omega, by go_num, rfl, Lib.hid (LoE.up HS.out HY.out hyx), H2, hbel1⟩
    case measure => simp [intOf]; omega
   ·have d1 : decide (y.f - s < 0) = false := decide_eq_false (by omega)
    have d2 : ¬ y.f - s < 0 := by omega
    go_wp2_with fail
    refine HC.out.mono ?_
    rintro e w1 ⟨rfl, hb1⟩
    have hbel1 := hbel.trans (hb1.mono hsz)
    clear q0 q1 q2
    go_wp2
    go_roundw
    case rel => exact ⟨p, (p + q) / 2, by omega, by omega, rfl, by go_num, H1, Lib.hid (HiE.down HS.out HY.out (by omega)), hbel1⟩
    case measure => simp [intOf]; omega
  ·obtain rfl : p = q := by omega
   clear hlt hpq
   by_cases hl : p < n
   ·obtain ⟨ad, y, rfl, hb, hy, hcell⟩ := ((h.below hbel).more hsz).get (k := p) (by have := HL.out; omega)
    have b1 : (p : Int) < (n : Int) := by omega
    have hyb := HF.out y (List.mem_of_getElem? hy)
    have HC := Lib.hid (out_fn2 y s wr hyb.1 hyb.2 h3 h4)
    have HY := Lib.hid hy; clear hy
    have q0 : wr.cell? (ad.add (p * 3)) = some (.int .i64 y.f) := hcell 0 _ rfl
    have q1 : wr.cell? ⟨(ad.add (p * 3)).block, (ad.add (p * 3)).off + 1, none⟩ = some (.int .i64 y.e) := st_cells (j := 0) (hcell 1 _ rfl)
    have q2 : wr.cell? ⟨(ad.add (p * 3)).block, (ad.add (p * 3)).off + 2, none⟩ = some (.int .i64 y.t) := st_cells (j := 1) (hcell 2 _ rfl)
    clear hcell
    go_wp2
    go_ret2
    exact ⟨⟨p, _, rfl, hq, H1.out, H2.out⟩, hbel.trans ((box_below _ _).mono hsz)⟩
   ·have b1 : decide ((p : Int) < (n : Int)) = false := decide_eq_false (by omega)
    go_wp2
    go_ret2
    exact ⟨⟨p, false, rfl, hq, H1.out, H2.out⟩, hbel⟩

theorem RdX.sub {w : World} {B : Nat} {E : Option Addr} {l : List Ed} (h : RdX w B E l) (i m : Nat) : RdX w B (E.map (fun x => x.add (i * 3))) ((l.drop i).take m) := fun k e he => by
 rw [List.getElem?_take] at he
 split at he
 ·rw [List.getElem?_drop] at he
  obtain ⟨ad, rfl, hb, hc⟩ := h (i + k) e he
  refine ⟨ad.add (i * 3), rfl, by rw [block_of_add]; exact hb, fun j u hj => ?_⟩
  rw [add_of_add, show i * 3 + (k * 3 + j) = (i + k) * 3 + j by omega]
  exact hc j u hj
 ·cases he
theorem lo_hi {l : List Ed} {s : Int} {i j n : Nat} (hl : l.length = n) (hi : i ≤ n) (h1 : LoE l s i) (h2 : HiE l (s + 1) j) (_hj : j ≤ n) : i ≤ j := by
 rcases Nat.lt_or_ge j i with h | h
 ·exfalso
  have hj : j < l.length := by omega
  have hx := List.getElem?_eq_getElem hj
  have a1 := h1 j _ h hx
  have a2 := h2 j _ (Nat.le_refl _) hx
  omega
 ·exact h
set_option maxHeartbeats 1600000 in
theorem automaton_outB (B : Nat) (A M E : Option Addr) (na ca nm cm ne ce : Nat) (st : Int) (l : List Ed) (s : Int) (w : World) (hB0 : B ≤ w.heap.size) (hl : l.length = ne) (h0 : RdX w B E l) (hne : ne ≤ ce) (_hce : ce ≤ 9223372036854775807) (hn : ne ≤ 131072) (hs : l.Pairwise edLt) (hf : ∀ x ∈ l, 0 ≤ x.f ∧ x.f ≤ 4096) (h3 : 0 ≤ s) (h4 : s ≤ 4095) :
  Calls Try.prog 127 #[.agg #[.slice A na ca, .int .i64 st, .slice M nm cm, .slice E ne ce], .int .i64 s] w fun e w' => (∃ (i j : Nat) (E' : Option Addr) (c' : Nat), e = .returned (.slice E' (j - i) c') ∧ i ≤ j ∧ j ≤ ne ∧ LoE l s i ∧ HiE l s i ∧ LoE l (s + 1) j ∧ HiE l (s + 1) j ∧ RdX w' B E' ((l.drop i).take (j - i))) ∧ Below w.heap.size w w' := by
 have h := h0.more hB0
 have hb := box_below w (.cells #[.slice A na ca, .int .i64 st, .slice M nm cm, .slice E ne ce] 34)
 have k : Blk (w.alloc (.cells #[.slice A na ca, .int .i64 st, .slice M nm cm, .slice E ne ce] 34)) w.heap.size 34 [.slice A na ca, .int .i64 st, .slice M nm cm, .slice E ne ce] := Blk.new _ _ _
 have H1 := Lib.hid (bsf1 E ce ne l s _ hl ((h.below hb).more hb.size) (by omega) hs hf h3 (by omega))
 have HB := Lib.hid hb; clear hb
 have HK := Lib.hid k; clear k
 have HL := Lib.hid hl; clear hl
 have HH := Lib.hid h; clear h
 have HH0 := Lib.hid h0; clear h0
 have HS := Lib.hid hs; clear hs
 have HF := Lib.hid hf; clear hf
 go_enter Try.func127, Try.ntmps127
 go_wp2_with fail
 refine H1.out.mono ?_
 rintro e w1 ⟨⟨i, b, rfl, hi, hlo, hhi⟩, hb1⟩
 have hB1 := HB.out.trans (hb1.mono HB.out.size)
 have k1 := HK.out.below hb1 HK.out.lt
 have c3 : w1.cell? ⟨w.heap.size, 3, none⟩ = some (.slice E ne ce) := k1.cell (j := 3) rfl
 have H2 := Lib.hid (bsf2 E ce ne l (s + 1) w1 HL.out ((HH.out.below hB1).more hB1.size) (by omega) HS.out HF.out (by omega) (by omega))
 have HB1 := Lib.hid hB1; clear hB1
 have K1 := Lib.hid k1; clear k1
 have HLO := Lib.hid hlo; clear hlo
 have HHI := Lib.hid hhi; clear hhi
 clear hb1 H1 HK
 go_wp2_with fail
 refine H2.out.mono ?_
 rintro e w2 ⟨⟨j, b2, rfl, hj, hlo2, hhi2⟩, hb2⟩
 have hB2 := HB1.out.trans (hb2.mono HB1.out.size)
 have c32 : w2.cell? ⟨w.heap.size, 3, none⟩ = some (.slice E ne ce) := (K1.out.below hb2 K1.out.lt).cell (j := 3) rfl
 have hij : i ≤ j := lo_hi HL.out hi HLO.out hhi2 hj
 have hij2 : (i : Int) ≤ (j : Int) := by omega
 have hjc : (j : Int) ≤ (ce : Int) := by omega
 have HLO2 := Lib.hid hlo2; clear hlo2
 have HHI2 := Lib.hid hhi2; clear hhi2
 have HB2 := Lib.hid hB2; clear hB2
 clear hb2 H2 c3
 go_wp2
 ·go_ret
  exact ⟨⟨i, j, _, ⟨_, rfl⟩, hij, hj, HLO.out, HHI.out, HLO2.out, HHI2.out, by rw [show j - i = 0 by omega]; exact RdR.nil⟩, HB2.out⟩
 ·go_ret
  exact ⟨⟨i, j, _, ⟨_, rfl⟩, hij, hj, HLO.out, HHI.out, HLO2.out, HHI2.out, (HH0.out.after HB2.out hB0).sub i (j - i)⟩, HB2.out⟩
theorem automaton_out (A M E : Option Addr) (na ca nm cm ne ce : Nat) (st : Int) (l : List Ed) (s : Int) (w : World) (hl : l.length = ne) (h : RdX w w.heap.size E l) (hne : ne ≤ ce) (hce : ce ≤ 9223372036854775807) (hn : ne ≤ 131072) (hs : l.Pairwise edLt) (hf : ∀ x ∈ l, 0 ≤ x.f ∧ x.f ≤ 4096) (h3 : 0 ≤ s) (h4 : s ≤ 4095) :
  Calls Try.prog 127 #[.agg #[.slice A na ca, .int .i64 st, .slice M nm cm, .slice E ne ce], .int .i64 s] w fun e w' => (∃ (i j : Nat) (E' : Option Addr) (c' : Nat), e = .returned (.slice E' (j - i) c') ∧ i ≤ j ∧ j ≤ ne ∧ LoE l s i ∧ HiE l s i ∧ LoE l (s + 1) j ∧ HiE l (s + 1) j ∧ RdX w' w'.heap.size E' ((l.drop i).take (j - i))) ∧ Below w.heap.size w w' := by
 refine (automaton_outB w.heap.size A M E na ca nm cm ne ce st l s w (Nat.le_refl _) hl h hne hce hn hs hf h3 h4).mono ?_
 rintro e w' ⟨⟨i, j, E', c', h1, h2, h3, h4, h5, h6, h7, h8⟩, hb⟩
 exact ⟨⟨i, j, E', c', h1, h2, h3, h4, h5, h6, h7, h8.more hb.size⟩, hb⟩
end Go.Proofs.Ytddhaidimadliaa


/- Walks: automaton.next's closure, slices.IndexFunc at edges. -/
namespace Go.Proofs.Ytddhaidimadliaa
open Go.RowKit Go Go.Maps

/-- the first edge with an event -/
def idxE (v : Int) : List Ed → Int
 | [] => -1
 | x :: l => if x.e = v then 0 else if idxE v l < 0 then -1 else idxE v l + 1
theorem idxE_none {v : Int} : ∀ {l : List Ed}, (∀ x ∈ l, x.e ≠ v) → idxE v l = -1
 | [], _ => rfl
 | x :: l, h => by
  unfold idxE
  rw [if_neg (h x (List.mem_cons_self ..)), idxE_none (fun y hy => h y (List.mem_cons_of_mem _ hy))]
  rfl
theorem idxE_at {v : Int} : ∀ {l : List Ed} {k : Nat} {x : Ed}, l[k]? = some x → x.e = v → (∀ j y, j < k → l[j]? = some y → y.e ≠ v) → idxE v l = k
 | [], k, x, h, _, _ => by simp at h
 | y :: l, 0, x, h, he, _ => by
  simp at h; subst h
  unfold idxE; rw [if_pos he]; rfl
 | y :: l, k + 1, x, h, he, hn => by
  have ih := idxE_at (l := l) (k := k) (x := x) (by simpa using h) he (fun j z hj hz => hn (j + 1) z (by omega) (by simpa using hz))
  unfold idxE
  rw [if_neg (hn 0 y (by omega) rfl), ih, if_neg (by omega)]
  omega

set_option maxHeartbeats 1600000 in
theorem next_fn (x : Ed) (v : Int) (p : Addr) (w : World) (hp : w.cell? p = some (.int .i64 v)) (hb : p.block < w.heap.size) :
  Calls Try.prog 128 #[.agg #[.int .i64 x.f, .int .i64 x.e, .int .i64 x.t], .pointer (some p)] w fun e w' => e = .returned (.bool (x.e == v)) ∧ Below w.heap.size w w' := by
 have hB := box_below w (.cells #[.int .i64 x.f, .int .i64 x.e, .int .i64 x.t] 106)
 have hp' : (w.alloc (.cells #[.int .i64 x.f, .int .i64 x.e, .int .i64 x.t] 106)).cell? p = some (.int .i64 v) := (World.cell?_alloc_lt w _ p hb).trans hp
 have HB := Lib.hid hB; clear hB
 clear hp
 go_enter Try.func128, Try.ntmps128
 go_wp2
 go_ret
 exact ⟨rfl, HB.out⟩

set_option maxHeartbeats 1600000 in
theorem edge_index (E : Option Addr) (c n : Nat) (l : List Ed) (v : Int) (p : Addr) (w : World) (hl : l.length = n) (h : RdX w w.heap.size E l) (hn : n ≤ 4611686018427387903) (hp : w.cell? p = some (.int .i64 v)) (hb : p.block < w.heap.size) :
  Calls Try.prog 93 #[.slice E n c, .func (.func 128) #[] #[.pointer (some p)]] w fun e w' => e = .returned (.int .i64 (idxE v l)) ∧ Below w.heap.size w w' := by
 obtain ⟨R, hR⟩ : ∃ R, idxE v l = R := ⟨_, rfl⟩
 rw [hR]
 have HR := Lib.hid hR; clear hR
 have HL := Lib.hid hl; clear hl
 have HP := Lib.hid hp; clear hp
 go_enter Try.func93, Try.ntmps93
 go_wp2
 go_loopw [8] (fun s8 wr => ∃ k : Nat, k ≤ n ∧ s8 = .int .i64 k ∧ Hid (∀ j y, j < k → l[j]? = some y → y.e ≠ v) ∧ Below w.heap.size w wr) (fun s8 _ => n - (intOf s8).toNat)
 case atStart => exact ⟨0, Nat.zero_le _, rfl, Lib.hid (fun j y hj => by omega), Below.refl _ _⟩
 case round =>
  obtain ⟨k, hk, rfl, HX, hbel⟩ := hrel
  have hsz := hbel.size
  by_cases hlt : k < n
  ·obtain ⟨ad, y, rfl, hbb, hy, hcell⟩ := ((h.below hbel).more hsz).get (k := k) (by have := HL.out; omega)
   have b1 : (k : Int) < (n : Int) := by omega
   have HC := Lib.hid (next_fn y v p wr ((hbel.cell (p := p) hb).trans HP.out) (Nat.lt_of_lt_of_le hb hsz))
   have HY := Lib.hid hy; clear hy
   have q0 : wr.cell? (ad.add (k * 3)) = some (.int .i64 y.f) := hcell 0 _ rfl
   have q1 : wr.cell? ⟨(ad.add (k * 3)).block, (ad.add (k * 3)).off + 1, none⟩ = some (.int .i64 y.e) := st_cells (j := 0) (hcell 1 _ rfl)
   have q2 : wr.cell? ⟨(ad.add (k * 3)).block, (ad.add (k * 3)).off + 2, none⟩ = some (.int .i64 y.t) := st_cells (j := 1) (hcell 2 _ rfl)
   clear hcell
   cases hq : (y.e == v) with
   | true =>
    rw [hq] at HC
    have he : R = (k : Int) := by rw [← HR.out]; exact idxE_at HY.out (by simpa using hq) HX.out
    have HE := Lib.hid he; clear he
    clear hq
    go_wp2_with fail
    refine HC.out.mono ?_
    rintro e w1 ⟨rfl, hb1⟩
    have hbel1 := hbel.trans (hb1.mono hsz)
    clear q0 q1 q2
    go_wp2
    go_ret
    exact ⟨by rw [HE.out]; rfl, hbel1⟩
   | false =>
    rw [hq] at HC
    have hne : y.e ≠ v := by simpa using hq
    have HX2 := Lib.hid (show ∀ j z, j < k + 1 → l[j]? = some z → z.e ≠ v from fun j z hj hz => by
     rcases Nat.lt_or_ge j k with h1 | h1
     ·exact HX.out j z h1 hz
     ·obtain rfl : j = k := by omega
      rw [HY.out] at hz; injection hz with hz; subst hz; exact hne)
    clear hq hne
    go_wp2_with fail
    refine HC.out.mono ?_
    rintro e w1 ⟨rfl, hb1⟩
    have hbel1 := hbel.trans (hb1.mono hsz)
    clear q0 q1 q2
    go_wp2
    go_roundw
    case rel => exact ⟨k + 1, by omega, by go_num, HX2, hbel1⟩
    case measure => simp [intOf]; omega
  ·have he : R = -1 := by
    rw [← HR.out]
    refine idxE_none fun x hx => ?_
    obtain ⟨j, hj⟩ := List.getElem?_of_mem hx
    exact HX.out j x (by have := (List.getElem?_eq_some_iff.1 hj).1; have := HL.out; omega) hj
   have HE := Lib.hid he; clear he
   go_wp2
   go_ret
   exact ⟨by rw [HE.out]; rfl, hbel⟩
end Go.Proofs.Ytddhaidimadliaa

/- Walks: automaton.next. -/
namespace Go.Proofs.Ytddhaidimadliaa
open Go.RowKit Go Go.Maps

theorem idxE_spec {v : Int} : ∀ (l : List Ed), (idxE v l = -1 ∧ ∀ x ∈ l, x.e ≠ v) ∨ (∃ (k : Nat) (x : Ed), idxE v l = k ∧ l[k]? = some x ∧ x.e = v)
 | [] => .inl ⟨rfl, fun x hx => by simp at hx⟩
 | y :: l => by
  by_cases hy : y.e = v
  ·exact .inr ⟨0, y, by unfold idxE; rw [if_pos hy]; rfl, rfl, hy⟩
  ·rcases idxE_spec (v := v) l with ⟨h1, h2⟩ | ⟨k, x, h1, h2, h3⟩
   ·exact .inl ⟨by unfold idxE; rw [if_neg hy, h1]; rfl, fun x hx => by
     rcases List.mem_cons.1 hx with rfl | hx
     ·exact hy
     ·exact h2 x hx⟩
   ·exact .inr ⟨k + 1, x, by unfold idxE; rw [if_neg hy, h1, if_neg (by omega)]; omega, by simpa using h2, h3⟩

set_option maxRecDepth 100000 in
set_option maxHeartbeats 1600000 in
theorem automaton_next (A M E : Option Addr) (na ca nm cm ne ce : Nat) (a : Aut) (s v : Int) (w : World) (h : AutR w w.heap.size A na ca M nm cm E ne ce a) (hw : WF a) (h3 : 0 ≤ s) (h4 : s < a.st) :
  Calls Try.prog 124 #[.agg #[.slice A na ca, .int .i64 a.st, .slice M nm cm, .slice E ne ce], .int .i64 s, .int .i64 v] w fun e w' => e = .returned (.int .i64 (nxt a s v)) ∧ Below w.heap.size w w' := by
 obtain ⟨st, hst⟩ : ∃ st, a.st = st := ⟨_, rfl⟩
 have hs1 := hw.st1
 rw [hst]
 have hb1 := box_below w (.cells #[.slice A na ca, .int .i64 st, .slice M nm cm, .slice E ne ce] 34)
 have hb2 : Below w.heap.size w ((w.alloc (.cells #[.slice A na ca, .int .i64 st, .slice M nm cm, .slice E ne ce] 34)).alloc (.cells #[.int .i64 v] 3)) := hb1.alloc (by simp) _
 have k3 : Blk ((w.alloc (.cells #[.slice A na ca, .int .i64 st, .slice M nm cm, .slice E ne ce] 34)).alloc (.cells #[.int .i64 v] 3)) w.heap.size 34 [.slice A na ca, .int .i64 st, .slice M nm cm, .slice E ne ce] := (Blk.new _ _ _).al _
 have k5 : Blk ((w.alloc (.cells #[.slice A na ca, .int .i64 st, .slice M nm cm, .slice E ne ce] 34)).alloc (.cells #[.int .i64 v] 3)) (w.heap.size + 1) 3 [.int .i64 v] := Blk.at_ _ _ _ (by simp)
 have HO := Lib.hid (automaton_out A M E na ca nm cm ne ce st a.ed s _ h.le ((h.re.below hb2).more hb2.size) h.ec h.cE (by rw [← h.le]; exact hw.ed_le) hw.einc (fun x hx => by have := hw.ev_rng hx; omega) h3 (by omega))
 have c0 := k3.cell (j := 0) rfl
 have c1 := k3.cell (j := 1) rfl
 have c2 := k3.cell (j := 2) rfl
 have c3 := k3.cell (j := 3) rfl
 have K5 := Lib.hid k5; clear k5
 have HB := Lib.hid hb2; clear hb2
 have HW := Lib.hid hw; clear hw
 have hle := h.le
 have HLE := Lib.hid hle; clear hle
 clear k3 hb1 h
 go_enter Try.func124, Try.ntmps124
 go_wp2_with fail
 refine HO.out.mono ?_
 rintro e w1 ⟨⟨i, j, E', c', rfl, hij, hj, l1, l2, l3, l4, hr⟩, hb3⟩
 have hL : (a.ed.drop i).take (j - i) = outE a s := out_slice hij l1 l2 l3 l4
 rw [hL] at hr
 have hlen : (outE a s).length = j - i := by rw [← hL, List.length_take, List.length_drop, HLE.out]; omega
 have hnl : j - i ≤ 4611686018427387903 := by have := HW.out.ed_le; rw [HLE.out] at this; omega
 have k5 := K5.out.below hb3 K5.out.lt
 have HI := Lib.hid (edge_index E' c' (j - i) (outE a s) v ⟨w.heap.size + 1, 0, none⟩ w1 hlen hr hnl (k5.cell (j := 0) rfl) k5.lt)
 have hB1 := HB.out.trans (hb3.mono HB.out.size)
 have HB1 := Lib.hid hB1; clear hB1
 have HR := Lib.hid hr; clear hr
 have HLN := Lib.hid hlen; clear hlen
 clear hb3 HO c0 c1 c2 c3 K5 HB l1 l2 l3 l4 hL k5
 rcases idxE_spec (v := v) (outE a s) with ⟨h1, h2⟩ | ⟨k, x, h1, h2, h5⟩
 ·rw [h1] at HI
  have HN := Lib.hid (nxt_no h2)
  clear h1 h2
  go_wp2_with fail
  refine HI.out.mono ?_
  rintro e w2 ⟨rfl, hb2⟩
  go_wp2
  go_ret
  exact ⟨by rw [HN.out]; rfl, HB1.out.trans (hb2.mono HB1.out.size)⟩
 ·rw [h1] at HI
  have HN := Lib.hid (nxt_yes HW.out (List.mem_of_getElem? h2) h5)
  have HX := Lib.hid h2; clear h2
  clear h1 h5
  go_wp2_with fail
  refine HI.out.mono ?_
  rintro e w2 ⟨rfl, hb2⟩
  obtain ⟨ad, e1, hbb, hc⟩ := ((HR.out.below hb2).more hb2.size) k x HX.out
  subst e1
  have q2 : w2.cell? ⟨(ad.add (k * 3)).block, (ad.add (k * 3)).off + 2, none⟩ = some (.int .i64 x.t) := st_cells (j := 1) (hc 2 _ rfl)
  have hkl : k < j - i := by have := (List.getElem?_eq_some_iff.1 HX.out).1; have := HLN.out; omega
  have b1 : (k : Int) < ((j - i : Nat) : Int) := by omega
  have hB2 := HB1.out.trans (hb2.mono HB1.out.size)
  have HB2 := Lib.hid hB2; clear hB2
  clear hc hb2
  go_wp2
  go_ret
  exact ⟨by rw [HN.out]; rfl, HB2.out⟩
end Go.Proofs.Ytddhaidimadliaa

/- Walks: automaton.follow, reached, Generates, Accepts. -/
namespace Go.Proofs.Ytddhaidimadliaa
open Go.RowKit Go Go.Maps

end Go.Proofs.Ytddhaidimadliaa
