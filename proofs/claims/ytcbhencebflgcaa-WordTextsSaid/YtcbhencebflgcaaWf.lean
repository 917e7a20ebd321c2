/- Walks: word.shuffles (it calls itself and a function that collects). -/
import Derived.Test.YtcbhencebflgcaaWe
import Derived.Deep.RegionHeld3
import Derived.Deep.AppendLies
import Derived.Deep.Cut
import Derived.Deep.CutRange
import Derived.Deep.DeepCutAuto
namespace Go.Proofs.Ytcbhencebflgcaa
open Go.RowKit Go

theorem ints_info : (Try.prog.info? 22).map (fun i => (i.zero, i.size, i.bytes)) = some (some (.slice none 0 0), 1, 24) := by kernel_rfl

/-- What has been collected: the variable in block p holds a row of the call's own whose slices read as L. -/
def Acc (B p : Nat) (w : World) (L : List (List Int)) : Prop :=
  ∃ (v : Value) (xs : List SlV), w.heap[p]? = some (.cells #[v] 45 (0, 0)) ∧ w.ownsRow (p + 1) 22 1 v xs.length (xs.map SlV.v) ∧
    (∀ s ∈ xs, RdK 3 B w s.A s.l ∧ s.l.length ≤ s.c ∧ s.c ≤ 9223372036854775807) ∧ xs.map SlV.l = L

theorem Acc.fr {B p : Nat} {w w' : World} {L : List (List Int)} (h : Acc B p w L) (hb : Below w.heap.size w w') (hB : B ≤ p) : Acc B p w' L := by
  obtain ⟨v, xs, h1, h2, h3, h4⟩ := h
  have hf : Fr 3 B w w' := Fr.of_below hb (by have := heap_lt h1; omega)
  exact ⟨v, xs, (hb.block p (heap_lt h1)).trans h1, own_below h2 hb, fun s hs => ⟨(h3 s hs).1.fr hf, (h3 s hs).2⟩, h4⟩

def EndU (R : World → Prop) (e : Ending) (w' : World) : Prop := e = .returned (.tuple #[]) ∧ R w'

set_option maxHeartbeats 800000 in
theorem shuffles_1 (B p : Nat) (A : Option Addr) (c : Nat) (l : List Int) (L : List (List Int)) (w : World) (hr : RdK 3 B w A l) (hlc : l.length ≤ c) (hc : c ≤ 9223372036854775807)
    (ha : Acc B p w L) (hB : B ≤ p) (hL : L.length ≤ 1000000) :
    Calls Try.prog 56 #[.slice A l.length c, .pointer (some ⟨p, 0, none⟩)] w (EndU fun w' => Acc B p w' (L ++ [l]) ∧ Fr 3 B w w') := by
  obtain ⟨v, xs, h1, h2, h3, h4⟩ := ha
  have hlen : xs.length ≤ 1000000 := by rw [← h4, List.length_map] at hL; exact hL
  have hp := heap_lt h1
  have hcell : w.cell? ⟨p, 0, none⟩ = some v := by simp [World.cell?, h1]
  have hno : ∀ k, v.ownBlock = some k → k ≠ p ∧ p + 1 ≤ k := fun k hk => by have := (h2.lt k hk).1; omega
  have H1 := Lib.hid h1; clear h1
  have H3 := Lib.hid h3; clear h3
  have H4 := Lib.hid h4; clear h4
  have HNO := Lib.hid hno; clear hno
  have H2 := Lib.hid h2
  clear h2
  go_enter Try.func56, Try.ntmps56
  go_wp2_with (at_builtin; refine wpList_push w (.slice A l.length c) rfl (.tmp 3) (.tmp 5) 45 rfl (p + 1) 22 (.slice none 0 0) 24 Try.underlying45 ints_info rfl v xs.length _ rfl H2.out rfl rfl (by omega) (by omega) (by omega) ?_; intro v' w' ho' hg' hb1; obtain ⟨g, cap, rfl, hgp, hgl⟩ := ho'.form (by omega); have hp' := (hg'.block p hp (fun e => (HNO.out p e.symm).1 rfl)).trans H1.out; have hc' : w'.cell? ⟨p, 0, none⟩ = some v := (by simp [World.cell?, hp']); have hf' : w'.frozen? ⟨p, 0, none⟩ = false := (by simp [World.frozen?, hp']); have HP := Lib.hid hp'; clear hp')
  go_end0
  have hnib : ∀ k, v.ownBlock = some k → B ≤ k ∧ ¬ IntBlk 3 w k := fun k hk => by
    refine ⟨by have := (HNO.out k hk).2; omega, ?_⟩
    rintro ⟨cs, fz, he⟩
    rcases H2.out.2 with ⟨hv, _⟩ | ⟨g', cap', cur, hv, _, hgg, _⟩
    · subst hv; cases hk
    · subst hv
      simp [Value.ownBlock] at hk
      subst hk
      rw [hgg] at he
      cases he
  have hfr1 : Fr 3 B w w' := Fr.grown hg' hnib (by omega)
  have hnp : ¬ IntBlk 3 w' p := by
    rintro ⟨cs, fz, he⟩
    rw [HP.out] at he
    cases he
  have hfr : Fr 3 B w (w'.setCell ⟨p, 0, none⟩ (.slice (some ⟨g, 0, none⟩) (xs.length + 1) cap)) := hfr1.trans (Fr.setCell _ hB hnp)
  refine ⟨rfl, ⟨.slice (some ⟨g, 0, none⟩) (xs.length + 1) cap, xs ++ [⟨A, c, l⟩], ?_, ?_, ?_, by rw [List.map_append, H4.out]; rfl⟩, hfr⟩
  · have := HP.out
    simp [World.setCell, Array.getElem?_modify, this]
  · have := ownsRow_setCell_below ho' (a := ⟨p, 0, none⟩) (by show p < p + 1; omega) (.slice (some ⟨g, 0, none⟩) (xs.length + 1) cap)
    rw [List.map_append, List.length_append]
    exact this
  · intro s hs
    rcases List.mem_append.1 hs with hs | hs
    · exact ⟨(H3.out s hs).1.fr hfr, (H3.out s hs).2⟩
    · simp at hs
      subst hs
      exact ⟨hr.fr hfr, hlc, hc⟩

theorem cells3 (w : World) (x y z : Value) (t : TypeId) : RdV (w.alloc (.cells #[x, y, z] t)) (w.heap.size + 1) (some ⟨w.heap.size, 0, none⟩) [x, y, z] := fun k u hu => by
  refine ⟨_, rfl, by show w.heap.size < _; omega, ?_⟩
  match k, hu with
  | 0, hu => simp at hu; subst hu; simp [Addr.add]
  | 1, hu => simp at hu; subst hu; simp [Addr.add]
  | 2, hu => simp at hu; subst hu; simp [Addr.add]
  | k + 3, hu => simp at hu

set_option maxHeartbeats 800000 in
theorem shuffles_base (B p : Nat) (hB : B ≤ p) (n : Nat) (G A C : Option Addr) (cg ca cc : Nat) (g a b : List Int) (L : List (List Int)) (w : World) (h0 : a.length = 0 ∨ b.length = 0)
    (hg : RdK 3 B w G g) (hg1 : g.length ≤ cg) (hg2 : cg ≤ 9223372036854775807) (ha : RdI w B A a) (ha1 : a.length ≤ ca) (ha2 : ca ≤ 9223372036854775807) (hb : RdI w B C b) (hb1 : b.length ≤ cc) (hb2 : cc ≤ 9223372036854775807)
    (hacc : Acc B p w L) (hL : L.length ≤ 1000000) (hgl : g.length + (a.length + b.length) ≤ 1000000) :
    Calls Try.prog 55 #[.slice G g.length cg, .slice A a.length ca, .slice C b.length cc, .func (.func 56) #[] #[.pointer (some ⟨p, 0, none⟩)]] w
      (EndU fun w' => Acc B p w' (L ++ shufN n g a b) ∧ Fr 3 B w w') := by
  have hBw : B ≤ w.heap.size := by obtain ⟨v, xs, h1, _⟩ := hacc; have := heap_lt h1; omega
  have hW : Below w.heap.size w (w.alloc (.cells #[.slice G g.length cg, .slice A a.length ca, .slice C b.length cc] 22)) := (Below.refl _ _).alloc (Nat.le_refl _) _
  have hS : RdS (w.alloc (.cells #[.slice G g.length cg, .slice A a.length ca, .slice C b.length cc] 22)) (w.alloc (.cells #[.slice G g.length cg, .slice A a.length ca, .slice C b.length cc] 22)).heap.size (some ⟨w.heap.size, 0, none⟩) [⟨G, cg, g⟩, ⟨A, ca, a⟩, ⟨C, cc, b⟩] := by
    refine ⟨(cells3 w _ _ _ _).more (by simp), fun s hs => ?_⟩
    simp only [List.mem_cons, List.not_mem_nil, or_false] at hs
    rcases hs with rfl | rfl | rfl
    · exact ⟨((hg.rd).after hW (Nat.le_refl _)).more (Nat.le_of_lt (alloc_lt _ _)), hg1, hg2⟩
    · exact ⟨(ha.after hW hBw).more (by have := alloc_lt w (.cells #[.slice G g.length cg, .slice A a.length ca, .slice C b.length cc] 22); omega), ha1, ha2⟩
    · exact ⟨(hb.after hW hBw).more (by have := alloc_lt w (.cells #[.slice G g.length cg, .slice A a.length ca, .slice C b.length cc] 22); omega), hb1, hb2⟩
  have hcat : catS [⟨G, cg, g⟩, ⟨A, ca, a⟩, ⟨C, cc, b⟩] = g ++ a ++ b := by simp [catS]
  have htot : (catS [⟨G, cg, g⟩, ⟨A, ca, a⟩, ⟨C, cc, b⟩]).length ≤ 17592186044416 := by rw [hcat]; simp; omega
  have hcon := slices_Concat (some ⟨w.heap.size, 0, none⟩) 3 _ _ hS (by simp) htot
  rw [hcat] at hcon
  have hfin := shufN_nil (n := n) (g := g) h0
  generalize g ++ a ++ b = l at hcon hfin
  have HF := Lib.hid hfin; clear hfin
  have HA := Lib.hid hacc; clear hacc
  have HC := Lib.hid hcon
  clear hcon hcat hS htot hW
  by_cases ha0 : a.length = 0
  · have b0 : ((a.length : Int) == 0) = true := beq_iff_eq.2 (by omega)
    clear h0
    have H0 := Lib.hid ha0; clear ha0
    go_enter Try.func55, Try.ntmps55
    go_wp2_with (first | (go_at_call 53; refine HC.out.mono ?_; rintro e w1 ⟨v1, rfl, ho1, hb1'⟩; have hbw1 := below_first hb1'; obtain ⟨A1, c1, rfl, k1, k2, k3⟩ := own_slI ho1) | (go_at_call 56; refine (shuffles_1 B p A1 c1 l L _ (RdK.of_own ho1) k1 k2 (HA.out.fr hbw1 hB) hB hL).mono ?_; rintro e w2 ⟨rfl, hacc2, hf12⟩))
    refine bodyPost_ret (results_none rfl _ _ _) rfl ?_
    exact ⟨rfl, by rw [HF.out]; exact hacc2, (Fr.of_below hbw1 hBw).trans hf12⟩
  · have b0 : ((a.length : Int) == 0) = false := beq_eq_false_iff_ne.2 (by omega)
    have b1 : ((b.length : Int) == 0) = true := beq_iff_eq.2 (by omega)
    clear h0 ha0
    go_enter Try.func55, Try.ntmps55
    go_wp2_with (first | (go_at_call 53; refine HC.out.mono ?_; rintro e w1 ⟨v1, rfl, ho1, hb1'⟩; have hbw1 := below_first hb1'; obtain ⟨A1, c1, rfl, k1, k2, k3⟩ := own_slI ho1) | (go_at_call 56; refine (shuffles_1 B p A1 c1 l L _ (RdK.of_own ho1) k1 k2 (HA.out.fr hbw1 hB) hB hL).mono ?_; rintro e w2 ⟨rfl, hacc2, hf12⟩))
    refine bodyPost_ret (results_none rfl _ _ _) rfl ?_
    exact ⟨rfl, by rw [HF.out]; exact hacc2, (Fr.of_below hbw1 hBw).trans hf12⟩

set_option maxRecDepth 100000 in
set_option maxHeartbeats 800000 in
theorem shuffles_any (B p : Nat) (hB : B ≤ p) (n : Nat) : ∀ (G A C : Option Addr) (ng na nb cg ca cc : Nat) (g a b : List Int) (L : List (List Int)) (w : World), g.length = ng → a.length = na → b.length = nb → na + nb = n →
    RdK 3 B w G g → ng ≤ cg → cg ≤ 9223372036854775807 → RdI w B A a → na ≤ ca → ca ≤ 9223372036854775807 → RdI w B C b → nb ≤ cc → cc ≤ 9223372036854775807 →
    Acc B p w L → L.length + 2 ^ n ≤ 1000000 → ng + n ≤ 1000000 →
    Calls Try.prog 55 #[.slice G ng cg, .slice A na ca, .slice C nb cc, .func (.func 56) #[] #[.pointer (some ⟨p, 0, none⟩)]] w
      (EndU fun w' => Acc B p w' (L ++ shufN n g a b) ∧ Fr 3 B w w') := by
  induction n with
  | zero =>
    intro G A C ng na nb cg ca cc g a b L w hng hna hnb hn hg hg1 hg2 ha ha1 ha2 hb hb1 hb2' hacc hL hgl
    subst hng hna hnb
    exact shuffles_base B p hB 0 G A C cg ca cc g a b L w (by omega) hg hg1 hg2 ha ha1 ha2 hb hb1 hb2' hacc (by omega) (by omega)
  | succ n ih =>
    intro G A C ng na nb cg ca cc g a b L w hng hna hnb hn hg hg1 hg2 ha ha1 ha2 hb hb1 hb2' hacc hL hgl
    by_cases h0 : na = 0 ∨ nb = 0
    · subst hng hna hnb
      exact shuffles_base B p hB (n + 1) G A C cg ca cc g a b L w h0 hg hg1 hg2 ha ha1 ha2 hb hb1 hb2' hacc (by have := Nat.two_pow_pos (n + 1); omega) (by omega)
    · have hal : 0 < na := by omega
      have hL1 : L.length + 2 ^ n ≤ 1000000 ∧ L.length + 2 ^ n + 2 ^ n ≤ 1000000 := by rw [Nat.pow_succ] at hL; omega
      obtain ⟨hL1, hL2⟩ := hL1
      clear hL
      have hbl : 0 < nb := by omega
      clear h0
      obtain ⟨ad, x, rfl, hadB, hx, hcx⟩ := ha.at_ (k := 0) (by omega)
      obtain ⟨bd, y, rfl, hbdB, hy, hcy⟩ := hb.at_ (k := 0) (by omega)
      rw [add_zero'] at hcx hcy
      have hBw : B ≤ w.heap.size := by obtain ⟨v, xs, h1, _⟩ := hacc; have := heap_lt h1; omega
      subst hng
      obtain ⟨A1, hsa, hra⟩ := slice_tail (P := Try.prog) 22 3 Try.underlying22 (by kernel_rfl) w B (some ad) a na ca hna (by omega) ha1 ha
      obtain ⟨C1, hsb, hrb⟩ := slice_tail (P := Try.prog) 22 3 Try.underlying22 (by kernel_rfl) w B (some bd) b nb cc hnb (by omega) hb1 hb
      have IH := Lib.hid ih; clear ih
      have HX := Lib.hid hx; clear hx
      have HY := Lib.hid hy; clear hy
      have HA := Lib.hid hacc; clear hacc
      have HNA := Lib.hid hna; clear hna
      have HNB := Lib.hid hnb; clear hnb
      have hnn : na + nb ≤ n + 1 ∧ n + 1 ≤ na + nb := by omega
      clear hn
      obtain ⟨hn1, hn2⟩ := hnn
      have b0 : ((na : Int) == 0) = false := beq_eq_false_iff_ne.2 (by omega)
      have b1 : ((nb : Int) == 0) = false := beq_eq_false_iff_ne.2 (by omega)
      have b2 : (0 : Int) < (na : Int) := by omega
      have b3 : (0 : Int) < (nb : Int) := by omega
      have b4 : (1 : Int) ≤ (na : Int) := by omega
      have b5 : (1 : Int) ≤ (nb : Int) := by omega
      go_enter Try.func55, Try.ntmps55
      go_wp2_with fail
      go_cut [34] (fun _ wx => Hid (Acc B p wx (L ++ shufN n (g ++ [x]) (a.drop 1) b)) ∧ Fr 3 B w wx)
      case first =>
       go_region_held3 (fun w' => w'.cell? ad = some (.int .i64 x)) (first | go_keep | exact ((hbw1.cell (p := ad) (Nat.lt_of_lt_of_le hadB hBw)).trans hcx) | exact ((hb12.cell (p := ad) (Nat.lt_of_lt_of_le hadB hBw)).trans hcx) | exact ((hf13.below.cell (p := ad) hadB).trans hcx))
        (first
          | (go_at_call 54; refine (slices_Clone _ _ _ _ (by exact (hg.rd.alloc (Nat.le_refl _) _).more (Nat.le_of_lt (alloc_lt _ _))) (by omega)).mono ?_; rintro e w1 ⟨v1, rfl, ho1, hbc⟩; have hbw1 := below_first_d hbc; have hc1 := cell_first_d hbc)
          | (go_at_call 54; refine (slices_Clone _ _ _ _ (by exact hg.rd) (by omega)).mono ?_; rintro e w1 ⟨v1, rfl, ho1, hbc⟩; have hbw1 : Below w.heap.size w w1 := below_undrew hbc)
          | (refine step_push _ (.int .i64 x) (by rfl) _ _ _ (by rfl) _ 3 (.int .i64 0) 8 Try.underlying22 int_info (by rfl) v1 g.length (iv g) (by rfl) ho1 ⟨w.heap.size, 0, none⟩ (by rfl) hc1 rfl (by omega) (by omega) hbc.size ?_; intro gg cap w2 ho2 hb2; have hb12 : Below w.heap.size w w2 := hbw1.trans (hb2.mono (Nat.le_of_lt (alloc_lt _ _))))
          | (refine step_push _ (.int .i64 x) (by rfl) _ _ _ (by rfl) _ 3 (.int .i64 0) 8 Try.underlying22 int_info (by rfl) v1 g.length (iv g) (by rfl) (ho1.alloc _) ⟨w1.heap.size, 0, none⟩ (by rfl) (cell_one _ _ _) rfl (by omega) (by omega) (alloc_le _ hbc.size) ?_; intro gg cap w2 ho2 hb2; have hb12 : Below w.heap.size w w2 := (Below.alloc hbw1 hbw1.size _).trans hb2)
          | (go_at_call 55; refine (IH.out _ A1 (some bd) (g.length + 1) (na - 1) nb cap (ca - 1) cc (g ++ [x]) (a.drop 1) b L _ (by simp) (by simp [HNA.out]) HNB.out (by omega) (RdK.of_own (by rw [iv_append]; exact ho2)) (own_cap ho2).1 (own_cap ho2).2 (hra.after hb12 hBw) (by omega) (by omega) (hb.after hb12 hBw) hb1 hb2' (HA.out.fr hb12 hB) hL1 (by omega)).mono ?_; rintro e w3 ⟨rfl, hacc3, hfr3⟩; have hf13 : Fr 3 B w w3 := (Fr.of_below hb12 hBw).trans hfr3))
       all_goals (try go_wp2_with fail)
       all_goals go_meet
       all_goals exact ⟨hacc3, hf13⟩
      case rest =>
       obtain ⟨HA3, hf13⟩ := hcut
       have hBc : B ≤ wc.heap.size := Nat.le_trans hBw hf13.size
       have hcy' := (hf13.below.cell (p := bd) hbdB).trans hcy
       have hgc := hg.fr hf13
       have hL3 : (L ++ shufN n (g ++ [x]) (a.drop 1) b).length + 2 ^ n ≤ 1000000 := by
         have := shufN_le n (g ++ [x]) (a.drop 1) b
         rw [List.length_append]; omega
       have hra' := ha.below hf13.below
       have hrb' := hrb.below hf13.below
       clear hcx hcy
       go_wp2_with fail
       go_region_held3 (fun w' => w'.cell? bd = some (.int .i64 y)) (first | go_keep | exact ((hbw1.cell (p := bd) (Nat.lt_of_lt_of_le hbdB hBc)).trans hcy') | exact ((hb12.cell (p := bd) (Nat.lt_of_lt_of_le hbdB hBc)).trans hcy') | exact ((hf34.below.cell (p := bd) hbdB).trans hcy'))
        (first
          | (go_at_call 54; refine (slices_Clone _ _ _ _ (by exact (hgc.rd.alloc (Nat.le_refl _) _).more (Nat.le_of_lt (alloc_lt _ _))) (by omega)).mono ?_; rintro e w1 ⟨v1, rfl, ho1, hbc⟩; have hbw1 := below_first_d hbc; have hc1 := cell_first_d hbc)
          | (go_at_call 54; refine (slices_Clone _ _ _ _ (by exact hgc.rd) (by omega)).mono ?_; rintro e w1 ⟨v1, rfl, ho1, hbc⟩; have hbw1 : Below wc.heap.size wc w1 := below_undrew hbc)
          | (refine step_push _ (.int .i64 y) (by rfl) _ _ _ (by rfl) _ 3 (.int .i64 0) 8 Try.underlying22 int_info (by rfl) v1 g.length (iv g) (by rfl) ho1 ⟨wc.heap.size, 0, none⟩ (by rfl) hc1 rfl (by omega) (by omega) hbc.size ?_; intro gg cap w2 ho2 hb2; have hb12 : Below wc.heap.size wc w2 := hbw1.trans (hb2.mono (Nat.le_of_lt (alloc_lt _ _))))
          | (refine step_push _ (.int .i64 y) (by rfl) _ _ _ (by rfl) _ 3 (.int .i64 0) 8 Try.underlying22 int_info (by rfl) v1 g.length (iv g) (by rfl) (ho1.alloc _) ⟨w1.heap.size, 0, none⟩ (by rfl) (cell_one _ _ _) rfl (by omega) (by omega) (alloc_le _ hbc.size) ?_; intro gg cap w2 ho2 hb2; have hb12 : Below wc.heap.size wc w2 := (Below.alloc hbw1 hbw1.size _).trans hb2)
          | (go_at_call 55; refine (IH.out _ (some ad) C1 (g.length + 1) na (nb - 1) cap ca (cc - 1) (g ++ [y]) a (b.drop 1) _ _ (by simp) HNA.out (by simp [HNB.out]) (by omega) (RdK.of_own (by rw [iv_append]; exact ho2)) (own_cap ho2).1 (own_cap ho2).2 (hra'.after hb12 hBc) ha1 ha2 (hrb'.after hb12 hBc) (by omega) (by omega) (HA3.out.fr hb12 hB) hL3 (by omega)).mono ?_; rintro e w3 ⟨rfl, hacc3, hf23⟩; have hf34 : Fr 3 B wc w3 := (Fr.of_below hb12 hBc).trans hf23))
       all_goals (try go_wp2_with fail)
       all_goals go_end0
       all_goals exact ⟨rfl, by rw [shufN_cons HX.out HY.out, ← List.append_assoc]; exact hacc3, hf13.trans hf34⟩
end Go.Proofs.Ytcbhencebflgcaa
