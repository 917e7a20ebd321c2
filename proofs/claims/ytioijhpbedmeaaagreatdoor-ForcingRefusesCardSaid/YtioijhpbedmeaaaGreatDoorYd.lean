/- Walks: slices.Index and slices.Equal at pairs, slices.EqualFunc at lists of ints. -/
import Derived.Test.YtioijhpbedmeaaaGreatDoorMi
import Derived.Test.YtioijhpbedmeaaaGreatDoorGa
import Derived.Test.YtioijhpbedmeaaaGreatDoorTu
import Derived.Deep.Cut
import Derived.ChangeKeysEq
namespace Go.Proofs.YtioijhpbedmeaaaGreatDoor
open Go.RowKit Go

theorem pair_eql (w : World) (a b c d : Int) : (binOp .eql 45 (.agg #[.int .i64 a, .int .i64 b]) (.agg #[.int .i64 c, .int .i64 d])).run Tryz.prog w = .ok (.bool (decide ((a, b) = (c, d)))) w := by
  obtain ⟨i, hi, _⟩ := info_parts int_info
  have hc : Tryz.prog.cellsOf 3 = 1 := by kernel_rfl
  have hu := Tryz.underlying45
  have hv := Tryz.underlying3
  simp only [binOp]
  simp only [Op.equal, Op.maxDepth, Sem.run_bind, run_equalIn_array w 9999 _ _ hu hi, hc]
  simp [Op.eqItems, List.range, List.range.loop, part]
  rw [run_equalIn_int w 9998 3 .i64 .i64 a c hv]
  by_cases h1 : a = c
  · subst h1
    simp [run_equalIn_int w 9998 3 .i64 .i64 b d hv]
    by_cases h2 : b = d <;> simp [h2]
  · simp [h1]
theorem pair_neq (w : World) (a b c d : Int) : (binOp .neq 45 (.agg #[.int .i64 a, .int .i64 b]) (.agg #[.int .i64 c, .int .i64 d])).run Tryz.prog w = .ok (.bool (!decide ((a, b) = (c, d)))) w := by
  obtain ⟨i, hi, _⟩ := info_parts int_info
  have hc : Tryz.prog.cellsOf 3 = 1 := by kernel_rfl
  have hu := Tryz.underlying45
  have hv := Tryz.underlying3
  simp only [binOp]
  simp only [Op.equal, Op.maxDepth, Sem.run_bind, run_equalIn_array w 9999 _ _ hu hi, hc]
  simp [Op.eqItems, List.range, List.range.loop, part]
  rw [run_equalIn_int w 9998 3 .i64 .i64 a c hv]
  by_cases h1 : a = c
  · subst h1
    simp [run_equalIn_int w 9998 3 .i64 .i64 b d hv]
    by_cases h2 : b = d <;> simp [h2]
  · simp [h1]
theorem two_of {x : List Int} (h : x.length = 2) : ∃ a b, x = [a, b] := by
  match x, h with
  | [a, b], _ => exact ⟨a, b, rfl⟩
set_option maxHeartbeats 800000 in
theorem slices_IndexP (B : Option Addr) (cb nb : Nat) (T : List (List Int)) (a b : Int) (w : World) (tl : T.length = nb) (hT : RdR 2 iv w w.heap.size B T) (h2 : ∀ x ∈ T, x.length = 2) (hc1 : nb ≤ cb) (hc2 : cb ≤ 9223372036854775807) :
    Calls Tryz.prog 49 #[.slice B nb cb, .agg #[.int .i64 a, .int .i64 b]] w fun e w' => e = .returned (.int .i64 (idx T [a, b])) ∧ Below w.heap.size w w' := by
  have hb1 := box_below w (.cells #[.int .i64 a, .int .i64 b] 45)
  have k1 : Blk (w.alloc (.cells #[.int .i64 a, .int .i64 b] 45)) w.heap.size 45 [.int .i64 a, .int .i64 b] := Blk.new _ _ [_, _]
  have hT1 := (hT.below hb1).more hb1.size
  have HL := Lib.hid tl; clear tl
  have H2 := Lib.hid h2; clear h2
  clear hT
  go_enter Tryz.func49, Tryz.ntmps49
  go_upto_region 1 with fail
  generalize w.alloc (.cells #[.int .i64 a, .int .i64 b] 45) = w1 at hb1 k1 hT1 ⊢
  have HB1 := Lib.hid hb1
  have c0 := k1.cell (j := 0) rfl
  have c1 := k1.cell (j := 1) rfl
  clear hb1 k1
  go_wp2
  go_loopw [5, 8] (fun s5 s8 wr => ∃ (k : Nat) (v5 : Value), k ≤ nb ∧ s5 = v5 ∧ s8 = .int .i64 k ∧ Hid ([a, b] ∉ T.take k) ∧ ∃ n, wr = w1.drewN n) (fun _ s8 _ => nb - (intOf s8).toNat)
  case atStart => exact ⟨0, _, Nat.zero_le _, rfl, rfl, Lib.hid (by simp), (by first | exact dr00 _ | exact dr0 _ _ | exact dr1 _ _ _ | exact dr2 _ _ _ _ | exact dr3 _ _ _ _ _)⟩
  case round =>
    obtain ⟨k, v5, hk, rfl, rfl, HN, n, rfl⟩ := hrel
    by_cases hlt : k < nb
    · obtain ⟨ad, t, rfl, hab, ht, hcell⟩ := hT1.get (k := k) (by have := HL.out; omega)
      obtain ⟨x, y, rfl⟩ := two_of (H2.out t (List.mem_of_getElem? ht))
      have q0 : w1.cell? (ad.add (k * 2)) = some (.int .i64 x) := hcell 0 _ rfl
      have q1 := st_cells (j := 0) (show w1.cell? (ad.add (k * 2 + 1)) = some (.int .i64 y) from hcell 1 _ rfl)
      simp only [Nat.zero_add] at q1
      have b1 : (k : Int) < (nb : Int) := by omega
      clear hab hcell
      by_cases hxy : (a, b) = (x, y)
      · have hpe := fun W => (pair_eql W a b x y).trans (by rw [decide_eq_true hxy])
        have hf := idx_hit (x := [a, b]) (by rw [ht]; simp only [Prod.mk.injEq] at hxy; rw [hxy.1, hxy.2]) HN.out
        have HF := Lib.hid hf; clear hf
        have HY := Lib.hid ht; clear ht
        clear hxy
        go_wp2
        go_quiet (fail)
        go_wp2
        go_ret
        exact ⟨ret_int HF.out.symm, HB1.out.trans ((below_drewN (below_drewN (Below.refl _ _) _) _).mono HB1.out.size)⟩
      · have hpe := fun W => (pair_eql W a b x y).trans (by rw [decide_eq_false hxy])
        have HS := Lib.hid (not_take_succ ht HN.out (fun e => hxy (by injection e with e1 e2; injection e2 with e2; rw [e1, e2])))
        have HY := Lib.hid ht; clear ht
        clear hxy
        go_wp2
        go_quiet (fail)
        go_wp2
        go_roundw
        case rel => exact ⟨k + 1, _, by omega, rfl, by go_num, HS, (by first | exact dr00 _ | exact dr0 _ _ | exact dr1 _ _ _ | exact dr2 _ _ _ _ | exact dr3 _ _ _ _ _)⟩
        case measure => simp [intOf]; omega
    · have hf : idx T [a, b] = -1 := idx_end HN.out (by have := HL.out; omega)
      have HF := Lib.hid hf; clear hf
      go_wp2
      go_ret
      exact ⟨ret_int HF.out.symm, HB1.out.trans ((below_drewN (Below.refl _ _) _).mono HB1.out.size)⟩
def eqP (a b : List (List Int)) : Bool := decide (a = b)
theorem eqP_of {a b : List (List Int)} (h : a = b) : eqP a b = true := by unfold eqP; rw [decide_eq_true_iff]; exact h
theorem eqP_ne {a b : List (List Int)} {k : Nat} {x y : List Int} (ha : a[k]? = some x) (hb : b[k]? = some y) (h : x ≠ y) : eqP a b = false := by
  unfold eqP; rw [decide_eq_false_iff_not]; rintro rfl; rw [ha] at hb; injection hb with hb; exact h hb
theorem eqP_len {a b : List (List Int)} (h : a.length ≠ b.length) : eqP a b = false := by
  unfold eqP; rw [decide_eq_false_iff_not]; rintro rfl; exact h rfl
theorem take_eq_snocP {a b : List (List Int)} {k : Nat} {x : List Int} (ha : a[k]? = some x) (hb : b[k]? = some x) (h : a.take k = b.take k) : a.take (k + 1) = b.take (k + 1) := by rw [take_snoc' ha, take_snoc' hb, h]
theorem eq_of_dropP {a b : List (List Int)} (hl : a.length = b.length) {k : Nat} (h : a.take k = b.take k) (hk : ¬ k < a.length) : a = b := by
  rwa [List.take_of_length_le (by omega), List.take_of_length_le (by omega)] at h
set_option maxHeartbeats 800000 in
theorem slices_EqualP (A B : Option Addr) (c d na nb : Nat) (a b : List (List Int)) (q : Bool) (w : World) (hla : a.length = na) (hlb : b.length = nb) (hq : eqP a b = q) (ha : RdR 2 iv w w.heap.size A a) (h2 : ∀ x ∈ a, x.length = 2) (h3 : ∀ x ∈ b, x.length = 2)
    (hb : RdR 2 iv w w.heap.size B b) (hac : na ≤ c) (hc : c ≤ 9223372036854775807) :
    Calls Tryz.prog 19 #[.slice A na c, .slice B nb d] w fun e w' => e = .returned (.bool q) ∧ ∃ n, w' = w.drewN n := by
  by_cases hl : na = nb
  · subst hl
    have HLA := Lib.hid hla; clear hla
    have HLB := Lib.hid hlb; clear hlb
    have HQ := Lib.hid hq; clear hq
    have H2 := Lib.hid h2; clear h2
    have H3 := Lib.hid h3; clear h3
    go_enter Tryz.func19, Tryz.ntmps19
    go_wp2
    go_loopw [5, 13] (fun s5 i wr => ∃ (k : Nat) (v5 : Value), k ≤ na ∧ s5 = v5 ∧ i = .int .i64 k ∧ Hid (a.take k = b.take k) ∧ ∃ n, wr = w.drewN n) (fun _ i _ => na - (intOf i).toNat)
    case atStart => exact ⟨0, _, Nat.zero_le _, rfl, rfl, Lib.hid rfl, (by first | exact dr00 _ | exact dr0 _ _ | exact dr1 _ _ _ | exact dr2 _ _ _ _ | exact dr3 _ _ _ _ _)⟩
    case round =>
      obtain ⟨k, v5, hk, rfl, rfl, HX, n, rfl⟩ := hrel
      by_cases hlt : k < na
      · obtain ⟨ad, x, rfl, _, hx, hcx⟩ := ha.get (k := k) (by have := HLA.out; omega)
        obtain ⟨bd, y, rfl, _, hy, hcy⟩ := hb.get (k := k) (by have := HLB.out; omega)
        obtain ⟨x0, x1, rfl⟩ := two_of (H2.out x (List.mem_of_getElem? hx))
        obtain ⟨y0, y1, rfl⟩ := two_of (H3.out y (List.mem_of_getElem? hy))
        have b1 : (k : Int) < (na : Int) := by omega
        have p0 : w.cell? (ad.add (k * 2)) = some (.int .i64 x0) := hcx 0 _ rfl
        have p1 := st_cells (j := 0) (show w.cell? (ad.add (k * 2 + 1)) = some (.int .i64 x1) from hcx 1 _ rfl)
        have q0 : w.cell? (bd.add (k * 2)) = some (.int .i64 y0) := hcy 0 _ rfl
        have q1 := st_cells (j := 0) (show w.cell? (bd.add (k * 2 + 1)) = some (.int .i64 y1) from hcy 1 _ rfl)
        simp only [Nat.zero_add] at p1 q1
        have HXX := Lib.hid hx; clear hx
        have HYY := Lib.hid hy; clear hy
        clear hcx hcy
        by_cases hxy : (x0, x1) = (y0, y1)
        · have hpe := fun W => (pair_neq W x0 x1 y0 y1).trans (by rw [decide_eq_true hxy, Bool.not_true])
          have HE := Lib.hid (show a.take (k + 1) = b.take (k + 1) from take_eq_snocP HXX.out (by rw [HYY.out]; simp only [Prod.mk.injEq] at hxy; rw [hxy.1, hxy.2]) HX.out)
          clear hxy
          go_wp2
          go_quiet (fail)
          go_wp2
          go_roundw
          case rel => exact ⟨k + 1, _, by omega, rfl, by go_num, HE, (by first | exact dr00 _ | exact dr0 _ _ | exact dr1 _ _ _ | exact dr2 _ _ _ _ | exact dr3 _ _ _ _ _)⟩
          case measure => simp [intOf]; omega
        · have hpe := fun W => (pair_neq W x0 x1 y0 y1).trans (by rw [decide_eq_false hxy, Bool.not_false])
          have HE := Lib.hid (show q = false from HQ.out.symm.trans (eqP_ne HXX.out HYY.out (fun e => hxy (by injection e with e1 e2; injection e2 with e2; rw [e1, e2]))))
          clear hxy
          go_wp2
          go_quiet (fail)
          go_wp2
          go_ret
          exact ⟨ret_bool HE.out.symm, (by first | exact dr00 _ | exact dr0 _ _ | exact dr1 _ _ _ | exact dr2 _ _ _ _ | exact dr3 _ _ _ _ _)⟩
      · have hf := HQ.out.symm.trans (eqP_of (eq_of_dropP (HLA.out.trans HLB.out.symm) HX.out (by rw [HLA.out]; exact hlt)))
        have HF := Lib.hid hf; clear hf
        go_wp2
        go_ret
        exact ⟨ret_bool HF.out.symm, (by first | exact dr00 _ | exact dr0 _ _ | exact dr1 _ _ _ | exact dr2 _ _ _ _ | exact dr3 _ _ _ _ _)⟩
  · have hl1 : ((na : Int) != (nb : Int)) = true := by rw [bne_iff_ne]; omega
    have hf := hq.symm.trans (eqP_len (by rw [hla, hlb]; exact hl))
    have HF := Lib.hid hf; clear hf
    clear hq hla hlb
    go_enter Tryz.func19, Tryz.ntmps19
    go_wp2
    go_ret
    exact ⟨ret_bool HF.out.symm, (by first | exact dr00 _ | exact dr0 _ _ | exact dr1 _ _ _ | exact dr2 _ _ _ _ | exact dr3 _ _ _ _ _)⟩
set_option maxHeartbeats 800000 in
theorem slices_EqualF (A B : Option Addr) (c d na nb : Nat) (xs ys : List SlV) (q : Bool) (w : World) (hla : xs.length = na) (hlb : ys.length = nb) (hq : eqP (xs.map SlV.l) (ys.map SlV.l) = q) (ha : RdS w w.heap.size A xs) (hb : RdS w w.heap.size B ys) (hac : na ≤ c) (hc : c ≤ 9223372036854775807) :
    Calls Tryz.prog 25 #[.slice A na c, .slice B nb d, .func (.func 26) #[] #[]] w fun e w' => e = .returned (.bool q) ∧ ∃ n, w' = w.drewN n := by
  have ef : ∀ args W, (callFunc 26 args).run Tryz.prog W = .ok (.enter 26 args) W := enters_of Tryz.func26 (by kernel_rfl) rfl
  by_cases hl : na = nb
  · subst hl
    have HLA := Lib.hid hla; clear hla
    have HLB := Lib.hid hlb; clear hlb
    have HQ := Lib.hid hq; clear hq
    go_enter Tryz.func25, Tryz.ntmps25
    go_wp2
    go_loopw [7, 8, 9, 17] (fun s7 s8 s9 i wr => ∃ (k : Nat) (v7 v8 v9 : Value), k ≤ na ∧ s7 = v7 ∧ s8 = v8 ∧ s9 = v9 ∧ i = .int .i64 k ∧ Hid ((xs.map SlV.l).take k = (ys.map SlV.l).take k) ∧ ∃ n, wr = w.drewN n) (fun _ _ _ i _ => na - (intOf i).toNat)
    case atStart => exact ⟨0, _, _, _, Nat.zero_le _, rfl, rfl, rfl, rfl, Lib.hid rfl, (by first | exact dr00 _ | exact dr0 _ _ | exact dr1 _ _ _ | exact dr2 _ _ _ _ | exact dr3 _ _ _ _ _)⟩
    case round =>
      obtain ⟨k, v7, v8, v9, hk, rfl, rfl, rfl, rfl, HX, n, rfl⟩ := hrel
      by_cases hlt : k < na
      · obtain ⟨ad, ⟨xA, xc, xl⟩, rfl, _, hx, p0, xr, xc1, xc2⟩ := ha.at_ (k := k) (by have := HLA.out; omega)
        obtain ⟨bd, ⟨yA, yc, yl⟩, rfl, _, hy, q0, yr, yc1, yc2⟩ := hb.at_ (k := k) (by have := HLB.out; omega)
        simp only at p0 q0 xr yr xc1 xc2 yc1 yc2
        have b1 : (k : Int) < (na : Int) := by omega
        obtain ⟨nx, hnx⟩ : ∃ n, xl.length = n := ⟨_, rfl⟩
        obtain ⟨ny, hny⟩ : ∃ n, yl.length = n := ⟨_, rfl⟩
        rw [hnx] at p0 xc1
        rw [hny] at q0 yc1
        obtain ⟨t, ht⟩ : ∃ t, eqB xl yl = t := ⟨_, rfl⟩
        have HXX := Lib.hid (show (xs.map SlV.l)[k]? = some xl by rw [List.getElem?_map, hx]; rfl)
        have HYY := Lib.hid (show (ys.map SlV.l)[k]? = some yl by rw [List.getElem?_map, hy]; rfl)
        have HEQ := Lib.hid (fun m => slices_Equal_n xA yA xc yc nx ny xl yl t (w.drewN m) hnx hny ht (xr.below (below_drewN (Below.refl _ _) m)) xc1 xc2 (yr.below (below_drewN (Below.refl _ _) m)))
        have HCL := Lib.hid (show Calls Tryz.prog 26 #[.slice xA nx xc, .slice yA ny yc] (w.drewN n) fun e w' => e = .returned (.bool t) ∧ ∃ n, w' = w.drewN n from by
          clear HX HXX HYY p0 q0 hx hy xr yr HLA HLB HQ
          have HE := Lib.hid (HEQ.out n)
          clear HEQ
          go_enter Tryz.func26, Tryz.ntmps26
          go_wp2_with fail
          refine HE.out.mono ?_
          rintro e w' ⟨rfl, m, rfl⟩
          go_wp2
          go_ret
          exact ⟨rfl, (by first | exact dr00 _ | exact dr0 _ _ | exact dr1 _ _ _ | exact dr2 _ _ _ _ | exact dr3 _ _ _ _ _)⟩)
        clear hx hy xr yr hnx hny
        cases t with
        | true =>
          have HE := Lib.hid (show (xs.map SlV.l).take (k + 1) = (ys.map SlV.l).take (k + 1) from take_eq_snocP HXX.out (by rw [HYY.out, eqB_eq ht]) HX.out)
          clear ht
          go_wp2_with (go_at_fn 26; refine HCL.out.mono ?_; rintro e w' ⟨rfl, m, rfl⟩)
          go_roundw
          case rel => exact ⟨k + 1, _, _, _, by omega, rfl, rfl, rfl, by go_num, HE, m, rfl⟩
          case measure => simp [intOf]; omega
        | false =>
          have HE := Lib.hid (show q = false from HQ.out.symm.trans (eqP_ne HXX.out HYY.out (eqB_ne ht)))
          clear ht
          go_wp2_with (go_at_fn 26; refine HCL.out.mono ?_; rintro e w' ⟨rfl, m, rfl⟩)
          go_ret
          exact ⟨ret_bool HE.out.symm, m, rfl⟩
      · have hf := HQ.out.symm.trans (eqP_of (eq_of_dropP (by rw [List.length_map, List.length_map, HLA.out, HLB.out]) HX.out (by rw [List.length_map, HLA.out]; exact hlt)))
        have HF := Lib.hid hf; clear hf
        go_wp2
        go_ret
        exact ⟨ret_bool HF.out.symm, (by first | exact dr00 _ | exact dr0 _ _ | exact dr1 _ _ _ | exact dr2 _ _ _ _ | exact dr3 _ _ _ _ _)⟩
  · have hl1 : ((na : Int) != (nb : Int)) = true := by rw [bne_iff_ne]; omega
    have hf := hq.symm.trans (eqP_len (by rw [List.length_map, List.length_map, hla, hlb]; exact hl))
    have HF := Lib.hid hf; clear hf
    clear hq hla hlb
    go_enter Tryz.func25, Tryz.ntmps25
    go_wp2
    go_ret
    exact ⟨ret_bool HF.out.symm, (by first | exact dr00 _ | exact dr0 _ _ | exact dr1 _ _ _ | exact dr2 _ _ _ _ | exact dr3 _ _ _ _ _)⟩
end Go.Proofs.YtioijhpbedmeaaaGreatDoor
