/- Walks: ref06.Initial, Marked, Find, Refusers; ref01.Same. -/
import Derived.Test.YtbdliebjalghmaaDoorGc
import Derived.Test.YtbdliebjalghmaaDoorTu
import Derived.Test.YtbdliebjalghmaaDoorMl
namespace Go.Proofs.YtbdliebjalghmaaDoor
open Go.RowKit Go

theorem rfsG_nil : ∀ {l : List Aut} {t : List Int} {v i : Int}, rfsG l t v i = [] ↔ rfB l t v = false
  | [], t, v, i => by simp [rfsG, rfB]
  | a :: l, [], v, i => by simp [rfsG, rfB]
  | a :: l, s :: t, v, i => by
    unfold rfsG rfB
    cases h : rf a s v with
    | true => simp
    | false => simp [rfsG_nil]
theorem rfsG_len : ∀ (l : List Aut) (t : List Int) (v i : Int), (rfsG l t v i).length ≤ l.length
  | [], t, v, i => by simp [rfsG]
  | a :: l, [], v, i => by simp [rfsG]
  | a :: l, s :: t, v, i => by
    have := rfsG_len l t v (i + 1)
    unfold rfsG
    split <;> simp <;> omega


set_option maxRecDepth 100000 in
set_option maxHeartbeats 1600000 in
theorem ref_Initial (L : Option Addr) (c n : Nat) (xs : List AV) (w : World) (hl : xs.length = n) (h : RdL w w.heap.size L xs) (hc1 : n ≤ c) (_hc2 : c ≤ 9223372036854775807) (hn : n ≤ 1000000) :
    Calls Tryd.prog 25 #[.slice L n c] w (RetOB (if noSt (xs.map AV.a) = true then [] else ini (xs.map AV.a)) (!noSt (xs.map AV.a)) w) := by
  obtain ⟨R, hR⟩ : ∃ R, (if noSt (xs.map AV.a) = true then [] else ini (xs.map AV.a)) = R := ⟨_, rfl⟩
  obtain ⟨q, hq⟩ : ∃ q, noSt (xs.map AV.a) = q := ⟨_, rfl⟩
  rw [hR, hq]
  rw [hq] at hR
  have HL := Lib.hid hl; clear hl
  have HQ := Lib.hid hq; clear hq
  have HR := Lib.hid hR; clear hR
  have hm : ∀ W : World, (Instr.makeSlice 26 (.int .i64 (n : Int)) (.int .i64 (n : Int))).run Tryd.prog W = .ok (.slice (some ⟨W.heap.size, 0, none⟩) n n) (W.alloc (.cells (madeCells #[.int .i64 0] n) 3)) := fun W => run_make_row' 26 3 (.int .i64 0) 8 Tryd.underlying26 int_info rfl .i64 .i64 n (by omega) (by omega) W
  have hbel := Below.refl w.heap.size w
  go_enter Tryd.func25, Tryd.ntmps25
  go_wp2
  go_loopw [4] (fun i wr => ∃ k : Nat, k ≤ n ∧ i = .int .i64 k ∧ Hid (stTo (xs.map AV.a) k) ∧ wr = w) (fun i _ => n - (intOf i).toNat)
  case atStart => exact ⟨0, Nat.zero_le _, rfl, Lib.hid (fun j a hj => by omega), rfl⟩
  case round =>
    obtain ⟨k, hk, rfl, HX, hwr⟩ := hrel
    obtain rfl : w = wr := hwr.symm
    obtain ⟨wr, rfl⟩ : ∃ wr, wr = w := ⟨_, rfl⟩
    by_cases hlt : k < n
    · skip
      obtain ⟨ad, A', na, ca, M, nm, cm, E, ne, ce, a, rfl, hbb, hx, q0, q1, q2, q3, haR⟩ := (h.below hbel).at_ (k := k) (by have := HL.out; omega)
      have b1 : (k : Int) < (n : Int) := by omega
      have p1 : wr.cell? ⟨(ad.add (k * 4)).block, (ad.add (k * 4)).off + 1, none⟩ = some (.int .i64 a.st) := st_cells (j := 0) q1
      have p2 : wr.cell? ⟨(ad.add (k * 4)).block, (ad.add (k * 4)).off + 2, none⟩ = some (.slice M nm cm) := st_cells (j := 1) q2
      have p3 : wr.cell? ⟨(ad.add (k * 4)).block, (ad.add (k * 4)).off + 3, none⟩ = some (.slice E ne ce) := st_cells (j := 2) q3
      clear q1 q2 q3
      have hxa : (xs.map AV.a)[k]? = some a := by simp [hx]
      clear haR
      by_cases h0 : a.st = 0
      · have hqt := HQ.out.symm.trans (noSt_hit hxa h0)
        have hb0 : (a.st == 0) = true := by simpa using h0
        have HXA := Lib.hid hxa; clear hxa
        have HX2 := Lib.hid hx; clear hx
        subst hqt
        have hr := HR.out
        rw [if_pos rfl] at hr
        have HR2 := Lib.hid hr; clear hr
        have H00 := Lib.hid h0; clear h0
        go_wp2
        go_ret2
        rw [← HR2.out]
        exact ⟨_, rfl, World.ownsRow_nil _ _ _ _, hbel⟩
      · have hb0 : (a.st == 0) = false := by simpa using h0
        have HS := Lib.hid (stTo_step HX.out hxa h0)
        have HXA := Lib.hid hxa; clear hxa
        have HX2 := Lib.hid hx; clear hx
        have H00 := Lib.hid h0; clear h0
        go_wp2
        go_roundw
        case rel => exact ⟨k + 1, by omega, by go_num, HS, by first | trivial | rfl⟩
        case measure => simp [intOf]; omega
    · obtain rfl : k = n := by omega
      have hqf := HQ.out.symm.trans (stTo_end HX.out (by rw [List.length_map, HL.out]; exact Nat.le_refl _))
      subst hqf
      have hr := HR.out
      rw [if_neg (by simp)] at hr
      have hlen : R.length = k := by rw [← hr]; simp [ini, HL.out]
      have ho := own_made wr wr.heap.size k 3 (Nat.le_refl _) (by omega)
      rw [show List.replicate k (0 : Int) = R by rw [← hr]; simp [ini, HL.out]] at ho
      have HO := Lib.hid ho; clear ho
      have HR2 := Lib.hid hr; clear hr
      have HLEN := Lib.hid hlen; clear hlen
      go_wp2
      go_ret2
      exact ⟨_, rfl, by rw [HLEN.out]; exact HO.out, hbel.alloc (Nat.le_refl _) _⟩

set_option maxRecDepth 100000 in
set_option maxHeartbeats 1600000 in
theorem ref_Marked (L : Option Addr) (c n : Nat) (xs : List AV) (T : Option Addr) (ct : Nat) (t : List Int) (q : Bool) (w : World) (hl : xs.length = n) (h : RdL w w.heap.size L xs) (_hc1 : n ≤ c) (_hc2 : c ≤ 9223372036854775807) (ht : t.length = n) (hT : RdI w w.heap.size T t) (hct : n ≤ ct) (hct2 : ct ≤ 9223372036854775807)
    (hq : mkT (xs.map AV.a) t = q) :
    Calls Tryd.prog 31 #[.slice L n c, .slice T n ct] w fun e w' => e = .returned (.bool q) ∧ ∃ p, w' = w.drewN p := by
  have HL := Lib.hid hl; clear hl
  have HTL := Lib.hid ht; clear ht
  have HQ := Lib.hid hq; clear hq
  go_enter Tryd.func31, Tryd.ntmps31
  go_wp2
  go_loopw [5] (fun i wr => ∃ k : Nat, k ≤ n ∧ i = .int .i64 k ∧ Hid (mkTo (xs.map AV.a) t k) ∧ ∃ p, wr = w.drewN p) (fun i _ => n - (intOf i).toNat)
  case atStart => exact ⟨0, Nat.zero_le _, rfl, Lib.hid (fun j a s hj => by omega), (by first | exact dr00 _ | exact dr0 _ _ | exact dr1 _ _ _ | exact dr2 _ _ _ _ | exact dr3 _ _ _ _ _)⟩
  case round =>
    obtain ⟨k, hk, rfl, HX, p, hp⟩ := hrel
    have hbel : Below w.heap.size w wr := by rw [hp]; exact below_drewN (Below.refl _ _) p
    by_cases hlt : k < n
    · skip
      obtain ⟨ad, A', na, ca, M, nm, cm, E, ne, ce, a, rfl, hbb, hx, q0, q1, q2, q3, haR⟩ := (h.below hbel).at_ (k := k) (by have := HL.out; omega)
      have b1 : (k : Int) < (n : Int) := by omega
      have p1 : wr.cell? ⟨(ad.add (k * 4)).block, (ad.add (k * 4)).off + 1, none⟩ = some (.int .i64 a.st) := st_cells (j := 0) q1
      have p2 : wr.cell? ⟨(ad.add (k * 4)).block, (ad.add (k * 4)).off + 2, none⟩ = some (.slice M nm cm) := st_cells (j := 1) q2
      have p3 : wr.cell? ⟨(ad.add (k * 4)).block, (ad.add (k * 4)).off + 3, none⟩ = some (.slice E ne ce) := st_cells (j := 2) q3
      clear q1 q2 q3
      have hxa : (xs.map AV.a)[k]? = some a := by simp [hx]
      obtain ⟨td, s, rfl, hbt, hts, hcs⟩ := (hT.below hbel).at_ (k := k) (by have := HTL.out; omega)
      have HMA := Lib.hid (show ∀ m : Nat, RdI (wr.drewN m) (wr.drewN m).heap.size M a.ma from fun m => haR.rm.more hbel.size)
      have HLM := Lib.hid haR.lm
      have hmc := haR.mc
      have hcM := haR.cM
      have d1 : (k : Int) < (ct : Int) := by omega
      have HP := Lib.hid hp; clear hp
      clear haR
      cases hh : hasB a.ma s with
      | false =>
        have hqf := HQ.out.symm.trans (mkTo_no hxa hts hh)
        subst hqf
        have HH := Lib.hid hh; clear hh
        have HXA := Lib.hid hxa; clear hxa
        have HX2 := Lib.hid hx; clear hx
        have HTS := Lib.hid hts; clear hts
        go_wp2
        go_quiet ((go_at_call 58; refine quiet_eq (ref_Contains M cm nm a.ma s false _ HLM.out HH.out (HMA.out _) hmc hcM)))
        go_wp2
        go_ret
        exact ⟨rfl, by rw [HP.out]; exact (by first | exact dr00 _ | exact dr0 _ _ | exact dr1 _ _ _ | exact dr2 _ _ _ _ | exact dr3 _ _ _ _ _)⟩
      | true =>
        have HS := Lib.hid (mkTo_step HX.out hxa hts hh)
        have HH := Lib.hid hh; clear hh
        have HXA := Lib.hid hxa; clear hxa
        have HX2 := Lib.hid hx; clear hx
        have HTS := Lib.hid hts; clear hts
        go_wp2
        go_quiet ((go_at_call 58; refine quiet_eq (ref_Contains M cm nm a.ma s true _ HLM.out HH.out (HMA.out _) hmc hcM)))
        go_wp2
        go_roundw
        case rel => exact ⟨k + 1, by omega, by go_num, HS, by rw [HP.out]; exact (by first | exact dr00 _ | exact dr0 _ _ | exact dr1 _ _ _ | exact dr2 _ _ _ _ | exact dr3 _ _ _ _ _)⟩
        case measure => simp [intOf]; omega
    · have hqt := HQ.out.symm.trans (mkTo_end HX.out (by rw [List.length_map, HL.out]; omega))
      subst hqt
      have HP := Lib.hid hp; clear hp
      go_wp2
      go_ret
      exact ⟨rfl, by rw [HP.out]; exact (by first | exact dr00 _ | exact dr0 _ _ | exact dr1 _ _ _ | exact dr2 _ _ _ _ | exact dr3 _ _ _ _ _)⟩

set_option maxHeartbeats 400000 in
theorem ref_Same (A B : Option Addr) (c d : Nat) (a b : List Int) (w : World) (ha : RdI w w.heap.size A a) (hac : a.length ≤ c) (hc : c ≤ 9223372036854775807)
    (hb : RdI w w.heap.size B b) :
    Calls Tryd.prog 75 #[.slice A a.length c, .slice B b.length d] w fun e w' => e = .returned (.bool (eqB a b)) ∧ ∃ n, w' = w.drewN n := by
  by_cases hl : a.length = b.length
  · have hl1 : ((a.length : Int) != (b.length : Int)) = false := by simp [hl]
    have HL := Lib.hid hl; clear hl
    go_enter Tryd.func75, Tryd.ntmps75
    go_wp2
    go_loopw [5] (fun i wr => ∃ k : Nat, k ≤ a.length ∧ i = .int .i64 k ∧ Hid (a.take k = b.take k) ∧ ∃ n, wr = w.drewN n) (fun i _ => a.length - (intOf i).toNat)
    case atStart => exact ⟨0, Nat.zero_le _, rfl, Lib.hid rfl, (by first | exact dr00 _ | exact dr0 _ _ | exact dr1 _ _ _ | exact dr2 _ _ _ _ | exact dr3 _ _ _ _ _)⟩
    case round =>
      obtain ⟨k, hk, rfl, HX, n, rfl⟩ := hrel
      by_cases hlt : k < a.length
      · obtain ⟨ad, x, rfl, _, hx, hcx⟩ := ha.at_ hlt
        obtain ⟨bd, y, rfl, _, hy, hcy⟩ := hb.at_ (k := k) (by have := HL.out; omega)
        have HXX := Lib.hid hx; clear hx
        have HYY := Lib.hid hy; clear hy
        have hkb : k < b.length := by have := HL.out; omega
        have b1 : (k : Int) < (a.length : Int) := by omega
        have b2 : (k : Int) < (b.length : Int) := by omega
        by_cases hxy : x = y
        · subst hxy
          go_wp2
          go_quiet (fail)
          go_wp2
          go_roundw
          case rel => exact ⟨k + 1, by omega, by go_num, Lib.hid (take_eq_snoc HXX.out HYY.out HX.out), (by first | exact dr00 _ | exact dr0 _ _ | exact dr1 _ _ _ | exact dr2 _ _ _ _ | exact dr3 _ _ _ _ _)⟩
          case measure => simp [intOf]; omega
        · have hxy' : (x != y) = true := by simpa using hxy
          go_wp2
          go_quiet (fail)
          go_wp2
          go_ret
          exact ⟨ret_bool (ne_of_get HXX.out HYY.out hxy).symm, (by first | exact dr00 _ | exact dr0 _ _ | exact dr1 _ _ _ | exact dr2 _ _ _ _ | exact dr3 _ _ _ _ _)⟩
      · go_wp2
        go_ret
        exact ⟨ret_bool (eqB_of (eq_of_drop HL.out HX.out hlt)).symm, (by first | exact dr00 _ | exact dr0 _ _ | exact dr1 _ _ _ | exact dr2 _ _ _ _ | exact dr3 _ _ _ _ _)⟩
  · have hl1 : ((a.length : Int) != (b.length : Int)) = true := by rw [bne_iff_ne]; omega
    have HL := Lib.hid hl; clear hl
    go_enter Tryd.func75, Tryd.ntmps75
    go_wp2
    go_ret
    exact ⟨ret_bool (ne_of_len HL.out).symm, (by first | exact dr00 _ | exact dr0 _ _ | exact dr1 _ _ _ | exact dr2 _ _ _ _ | exact dr3 _ _ _ _ _)⟩

set_option maxHeartbeats 800000 in
theorem ref_Find6 (A T : Option Addr) (c n ct nt : Nat) (xs : List SlV) (t : List Int) (w : World) (hl : xs.length = n) (hx : RdS w w.heap.size A xs) (hc1 : n ≤ c) (hc2 : c ≤ 9223372036854775807) (ht : t.length = nt) (hT : RdI w w.heap.size T t) :
    Calls Tryd.prog 51 #[.slice A n c, .slice T nt ct] w fun e w' => e = .returned (.int .i64 (idx (xs.map SlV.l) t)) ∧ ∃ p, w' = w.drewN p := by
  obtain ⟨r, hr⟩ : ∃ r, idx (xs.map SlV.l) t = r := ⟨_, rfl⟩
  rw [hr]
  subst ht
  have HL := Lib.hid hl; clear hl
  have HR := Lib.hid hr; clear hr
  go_enter Tryd.func51, Tryd.ntmps51
  go_wp2
  go_loopw [5] (fun i wr => ∃ (k p : Nat), k ≤ n ∧ i = .int .i64 k ∧ Hid (t ∉ (xs.map SlV.l).take k) ∧ wr = w.drewN p) (fun i _ => n - (intOf i).toNat)
  case atStart => exact ⟨0, 0, Nat.zero_le _, rfl, Lib.hid (by simp), rfl⟩
  case round =>
    obtain ⟨k, p, hk, rfl, HX, rfl⟩ := hrel
    by_cases hlt : k < n
    · obtain ⟨ad, s, rfl, _, hs, hcs, hrs, hs1, hs2⟩ := hx.at_ (k := k) (by have := HL.out; omega)
      have hsm : (xs.map SlV.l)[k]? = some s.l := by simp [hs]
      have b1 : (k : Int) < (n : Int) := by omega
      have HS := Lib.hid hs; clear hs
      have HSM := Lib.hid hsm; clear hsm
      have HSA := Lib.hid (ref_Same s.A T s.c ct s.l t (w.drewN p) (by exact hrs) hs1 hs2 (by exact hT))
      cases hq : eqB s.l t with
      | true =>
        have HF := Lib.hid (show r = (k : Int) by rw [← HR.out]; exact idx_hit (by rw [HSM.out, eqB_eq hq]) HX.out)
        rw [hq] at HSA
        clear hq
        go_wp2_with fail
        refine HSA.out.mono ?_
        rintro e w' ⟨rfl, m, rfl⟩
        go_wp2
        go_ret
        exact ⟨ret_int HF.out.symm, (by first | exact dr00 _ | exact dr0 _ _ | exact dr1 _ _ _ | exact dr2 _ _ _ _ | exact dr3 _ _ _ _ _)⟩
      | false =>
        have HX2 := Lib.hid (not_take_succ HSM.out HX.out (eqB_ne hq))
        rw [hq] at HSA
        clear hq
        go_wp2_with fail
        refine HSA.out.mono ?_
        rintro e w' ⟨rfl, m, rfl⟩
        go_wp2
        go_roundw
        case rel => exact ⟨k + 1, p + m, by omega, by go_num, HX2, by first | rfl | exact World.drewN_drewN _ _ _⟩
        case measure => simp [intOf]; omega
    · have HF := Lib.hid (show r = -1 by rw [← HR.out]; exact idx_end HX.out (by have := HL.out; rw [List.length_map]; omega))
      go_wp2
      go_ret
      exact ⟨ret_int HF.out.symm, (by first | exact dr00 _ | exact dr0 _ _ | exact dr1 _ _ _ | exact dr2 _ _ _ _ | exact dr3 _ _ _ _ _)⟩
end Go.Proofs.YtbdliebjalghmaaDoor
