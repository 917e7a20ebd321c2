/- The law ProductLimits: its walk. -/
import Derived.Test.YtbdliebjalghmaaDoorGf
import Derived.Test.YtbdliebjalghmaaDoorMn
import Derived.Test.YtbdliebjalghmaaDoorRg
import Derived.Test.YtbdliebjalghmaaDoorMj
import Derived.Test.YtbdliebjalghmaaDoorQp
namespace Go.Proofs.YtbdliebjalghmaaDoor
open Go.RowKit Go Go.Maps

/-- The block b (the first behind w0) holds an automaton whose edges grow in a row of its own. -/
structure CirB (b : Nat) (w0 w : World) (v0 v1 v2 ev : Value) (ke : Nat) (es : List Ed) : Prop where
  sz : w0.heap.size = b
  bel : Below b w0 w
  blk : Blk w b 29 [v0, v1, v2, ev]
  edg : w.ownsRow (b + 1) 43 3 ev ke (es.flatMap edc)
  edl : es.length = ke
section
variable {b : Nat} {w0 w w' : World} {v0 v1 v2 ev : Value} {ke : Nat} {es : List Ed}
theorem CirB.start (w0 : World) (v0 v1 v2 : Value) (h : w0.heap.size = b) : CirB b w0 (w0.alloc (.cells #[v0, v1, v2, .slice none 0 0] 29)) v0 v1 v2 (.slice none 0 0) 0 [] := by
  subst h; exact ⟨rfl, box_below _ _, Blk.new _ _ _, World.ownsRow_nil _ _ _ _, rfl⟩
theorem CirB.lt (h : CirB b w0 w v0 v1 v2 ev ke es) : b < w.heap.size := h.blk.lt
theorem CirB.quiet (h : CirB b w0 w v0 v1 v2 ev ke es) (hb : Below w.heap.size w w') : CirB b w0 w' v0 v1 v2 ev ke es :=
  ⟨h.sz, h.bel.trans (hb.mono (Nat.le_of_lt h.lt)), h.blk.below hb h.lt, own_below h.edg hb, h.edl⟩
theorem CirB.edge (h : CirB b w0 w v0 v1 v2 ev ke es) {A : Option Addr} {c : Nat} {x : Ed} (ho : w'.ownsRow (b + 1) 43 3 (.slice A (ke + 1) c) (ke + 1) (es.flatMap edc ++ edc x)) (hg : w.grownBy w' ev.ownBlock) :
    CirB b w0 (w'.setCell ⟨b, 3, none⟩ (.slice A (ke + 1) c)) v0 v1 v2 (.slice A (ke + 1) c) (ke + 1) (es ++ [x]) := by
  have r1 : b < b + 1 := Nat.lt_succ_self _
  have hs := grown_setCell w' b 3 (.slice A (ke + 1) c)
  have hbl := h.blk.kept hg (own_lt_ne h.edg r1)
  exact ⟨h.sz, (h.bel.grown hg (Nat.le_of_lt h.lt) (fun j hj => by have := (h.edg.lt j hj).1; omega)).setCell (Nat.le_refl _) _, hbl.set (by simp) _, own_kept_low (by simpa using ho) hs r1, by simp [h.edl]⟩
end
theorem cast_kof {T m K P : Nat} (h : 1 + m = K) (hP : T * K = P) : (1 + (m : Int)) = (K : Int) ∧ (T : Int) * (K : Int) = (P : Int) := by
  subst h hP; exact ⟨by omega, by rw [Int.natCast_mul]⟩
theorem cast_big {T m P : Nat} (hP : T * (1 + m) = P) : (T : Int) * (1 + (m : Int)) = (P : Int) := by
  subst hP; rw [Int.natCast_mul]; rfl
theorem cir_next {t : List Int} {k TT : Nat} {x : Int} (h : t[k]? = some x) (hT : limT (t.take k) = TT) (K : Nat) (hk : kOf TT x = K) : cirG 0 (limK (t.take (k + 1))) = cirG 0 (limK (t.take k)) ++ [cir (k : Nat) K] := by
  have hlt := (List.getElem?_eq_some_iff.1 h).1
  have hl : (limK (t.take k)).length = k := by rw [limK_len, List.length_take]; omega
  have e : kOf (prodN (cirG 0 (limK (t.take k)))) x = K := by rw [← hk, ← hT]; rfl
  rw [limK_snoc h, e, cirG_app, hl, Nat.zero_add]
  rfl
theorem mul_rng {T K : Nat} (h1 : T ≤ 100000) (h2 : K ≤ 9) : 0 ≤ (T : Int) * (K : Int) ∧ (T : Int) * (K : Int) ≤ 900000 := by
  have := Nat.mul_le_mul h1 h2
  rw [← Int.natCast_mul]
  omega

set_option maxRecDepth 100000 in
set_option maxHeartbeats 6400000 in
theorem limits_walk (T : Option Addr) (ct nt : Nat) (t : List Int) (w : World) (ht : t.length = nt) (hT : RdB w w.heap.size T t) (hbt : ∀ (k : Nat) (x : Int), t[k]? = some x → 0 ≤ x ∧ x ≤ 255) :
    Calls Tryd.prog 4 #[.slice T nt ct] w fun e w' => e = .returned (.bool true) ∧ Below w.heap.size w w' := by
  have HK := Lib.hid (law_known w)
  have HT := Lib.hid hT; clear hT
  have HTL := Lib.hid ht; clear ht
  have HBT := Lib.hid hbt; clear hbt
  go_enter Tryd.func4, Tryd.ntmps4
  go_wp2_with fail
  refine HK.out.mono ?_
  rintro e w1 ⟨rfl, hb1⟩
  have HT1 := Lib.hid ((HT.out.below hb1).more hb1.size)
  have HB1 := Lib.hid hb1; clear hb1
  clear HK HT
  go_wp2
  go_loopw [3, 4, 5] (fun s3 s4 s5 wr => ∃ (k : Nat) (v : Value) (xs : List AV), s5 = .int .i64 k ∧ s3 = v ∧ s4 = .int .i64 (limT (t.take k) : Nat) ∧ k ≤ nt ∧ k ≤ 6 ∧ Hid (xs.map AV.a = cirG 0 (limK (t.take k))) ∧ Hid (xs.length = k) ∧ Hid (wr.ownsRow w1.heap.size 29 4 v k (xs.flatMap avc)) ∧ Hid (∀ x ∈ xs, x.own wr w1.heap.size) ∧ Below w1.heap.size w1 wr) (fun _ _ s5 _ => 6 - (intOf s5).toNat)
  case atStart => exact ⟨0, _, [], rfl, rfl, rfl, Nat.zero_le _, by omega, Lib.hid rfl, Lib.hid rfl, Lib.hid (World.ownsRow_nil _ _ _ _), Lib.hid (fun x hx => by simp at hx), Below.refl _ _⟩
  case round =>
    obtain ⟨k, v, xs, rfl, rfl, rfl, hk, hk6, HM, HN, HO, HX, hbel⟩ := hrel
    obtain ⟨VA, vc, rfl⟩ := own_shape HO.out
    have hsz := hbel.size
    obtain ⟨ht1, ht2⟩ := limT_le t k
    by_cases hgo : k < nt ∧ k < 6
    · obtain ⟨hlt, hlt6⟩ := hgo
      obtain ⟨td, x, rfl, htb, hts, hcs⟩ := HT1.out.at_ (k := k) (by have := HTL.out; omega)
      obtain ⟨x0, x1⟩ := HBT.out k x hts
      have b1 : (k : Int) < (nt : Int) := by omega
      have b2 : (k : Int) < 6 := by omega
      have hcs' : wr.cell? (td.add k) = some (.int .u8 x) := (hbel.cell (p := td.add k) (by rw [block_of_add]; exact htb)).trans hcs
      have HTS := Lib.hid (limT_snoc hts)
      obtain ⟨TT, hTT⟩ : ∃ TT, limT (t.take k) = TT := ⟨_, rfl⟩
      obtain ⟨m, hm⟩ : ∃ m : Nat, x % 9 = (m : Int) := ⟨(x % 9).toNat, by omega⟩
      have hm8 : m ≤ 8 := by omega
      have hk0 : kOf TT x = if 100000 < TT * (1 + m) then 1 else 1 + m := by unfold kOf; rw [hm]; rfl
      rw [hTT] at ht1 ht2 HTS ⊢
      have HCN := Lib.hid (cir_next hts hTT)
      have HTT := Lib.hid hTT; clear hTT
      clear hcs hts
      have HBO := Lib.hid (hbel.trans ((box_below wr (.cells #[.int .i64 (k : Int)] 3)).mono hsz))
      obtain ⟨wo, rfl⟩ : ∃ wo : World, wo = wr := ⟨_, rfl⟩
      obtain ⟨P, hP⟩ : ∃ P, TT * (1 + m) = P := ⟨_, rfl⟩
      have hP9 : P ≤ 900000 := by have := Nat.mul_le_mul ht1 (show 1 + m ≤ 9 by omega); omega
      by_cases hbig : 100000 < P
      · rw [if_pos (by rw [hP]; exact hbig)] at hk0
        have hTP := cast_big hP
        obtain ⟨KN, hKK⟩ : ∃ KN : Nat, KN = 1 := ⟨1, rfl⟩
        have hkK : kOf TT x = KN := by rw [hk0, hKK]
        have k1 : 1 ≤ KN := by omega
        have k9 : KN ≤ 9 := by omega
        have HKI := Lib.hid (show (1 : Int) = (KN : Int) by omega)
        have hT2 : limT (t.take (k + 1)) = TT := by rw [HTS.out, hk0, Nat.mul_one]
        have b3 : (100000 : Int) < (P : Int) := by omega
        obtain ⟨P2, hP2⟩ : ∃ P2 : Nat, P2 = TT := ⟨_, rfl⟩
        have hTP2 : (TT : Int) * (KN : Int) = (P2 : Int) := by rw [hKK, hP2]; simp
        have hT3 : limT (t.take (k + 1)) = P2 := by rw [hT2, hP2]
        have hP29 : P2 ≤ 100000 := by omega
        have HT3 := Lib.hid hT3; clear hT3
        have HTP2 := Lib.hid hTP2; clear hTP2
        have HkK := Lib.hid hkK; clear hkK
        have HKK := Lib.hid hKK; clear hKK
        have HPE := Lib.hid hP2
        clear hT2 hk0 hP
        have HC0 := Lib.hid (CirB.start ((wo.alloc (.cells #[.int .i64 (k : Int)] 3)).alloc (.cells #[.int .i64 0] 3)) (.slice (some ⟨wo.heap.size, 0, none⟩) 1 1) (.int .i64 1) (.slice (some ⟨wo.heap.size + 1, 0, none⟩) 1 1) (b := wo.heap.size + 1 + 1) (by simp))
        go_wp2
        have HMm := Lib.hid hm
        clear hm
        go_loopw [8] (fun s8 wr => ∃ (j : Nat) (ev : Value), s8 = .int .i64 j ∧ j ≤ KN ∧ Hid (CirB (wo.heap.size + 1 + 1) ((wo.alloc (.cells #[.int .i64 (k : Int)] 3)).alloc (.cells #[.int .i64 0] 3)) wr (.slice (some ⟨wo.heap.size, 0, none⟩) 1 1) (.int .i64 1) (.slice (some ⟨wo.heap.size + 1, 0, none⟩) 1 1) ev j (cirE k KN j))) (fun s8 _ => KN - (intOf s8).toNat)
        case atStart => exact ⟨0, _, rfl, Nat.zero_le _, HC0⟩
        case round =>
          clear HC0
          obtain ⟨j, ev, rfl, hj, HC⟩ := hrel
          obtain ⟨EA, ec, rfl⟩ := own_shape HC.out.edg
          have b9 : ((KN : Int) == 0) = false := by simp; omega
          have b8 : ¬ (KN : Int) = 0 := by omega
          by_cases hjl : j < KN
          · have b4 : (j : Int) < 1 := (by have := HKK.out; omega)
            have hwr : IntKind.i64.wrap ((j : Int) + 1) = (j : Int) + 1 := IntWalk.i64_in _ (by omega)
            have htm : ((j : Int) + 1).tmod (KN : Int) = ((j : Int) + 1) % (KN : Int) := Int.tmod_eq_emod_of_nonneg (by omega)
            have b7 : ¬ KN = 0 := by omega
            have HRV := Lib.hid (show (0 : Int) = ((j : Int) + 1) % (KN : Int) from (by rw [HKK.out, Int.natCast_one, Int.emod_one]))
            have m0 := Int.emod_nonneg ((j : Int) + 1) b8
            have m1 := Int.emod_lt_of_pos ((j : Int) + 1) (show (0 : Int) < (KN : Int) by omega)
            go_wp2
            refine wp_region_U (fun _ => True) (fun W => W.cell? ⟨wo.heap.size + 1 + 1, 3, none⟩ = some (.slice EA j ec)) 10 (by kernel_rfl) ?_
            change anyU _ _ _ _ _ _ _ 13 _ _ _
            have hA0 : True := trivial
            have hB0 : wr.drew.cell? ⟨wo.heap.size + 1 + 1, 3, none⟩ = some (.slice EA j ec) := HC.out.blk.cell (j := 3) rfl
            have HC2 := Lib.hid (HC.out.quiet (below_dr wr))
            have hsz5 : wo.heap.size + 1 + 1 < wr.drew.heap.size := HC.out.lt
            clear HC
            generalize hwd : wr.drew = wd at HC2 hsz5 hB0 ⊢
            have HWD := Lib.hid hwd; clear hwd
            ((refine uTake (i := 0) (v := ?_) rfl (by kernel_rfl) (fun _ _ _ h => h) (by rfl) (fun W hA hB => ?_) ⟨hA0, fun _ => hB0⟩ ?_; rotate_left; (· (clear hB; (try dsimp only at hA); go_simp; try with_reducible rfl)); (try simp only [Act.put, List.setIfInBounds_toArray, List.set_cons_zero, List.set_cons_succ])))
            ((refine uTake (i := 1) (v := ?_) rfl (by kernel_rfl) (fun _ _ _ h => h) (by rfl) (fun W hA hB => ?_) ⟨hA0, fun _ => hB0⟩ ?_; rotate_left; (· (replace hB := hB (by kernel_rfl); (try dsimp only at hA hB); go_simp; try with_reducible rfl)); (try simp only [Act.put, List.setIfInBounds_toArray, List.set_cons_zero, List.set_cons_succ])))
            ((refine uTake (i := 2) (v := ?_) rfl (by kernel_rfl) (fun _ _ _ h => h) (by rfl) (fun W hA hB => ?_) ⟨hA0, fun _ => hB0⟩ ?_; rotate_left; (· (clear hB; (try dsimp only at hA); go_simp; try with_reducible rfl)); (try simp only [Act.put, List.setIfInBounds_toArray, List.set_cons_zero, List.set_cons_succ])); (refine uTake (i := 3) (v := ?_) rfl (by kernel_rfl) (fun _ _ _ h => h) (by rfl) (fun W hA hB => ?_) ⟨hA0, fun _ => hB0⟩ ?_; rotate_left; (· (clear hB; (try dsimp only at hA); go_simp; try with_reducible rfl)); (try simp only [Act.put, List.setIfInBounds_toArray, List.set_cons_zero, List.set_cons_succ])); (refine uTake (i := 4) (v := ?_) rfl (by kernel_rfl) (fun _ _ _ h => h) (by rfl) (fun W hA hB => ?_) ⟨hA0, fun _ => hB0⟩ ?_; rotate_left; (· (clear hB; (try dsimp only at hA); go_simp; try with_reducible rfl)); (try simp only [Act.put, List.setIfInBounds_toArray, List.set_cons_zero, List.set_cons_succ])); (refine uTake (i := 5) (v := ?_) rfl (by kernel_rfl) (fun _ _ _ h => h) (by rfl) (fun W hA hB => ?_) ⟨hA0, fun _ => hB0⟩ ?_; rotate_left; (· (clear hB; (try dsimp only at hA); go_simp; try with_reducible rfl)); (try simp only [Act.put, List.setIfInBounds_toArray, List.set_cons_zero, List.set_cons_succ])); (refine uTake (i := 6) (v := ?_) rfl (by kernel_rfl) (fun _ _ _ h => h) (by rfl) (fun W hA hB => ?_) ⟨hA0, fun _ => hB0⟩ ?_; rotate_left; (· (clear hB; (try dsimp only at hA); go_simp; try with_reducible rfl)); (try simp only [Act.put, List.setIfInBounds_toArray, List.set_cons_zero, List.set_cons_succ])); (refine uTake (i := 7) (v := ?_) rfl (by kernel_rfl) (fun _ _ _ h => h) (by rfl) (fun W hA hB => ?_) ⟨hA0, fun _ => hB0⟩ ?_; rotate_left; (· (clear hB; (try dsimp only at hA); go_simp; try with_reducible rfl)); (try simp only [Act.put, List.setIfInBounds_toArray, List.set_cons_zero, List.set_cons_succ])); (refine uTake (i := 8) (v := ?_) rfl (by kernel_rfl) (fun _ _ _ h => h) (by rfl) (fun W hA hB => ?_) ⟨hA0, fun _ => hB0⟩ ?_; rotate_left; (· (clear hB; (try dsimp only at hA); go_simp; try with_reducible rfl)); (try simp only [Act.put, List.setIfInBounds_toArray, List.set_cons_zero, List.set_cons_succ])))
            refine uOne (i := 9) rfl (by kernel_rfl) (fun K hK => ?_)
            go_simp
            have hB1 : (wd.alloc (.cells #[.int .i64 (j : Int), .int .i64 (k : Int), .int .i64 ((0 : Int))] 43)).cell? ⟨wo.heap.size + 1 + 1, 3, none⟩ = some (.slice EA j ec) := (World.cell?_alloc_lt wd _ ⟨wo.heap.size + 1 + 1, 3, none⟩ hsz5).trans hB0
            (refine hK _ _ ⟨hA0, fun _ => hB1⟩ ?_; clear hK K; (try simp only [Act.put, List.setIfInBounds_toArray, List.set_cons_zero, List.set_cons_succ]))
            refine uOne (i := 10) rfl (by kernel_rfl) (fun K hK => ?_)
            refine step_pushN wd [.int .i64 (j : Int), .int .i64 (k : Int), .int .i64 ((0 : Int))] (by rfl) (.tmp 45) (.tmp 53) 27 (by rfl) (wo.heap.size + 1 + 1 + 1) 43 (.agg #[.int .i64 0, .int .i64 0, .int .i64 0]) 3 24 Tryd.underlying27 edge_info (by rfl) (by decide) (by rfl) (.slice EA j ec) j _ (by rfl) HC2.out.edg (by rfl) (fun q hq => by simp at hq; rcases hq with rfl | rfl | rfl <;> rfl) (by omega) (by omega) hsz5 ?_
            intro A9 c9 w9 ho9 hg9
            have B9 := HC2.out.blk.kept hg9 (own_lt_ne HC2.out.edg (Nat.lt_succ_self _))
            have e9 : w9.cell? ⟨wo.heap.size + 1 + 1, 3, none⟩ = some (.slice EA j ec) := B9.cell (j := 3) rfl
            have f9 : w9.frozen? ⟨wo.heap.size + 1 + 1, 3, none⟩ = false := B9.free 3
            have l9 : wo.heap.size + 1 + 1 < w9.heap.size := B9.lt
            have HC9 := Lib.hid (HC2.out.edge (x := ⟨j, k, ((j : Int) + 1) % (KN : Int)⟩) (by first | exact ho9 | (rw [← HRV.out]; exact ho9)) hg9)
            clear B9 ho9 hg9 hB1 HC2
            (refine hK _ _ ⟨hA0, fun h => absurd (h.symm.trans (by kernel_rfl : _ = true)) Bool.false_ne_true⟩ ?_; clear hK K; (try simp only [Act.put, List.setIfInBounds_toArray, List.set_cons_zero, List.set_cons_succ]))
            refine uOne (i := 11) rfl (by kernel_rfl) (fun K hK => ?_)
            go_simp
            (refine hK _ _ ⟨hA0, fun h => absurd (h.symm.trans (by kernel_rfl : _ = true)) Bool.false_ne_true⟩ ?_; clear hK K; (try simp only [Act.put, List.setIfInBounds_toArray, List.set_cons_zero, List.set_cons_succ]))
            refine uOne (i := 12) rfl (by kernel_rfl) (fun K hK => ?_)
            go_simp
            (refine hK _ _ ⟨hA0, fun h => absurd (h.symm.trans (by kernel_rfl : _ = true)) Bool.false_ne_true⟩ ?_; clear hK K; (try simp only [Act.put, List.setIfInBounds_toArray, List.set_cons_zero, List.set_cons_succ]))
            refine anyU_done (by kernel_rfl) ?_ _
            clear e9 f9 l9
            go_wp2
            go_roundw
            case rel => exact ⟨j + 1, _, by go_num, by omega, HC9⟩
            case measure => simp [intOf]; omega
          · obtain rfl : KN = j := by omega
            have c0 := HC.out.blk.cell (j := 0) rfl
            have c1 := HC.out.blk.cell (j := 1) rfl
            have c2 := HC.out.blk.cell (j := 2) rfl
            have c3 := HC.out.blk.cell (j := 3) rfl
            have lb := HC.out.lt
            have b4 : decide ((KN : Int) < 1) = false := decide_eq_false (by have := HKI.out; omega)
            have b5 : ¬ (KN : Int) < 1 := by have := HKI.out; omega
            have hW1 := box_below wo (.cells #[.int .i64 (k : Int)] 3)
            have hW2 := hW1.alloc hW1.size (.cells #[.int .i64 0] 3)
            have hBW := hW2.trans (HC.out.bel.mono (by omega))
            have hBW1 := (box_below (wo.alloc (.cells #[.int .i64 (k : Int)] 3)) (.cells #[.int .i64 0] 3)).trans (HC.out.bel.mono (by simp))
            have hBW2 : Below ((wo.alloc (.cells #[.int .i64 (k : Int)] 3)).alloc (.cells #[.int .i64 0] 3)).heap.size ((wo.alloc (.cells #[.int .i64 (k : Int)] 3)).alloc (.cells #[.int .i64 0] 3)) wr := HC.out.bel.mono (by simp)
            have HO1 := Lib.hid (own_below HO.out hBW)
            have HX1 : Hid (∀ x ∈ xs, x.own wr w1.heap.size) := Lib.hid (fun x hx => AutO.below (HX.out x hx) hBW)
            have hbelr := hbel.trans (hBW.mono hsz)
            have hszr := hbelr.size
            have HAV := Lib.hid (show AutO wr w1.heap.size (some ⟨wo.heap.size, 0, none⟩) 1 1 (some ⟨wo.heap.size + 1, 0, none⟩) 1 1 EA KN ec (cir (k : Nat) KN) from by
              have o1 := own_below (own_lit wo [.int .i64 (k : Int)] w1.heap.size 3 hsz (by simp)) hBW1
              have o2 := own_below (own_lit (wo.alloc (.cells #[.int .i64 (k : Int)] 3)) [.int .i64 0] w1.heap.size 3 (by simp; omega) (by simp)) hBW2
              rw [show (wo.alloc (.cells #[.int .i64 (k : Int)] 3)).heap.size = wo.heap.size + 1 by simp] at o2
              exact ⟨rfl, o1, rfl, o2, cirE_len _, own_base HC.out.edg (by omega)⟩)
            obtain ⟨av, hav⟩ : ∃ av : AV, av = ⟨some ⟨wo.heap.size, 0, none⟩, 1, 1, some ⟨wo.heap.size + 1, 0, none⟩, 1, 1, EA, KN, ec, cir (k : Nat) KN⟩ := ⟨_, rfl⟩
            have HAVC := Lib.hid (show avc av = [.slice (some ⟨wo.heap.size, 0, none⟩) 1 1, .int .i64 1, .slice (some ⟨wo.heap.size + 1, 0, none⟩) 1 1, .slice EA KN ec] by rw [hav]; first | rfl | (rw [HKI.out]; rfl))
            have HAV2 := Lib.hid hav; clear hav
            have HBR := Lib.hid hbelr; clear hbelr
            clear hW1 hW2 hBW hBW1 hBW2 HC HO HX hbel hsz
            go_wp2_with (at_builtin; refine wpList_pushN wr [.slice (some ⟨wo.heap.size, 0, none⟩) 1 1, .int .i64 1, .slice (some ⟨wo.heap.size + 1, 0, none⟩) 1 1, .slice EA KN ec] rfl (.tmp 56) (.tmp 58) 24 rfl w1.heap.size 29 (.agg #[.slice none 0 0, .int .i64 0, .slice none 0 0, .slice none 0 0]) 4 80 Tryd.underlying24 aut_info rfl (by decide) rfl (.slice VA k vc) k _ rfl HO1.out rfl (fun q hq => by simp at hq; rcases hq with rfl | rfl | rfl | rfl <;> rfl) (by omega) (by omega) hszr ?_; intro v9 w9 ho9 hg9 hb9)
            have hbel9 := HBR.out.trans hb9
            have HO9 : Hid (w9.ownsRow w1.heap.size 29 4 v9 (k + 1) ((xs ++ [av]).flatMap avc)) := Lib.hid (by rw [List.flatMap_append, List.flatMap_cons, List.flatMap_nil, List.append_nil, HAVC.out]; exact ho9)
            have HX9 : Hid (∀ x ∈ xs ++ [av], x.own w9 w1.heap.size) := Lib.hid (fun x hx => by
              rcases List.mem_append.1 hx with hx | hx
              · exact AutO.kept (HX1.out x hx) HO1.out hg9
              · obtain rfl := List.mem_singleton.1 hx
                rw [HAV2.out]
                exact AutO.kept HAV.out HO1.out hg9)
            have HM9 := Lib.hid (show (xs ++ [av]).map AV.a = cirG 0 (limK (t.take (k + 1))) by rw [HCN.out KN HkK.out, List.map_append, HM.out, HAV2.out]; rfl)
            have HN9 := Lib.hid (show (xs ++ [av]).length = k + 1 by rw [List.length_append, HN.out]; rfl)
            go_roundw
            case rel => exact ⟨k + 1, _, xs ++ [av], by go_num, rfl, by rw [HT3.out, HPE.out], by omega, by omega, HM9, HN9, HO9, HX9, hbel9⟩
            case measure => simp [intOf]; omega
      · rw [if_neg (by rw [hP]; exact hbig)] at hk0
        obtain ⟨KN, hKK⟩ : ∃ KN : Nat, 1 + m = KN := ⟨_, rfl⟩
        rw [hKK] at hk0 hP
        have k1 : 1 ≤ KN := by omega
        have k9 : KN ≤ 9 := by omega
        obtain ⟨hmK, hTP⟩ := cast_kof hKK hP
        have HkK := Lib.hid hk0
        have HKI := Lib.hid (show (KN : Int) = (KN : Int) from rfl)
        have b3 : ¬ (100000 : Int) < (P : Int) := by omega
        obtain ⟨P2, hP2⟩ : ∃ P2 : Nat, P2 = P := ⟨_, rfl⟩
        have HTP2 := Lib.hid (show (TT : Int) * (KN : Int) = (P2 : Int) by rw [hTP, hP2])
        have HT3 := Lib.hid (show limT (t.take (k + 1)) = P2 by rw [HTS.out, hk0, hP, hP2])
        have hP29 : P2 ≤ 100000 := by omega
        have HPE := Lib.hid hP2
        clear hk0 hP hKK hP2
        have HC0 := Lib.hid (CirB.start ((wo.alloc (.cells #[.int .i64 (k : Int)] 3)).alloc (.cells #[.int .i64 0] 3)) (.slice (some ⟨wo.heap.size, 0, none⟩) 1 1) (.int .i64 (KN : Int)) (.slice (some ⟨wo.heap.size + 1, 0, none⟩) 1 1) (b := wo.heap.size + 1 + 1) (by simp))
        go_wp2
        have HMm := Lib.hid hm
        clear hm
        go_loopw [8] (fun s8 wr => ∃ (j : Nat) (ev : Value), s8 = .int .i64 j ∧ j ≤ KN ∧ Hid (CirB (wo.heap.size + 1 + 1) ((wo.alloc (.cells #[.int .i64 (k : Int)] 3)).alloc (.cells #[.int .i64 0] 3)) wr (.slice (some ⟨wo.heap.size, 0, none⟩) 1 1) (.int .i64 (KN : Int)) (.slice (some ⟨wo.heap.size + 1, 0, none⟩) 1 1) ev j (cirE k KN j))) (fun s8 _ => KN - (intOf s8).toNat)
        case atStart => exact ⟨0, _, rfl, Nat.zero_le _, HC0⟩
        case round =>
          clear HC0
          obtain ⟨j, ev, rfl, hj, HC⟩ := hrel
          obtain ⟨EA, ec, rfl⟩ := own_shape HC.out.edg
          have b9 : ((KN : Int) == 0) = false := by simp; omega
          have b8 : ¬ (KN : Int) = 0 := by omega
          by_cases hjl : j < KN
          · have b4 : (j : Int) < (KN : Int) := (by omega)
            have hwr : IntKind.i64.wrap ((j : Int) + 1) = (j : Int) + 1 := IntWalk.i64_in _ (by omega)
            have htm : ((j : Int) + 1).tmod (KN : Int) = ((j : Int) + 1) % (KN : Int) := Int.tmod_eq_emod_of_nonneg (by omega)
            have b7 : ¬ KN = 0 := by omega
            have HRV := Lib.hid (show ((j : Int) + 1) % (KN : Int) = ((j : Int) + 1) % (KN : Int) from rfl)
            have m0 := Int.emod_nonneg ((j : Int) + 1) b8
            have m1 := Int.emod_lt_of_pos ((j : Int) + 1) (show (0 : Int) < (KN : Int) by omega)
            go_wp2
            refine wp_region_U (fun _ => True) (fun W => W.cell? ⟨wo.heap.size + 1 + 1, 3, none⟩ = some (.slice EA j ec)) 10 (by kernel_rfl) ?_
            change anyU _ _ _ _ _ _ _ 13 _ _ _
            have hA0 : True := trivial
            have hB0 : wr.drew.cell? ⟨wo.heap.size + 1 + 1, 3, none⟩ = some (.slice EA j ec) := HC.out.blk.cell (j := 3) rfl
            have HC2 := Lib.hid (HC.out.quiet (below_dr wr))
            have hsz5 : wo.heap.size + 1 + 1 < wr.drew.heap.size := HC.out.lt
            clear HC
            generalize hwd : wr.drew = wd at HC2 hsz5 hB0 ⊢
            have HWD := Lib.hid hwd; clear hwd
            ((refine uTake (i := 0) (v := ?_) rfl (by kernel_rfl) (fun _ _ _ h => h) (by rfl) (fun W hA hB => ?_) ⟨hA0, fun _ => hB0⟩ ?_; rotate_left; (· (clear hB; (try dsimp only at hA); go_simp; try with_reducible rfl)); (try simp only [Act.put, List.setIfInBounds_toArray, List.set_cons_zero, List.set_cons_succ])))
            ((refine uTake (i := 1) (v := ?_) rfl (by kernel_rfl) (fun _ _ _ h => h) (by rfl) (fun W hA hB => ?_) ⟨hA0, fun _ => hB0⟩ ?_; rotate_left; (· (replace hB := hB (by kernel_rfl); (try dsimp only at hA hB); go_simp; try with_reducible rfl)); (try simp only [Act.put, List.setIfInBounds_toArray, List.set_cons_zero, List.set_cons_succ])))
            ((refine uTake (i := 2) (v := ?_) rfl (by kernel_rfl) (fun _ _ _ h => h) (by rfl) (fun W hA hB => ?_) ⟨hA0, fun _ => hB0⟩ ?_; rotate_left; (· (clear hB; (try dsimp only at hA); go_simp; try with_reducible rfl)); (try simp only [Act.put, List.setIfInBounds_toArray, List.set_cons_zero, List.set_cons_succ])); (refine uTake (i := 3) (v := ?_) rfl (by kernel_rfl) (fun _ _ _ h => h) (by rfl) (fun W hA hB => ?_) ⟨hA0, fun _ => hB0⟩ ?_; rotate_left; (· (clear hB; (try dsimp only at hA); go_simp; try with_reducible rfl)); (try simp only [Act.put, List.setIfInBounds_toArray, List.set_cons_zero, List.set_cons_succ])); (refine uTake (i := 4) (v := ?_) rfl (by kernel_rfl) (fun _ _ _ h => h) (by rfl) (fun W hA hB => ?_) ⟨hA0, fun _ => hB0⟩ ?_; rotate_left; (· (clear hB; (try dsimp only at hA); go_simp; try with_reducible rfl)); (try simp only [Act.put, List.setIfInBounds_toArray, List.set_cons_zero, List.set_cons_succ])); (refine uTake (i := 5) (v := ?_) rfl (by kernel_rfl) (fun _ _ _ h => h) (by rfl) (fun W hA hB => ?_) ⟨hA0, fun _ => hB0⟩ ?_; rotate_left; (· (clear hB; (try dsimp only at hA); go_simp; try with_reducible rfl)); (try simp only [Act.put, List.setIfInBounds_toArray, List.set_cons_zero, List.set_cons_succ])); (refine uTake (i := 6) (v := ?_) rfl (by kernel_rfl) (fun _ _ _ h => h) (by rfl) (fun W hA hB => ?_) ⟨hA0, fun _ => hB0⟩ ?_; rotate_left; (· (clear hB; (try dsimp only at hA); go_simp; try with_reducible rfl)); (try simp only [Act.put, List.setIfInBounds_toArray, List.set_cons_zero, List.set_cons_succ])); (refine uTake (i := 7) (v := ?_) rfl (by kernel_rfl) (fun _ _ _ h => h) (by rfl) (fun W hA hB => ?_) ⟨hA0, fun _ => hB0⟩ ?_; rotate_left; (· (clear hB; (try dsimp only at hA); go_simp; try with_reducible rfl)); (try simp only [Act.put, List.setIfInBounds_toArray, List.set_cons_zero, List.set_cons_succ])); (refine uTake (i := 8) (v := ?_) rfl (by kernel_rfl) (fun _ _ _ h => h) (by rfl) (fun W hA hB => ?_) ⟨hA0, fun _ => hB0⟩ ?_; rotate_left; (· (clear hB; (try dsimp only at hA); go_simp; try with_reducible rfl)); (try simp only [Act.put, List.setIfInBounds_toArray, List.set_cons_zero, List.set_cons_succ])))
            refine uOne (i := 9) rfl (by kernel_rfl) (fun K hK => ?_)
            go_simp
            have hB1 : (wd.alloc (.cells #[.int .i64 (j : Int), .int .i64 (k : Int), .int .i64 (((j : Int) + 1) % (KN : Int))] 43)).cell? ⟨wo.heap.size + 1 + 1, 3, none⟩ = some (.slice EA j ec) := (World.cell?_alloc_lt wd _ ⟨wo.heap.size + 1 + 1, 3, none⟩ hsz5).trans hB0
            (refine hK _ _ ⟨hA0, fun _ => hB1⟩ ?_; clear hK K; (try simp only [Act.put, List.setIfInBounds_toArray, List.set_cons_zero, List.set_cons_succ]))
            refine uOne (i := 10) rfl (by kernel_rfl) (fun K hK => ?_)
            refine step_pushN wd [.int .i64 (j : Int), .int .i64 (k : Int), .int .i64 (((j : Int) + 1) % (KN : Int))] (by rfl) (.tmp 45) (.tmp 53) 27 (by rfl) (wo.heap.size + 1 + 1 + 1) 43 (.agg #[.int .i64 0, .int .i64 0, .int .i64 0]) 3 24 Tryd.underlying27 edge_info (by rfl) (by decide) (by rfl) (.slice EA j ec) j _ (by rfl) HC2.out.edg (by rfl) (fun q hq => by simp at hq; rcases hq with rfl | rfl | rfl <;> rfl) (by omega) (by omega) hsz5 ?_
            intro A9 c9 w9 ho9 hg9
            have B9 := HC2.out.blk.kept hg9 (own_lt_ne HC2.out.edg (Nat.lt_succ_self _))
            have e9 : w9.cell? ⟨wo.heap.size + 1 + 1, 3, none⟩ = some (.slice EA j ec) := B9.cell (j := 3) rfl
            have f9 : w9.frozen? ⟨wo.heap.size + 1 + 1, 3, none⟩ = false := B9.free 3
            have l9 : wo.heap.size + 1 + 1 < w9.heap.size := B9.lt
            have HC9 := Lib.hid (HC2.out.edge (x := ⟨j, k, ((j : Int) + 1) % (KN : Int)⟩) (by first | exact ho9 | (rw [← HRV.out]; exact ho9)) hg9)
            clear B9 ho9 hg9 hB1 HC2
            (refine hK _ _ ⟨hA0, fun h => absurd (h.symm.trans (by kernel_rfl : _ = true)) Bool.false_ne_true⟩ ?_; clear hK K; (try simp only [Act.put, List.setIfInBounds_toArray, List.set_cons_zero, List.set_cons_succ]))
            refine uOne (i := 11) rfl (by kernel_rfl) (fun K hK => ?_)
            go_simp
            (refine hK _ _ ⟨hA0, fun h => absurd (h.symm.trans (by kernel_rfl : _ = true)) Bool.false_ne_true⟩ ?_; clear hK K; (try simp only [Act.put, List.setIfInBounds_toArray, List.set_cons_zero, List.set_cons_succ]))
            refine uOne (i := 12) rfl (by kernel_rfl) (fun K hK => ?_)
            go_simp
            (refine hK _ _ ⟨hA0, fun h => absurd (h.symm.trans (by kernel_rfl : _ = true)) Bool.false_ne_true⟩ ?_; clear hK K; (try simp only [Act.put, List.setIfInBounds_toArray, List.set_cons_zero, List.set_cons_succ]))
            refine anyU_done (by kernel_rfl) ?_ _
            clear e9 f9 l9
            go_wp2
            go_roundw
            case rel => exact ⟨j + 1, _, by go_num, by omega, HC9⟩
            case measure => simp [intOf]; omega
          · obtain rfl : KN = j := by omega
            have c0 := HC.out.blk.cell (j := 0) rfl
            have c1 := HC.out.blk.cell (j := 1) rfl
            have c2 := HC.out.blk.cell (j := 2) rfl
            have c3 := HC.out.blk.cell (j := 3) rfl
            have lb := HC.out.lt
            have b4 : decide ((KN : Int) < (KN : Int)) = false := decide_eq_false (by have := HKI.out; omega)
            have b5 : ¬ (KN : Int) < (KN : Int) := by have := HKI.out; omega
            have hW1 := box_below wo (.cells #[.int .i64 (k : Int)] 3)
            have hW2 := hW1.alloc hW1.size (.cells #[.int .i64 0] 3)
            have hBW := hW2.trans (HC.out.bel.mono (by omega))
            have hBW1 := (box_below (wo.alloc (.cells #[.int .i64 (k : Int)] 3)) (.cells #[.int .i64 0] 3)).trans (HC.out.bel.mono (by simp))
            have hBW2 : Below ((wo.alloc (.cells #[.int .i64 (k : Int)] 3)).alloc (.cells #[.int .i64 0] 3)).heap.size ((wo.alloc (.cells #[.int .i64 (k : Int)] 3)).alloc (.cells #[.int .i64 0] 3)) wr := HC.out.bel.mono (by simp)
            have HO1 := Lib.hid (own_below HO.out hBW)
            have HX1 : Hid (∀ x ∈ xs, x.own wr w1.heap.size) := Lib.hid (fun x hx => AutO.below (HX.out x hx) hBW)
            have hbelr := hbel.trans (hBW.mono hsz)
            have hszr := hbelr.size
            have HAV := Lib.hid (show AutO wr w1.heap.size (some ⟨wo.heap.size, 0, none⟩) 1 1 (some ⟨wo.heap.size + 1, 0, none⟩) 1 1 EA KN ec (cir (k : Nat) KN) from by
              have o1 := own_below (own_lit wo [.int .i64 (k : Int)] w1.heap.size 3 hsz (by simp)) hBW1
              have o2 := own_below (own_lit (wo.alloc (.cells #[.int .i64 (k : Int)] 3)) [.int .i64 0] w1.heap.size 3 (by simp; omega) (by simp)) hBW2
              rw [show (wo.alloc (.cells #[.int .i64 (k : Int)] 3)).heap.size = wo.heap.size + 1 by simp] at o2
              exact ⟨rfl, o1, rfl, o2, cirE_len _, own_base HC.out.edg (by omega)⟩)
            obtain ⟨av, hav⟩ : ∃ av : AV, av = ⟨some ⟨wo.heap.size, 0, none⟩, 1, 1, some ⟨wo.heap.size + 1, 0, none⟩, 1, 1, EA, KN, ec, cir (k : Nat) KN⟩ := ⟨_, rfl⟩
            have HAVC := Lib.hid (show avc av = [.slice (some ⟨wo.heap.size, 0, none⟩) 1 1, .int .i64 (KN : Int), .slice (some ⟨wo.heap.size + 1, 0, none⟩) 1 1, .slice EA KN ec] by rw [hav]; first | rfl | (rw [HKI.out]; rfl))
            have HAV2 := Lib.hid hav; clear hav
            have HBR := Lib.hid hbelr; clear hbelr
            clear hW1 hW2 hBW hBW1 hBW2 HC HO HX hbel hsz
            go_wp2_with (at_builtin; refine wpList_pushN wr [.slice (some ⟨wo.heap.size, 0, none⟩) 1 1, .int .i64 (KN : Int), .slice (some ⟨wo.heap.size + 1, 0, none⟩) 1 1, .slice EA KN ec] rfl (.tmp 56) (.tmp 58) 24 rfl w1.heap.size 29 (.agg #[.slice none 0 0, .int .i64 0, .slice none 0 0, .slice none 0 0]) 4 80 Tryd.underlying24 aut_info rfl (by decide) rfl (.slice VA k vc) k _ rfl HO1.out rfl (fun q hq => by simp at hq; rcases hq with rfl | rfl | rfl | rfl <;> rfl) (by omega) (by omega) hszr ?_; intro v9 w9 ho9 hg9 hb9)
            have hbel9 := HBR.out.trans hb9
            have HO9 : Hid (w9.ownsRow w1.heap.size 29 4 v9 (k + 1) ((xs ++ [av]).flatMap avc)) := Lib.hid (by rw [List.flatMap_append, List.flatMap_cons, List.flatMap_nil, List.append_nil, HAVC.out]; exact ho9)
            have HX9 : Hid (∀ x ∈ xs ++ [av], x.own w9 w1.heap.size) := Lib.hid (fun x hx => by
              rcases List.mem_append.1 hx with hx | hx
              · exact AutO.kept (HX1.out x hx) HO1.out hg9
              · obtain rfl := List.mem_singleton.1 hx
                rw [HAV2.out]
                exact AutO.kept HAV.out HO1.out hg9)
            have HM9 := Lib.hid (show (xs ++ [av]).map AV.a = cirG 0 (limK (t.take (k + 1))) by rw [HCN.out KN HkK.out, List.map_append, HM.out, HAV2.out]; rfl)
            have HN9 := Lib.hid (show (xs ++ [av]).length = k + 1 by rw [List.length_append, HN.out]; rfl)
            go_roundw
            case rel => exact ⟨k + 1, _, xs ++ [av], by go_num, rfl, by rw [HT3.out, HPE.out], by omega, by omega, HM9, HN9, HO9, HX9, hbel9⟩
            case measure => simp [intOf]; omega
    · have HR := Lib.hid (show RdL wr wr.heap.size VA xs from ⟨RdR.of_own (by omega) (fun _ _ => rfl) HO.out, fun x hx => AutO.rd (HX.out x hx)⟩)
      obtain ⟨hcap1, hcap2⟩ := own_cap' HO.out
      have hlk : (limK (t.take k)).length = k := by rw [limK_len, List.length_take, HTL.out]; omega
      have HSN := Lib.hid (cir_syn (limK_rng (t.take k)) (by rw [hlk]; exact hk6))
      have HCH := Lib.hid (show chkL (xs.map AV.a) = 0 by rw [HM.out]; exact chkL_mk (by rw [cirG_len, hlk]; omega) (fun a ha => (cirG_wf (limK_rng (t.take k)) (by rw [hlk]; exact hk6) a ha).1))
      have HST := Lib.hid (show ∀ a ∈ xs.map AV.a, a.st ≤ 100 by rw [HM.out]; exact fun a ha => by have := (cirG_wf (limK_rng (t.take k)) (by rw [hlk]; exact hk6) a ha).2.1; omega)
      have HFI := Lib.hid (HB1.out.trans (hbel.mono HB1.out.size))
      obtain ⟨TT, hTT⟩ : ∃ TT, limT (t.take k) = TT := ⟨_, rfl⟩
      rw [hTT] at ht1 ht2 ⊢
      have HTT := Lib.hid (show prodN (cirG 0 (limK (t.take k))) = TT from hTT)
      have HLK := Lib.hid hlk
      clear hlk hbel hsz HO HX hTT
      by_cases hlt : k < nt
      · have b1 : (k : Int) < (nt : Int) := by omega
        have b2 : ¬ (k : Int) < 6 := by omega
        by_cases h600 : 600 < TT
        · have b6 : (600 : Int) < (TT : Int) := by omega
          by_cases h4 : TT ≤ 4096
          · have b7 : (TT : Int) ≤ 4096 := by omega
            go_wp2
            go_ret
            exact ⟨rfl, HFI.out⟩
          · have b7 : ¬ (TT : Int) ≤ 4096 := by omega
            have b8 : (4096 : Int) < (TT : Int) := by omega
            have HCM := Lib.hid (compose_none VA vc k 3 wr (fun W hW => by
              have := product_Synchronous VA vc k xs W HN.out ((HR.out.below hW).more hW.size) hcap1 hcap2 HCH.out HST.out
              rwa [HM.out, HSN.out.1 (by rw [HTT.out]; omega)] at this))
            go_wp2_with fail
            refine HCM.out.mono ?_
            rintro e w5 ⟨hb5, rfl⟩
            have hF5 := HFI.out.trans ((hb5.trans ((box_below w5 (.cells #[.slice none 0 0, .int .i64 0, .slice none 0 0, .slice none 0 0] 29)).mono hb5.size)).mono HFI.out.size)
            have k5 : Blk (w5.alloc (.cells #[.slice none 0 0, .int .i64 0, .slice none 0 0, .slice none 0 0] 29)) w5.heap.size 29 [.slice none 0 0, .int .i64 0, .slice none 0 0, .slice none 0 0] := Blk.new _ _ _
            have c0 := k5.cell (j := 0) rfl
            have c1 := k5.cell (j := 1) rfl
            have c2 := k5.cell (j := 2) rfl
            have c3 := k5.cell (j := 3) rfl
            have HNO := Lib.hid (law_none_zero (w5.alloc (.cells #[.slice none 0 0, .int .i64 0, .slice none 0 0, .slice none 0 0] 29)))
            have HF5 := Lib.hid hF5; clear hF5
            clear k5 hb5 HCM
            go_wp2_with fail
            refine HNO.out.mono ?_
            rintro e w6 ⟨rfl, hb6⟩
            have hF6 := HF5.out.trans (hb6.mono HF5.out.size)
            have HF6 := Lib.hid hF6; clear hF6
            clear c0 c1 c2 c3 hb6
            go_wp2
            go_ret
            exact ⟨rfl, HF6.out⟩
        · have b6 : ¬ (600 : Int) < (TT : Int) := by omega
          obtain ⟨r, TS, hr, hrs, hre, hrm⟩ := HSN.out.2 (by rw [HTT.out]; omega)
          rw [HTT.out] at hrs hre
          rw [HLK.out] at hre
          obtain ⟨Q, hQ⟩ : ∃ Q, TT * k = Q := ⟨_, rfl⟩
          have hQ6 : Q ≤ 3600 := by have := Nat.mul_le_mul (show TT ≤ 600 by omega) hk6; omega
          rw [hQ] at hre
          have hTk : (TT : Int) * (k : Int) = (Q : Int) := by rw [← hQ, Int.natCast_mul]
          have b8 : ¬ (4096 : Int) < (TT : Int) := by omega
          have HCM := Lib.hid (compose_some VA vc k 3 r TS wr (fun W hW => by
            have := product_Synchronous VA vc k xs W HN.out ((HR.out.below hW).more hW.size) hcap1 hcap2 HCH.out HST.out
            rwa [HM.out, hr] at this))
          have HRM := Lib.hid hrm; clear hrm
          have HRE := Lib.hid hre; clear hre
          have HRS := Lib.hid hrs; clear hrs
          clear hr hQ
          go_wp2_with fail
          refine HCM.out.mono ?_
          rintro e w5 ⟨hb5, A5, na5, ca5, M5, nm5, cm5, E5, ne5, ce5, rfl, hr5⟩
          rw [HRS.out]
          have hne : ne5 = Q := by rw [← hr5.le, HRE.out]
          subst hne
          have k5 : Blk (w5.alloc (.cells #[.slice A5 na5 ca5, .int .i64 (TT : Int), .slice M5 nm5 cm5, .slice E5 ne5 ce5] 29)) w5.heap.size 29 [.slice A5 na5 ca5, .int .i64 (TT : Int), .slice M5 nm5 cm5, .slice E5 ne5 ce5] := Blk.new _ _ _
          have hb5a := hb5.trans ((box_below w5 (.cells #[.slice A5 na5 ca5, .int .i64 (TT : Int), .slice M5 nm5 cm5, .slice E5 ne5 ce5] 29)).mono hb5.size)
          have hF5 := HFI.out.trans (hb5a.mono HFI.out.size)
          have c0 := k5.cell (j := 0) rfl
          have c1 := k5.cell (j := 1) rfl
          have c2 := k5.cell (j := 2) rfl
          have c3 := k5.cell (j := 3) rfl
          have m0 := hr5.lm
          have m1 := hr5.mc
          have m2 := hr5.cM
          have hba := box_below w5 (.cells #[.slice A5 na5 ca5, .int .i64 (TT : Int), .slice M5 nm5 cm5, .slice E5 ne5 ce5] 29)
          have HRM5 := Lib.hid ((hr5.rm.below hba).more hba.size)
          have HM0 := Lib.hid m0; clear m0
          have HF5 := Lib.hid hF5; clear hF5
          clear k5 hb5 hb5a hr5 HCM hba
          go_wp2_with fail
          refine (law_same_n M5 (some ⟨w5.heap.size + 1, 0, none⟩) cm5 1 nm5 1 r.ma [0] true _ HM0.out rfl (by rw [HRM.out]; rfl) ?_ m1 m2 (Blk.rdi (t := 3) (by (repeat (first | (refine Blk.at_ _ _ _ ?_; simp; done) | (refine Blk.at_ _ _ _ rfl) | refine Blk.al ?_ _))))).mono ?_
          · exact (HRM5.out.below (box_below _ _)).more (box_below _ _).size
          rintro e w6 ⟨rfl, n6, rfl⟩
          have hF6 := below_drewN (HF5.out.trans ((box_below (w5.alloc (.cells #[.slice A5 na5 ca5, .int .i64 (TT : Int), .slice M5 nm5 cm5, .slice E5 ne5 ce5] 29)) (.cells #[.int .i64 0] 3)).mono HF5.out.size)) n6
          have HF6 := Lib.hid hF6; clear hF6
          clear c0 c1 c2 c3
          go_wp2
          go_ret
          exact ⟨rfl, HF6.out⟩
      · have b1 : decide ((k : Int) < (nt : Int)) = false := decide_eq_false (by omega)
        by_cases h600 : 600 < TT
        · have b6 : (600 : Int) < (TT : Int) := by omega
          by_cases h4 : TT ≤ 4096
          · have b7 : (TT : Int) ≤ 4096 := by omega
            go_wp2
            go_ret
            exact ⟨rfl, HFI.out⟩
          · have b7 : ¬ (TT : Int) ≤ 4096 := by omega
            have b8 : (4096 : Int) < (TT : Int) := by omega
            have HCM := Lib.hid (compose_none VA vc k 3 wr (fun W hW => by
              have := product_Synchronous VA vc k xs W HN.out ((HR.out.below hW).more hW.size) hcap1 hcap2 HCH.out HST.out
              rwa [HM.out, HSN.out.1 (by rw [HTT.out]; omega)] at this))
            go_wp2_with fail
            refine HCM.out.mono ?_
            rintro e w5 ⟨hb5, rfl⟩
            have hF5 := HFI.out.trans ((hb5.trans ((box_below w5 (.cells #[.slice none 0 0, .int .i64 0, .slice none 0 0, .slice none 0 0] 29)).mono hb5.size)).mono HFI.out.size)
            have k5 : Blk (w5.alloc (.cells #[.slice none 0 0, .int .i64 0, .slice none 0 0, .slice none 0 0] 29)) w5.heap.size 29 [.slice none 0 0, .int .i64 0, .slice none 0 0, .slice none 0 0] := Blk.new _ _ _
            have c0 := k5.cell (j := 0) rfl
            have c1 := k5.cell (j := 1) rfl
            have c2 := k5.cell (j := 2) rfl
            have c3 := k5.cell (j := 3) rfl
            have HNO := Lib.hid (law_none_zero (w5.alloc (.cells #[.slice none 0 0, .int .i64 0, .slice none 0 0, .slice none 0 0] 29)))
            have HF5 := Lib.hid hF5; clear hF5
            clear k5 hb5 HCM
            go_wp2_with fail
            refine HNO.out.mono ?_
            rintro e w6 ⟨rfl, hb6⟩
            have hF6 := HF5.out.trans (hb6.mono HF5.out.size)
            have HF6 := Lib.hid hF6; clear hF6
            clear c0 c1 c2 c3 hb6
            go_wp2
            go_ret
            exact ⟨rfl, HF6.out⟩
        · have b6 : ¬ (600 : Int) < (TT : Int) := by omega
          obtain ⟨r, TS, hr, hrs, hre, hrm⟩ := HSN.out.2 (by rw [HTT.out]; omega)
          rw [HTT.out] at hrs hre
          rw [HLK.out] at hre
          obtain ⟨Q, hQ⟩ : ∃ Q, TT * k = Q := ⟨_, rfl⟩
          have hQ6 : Q ≤ 3600 := by have := Nat.mul_le_mul (show TT ≤ 600 by omega) hk6; omega
          rw [hQ] at hre
          have hTk : (TT : Int) * (k : Int) = (Q : Int) := by rw [← hQ, Int.natCast_mul]
          have b8 : ¬ (4096 : Int) < (TT : Int) := by omega
          have HCM := Lib.hid (compose_some VA vc k 3 r TS wr (fun W hW => by
            have := product_Synchronous VA vc k xs W HN.out ((HR.out.below hW).more hW.size) hcap1 hcap2 HCH.out HST.out
            rwa [HM.out, hr] at this))
          have HRM := Lib.hid hrm; clear hrm
          have HRE := Lib.hid hre; clear hre
          have HRS := Lib.hid hrs; clear hrs
          clear hr hQ
          go_wp2_with fail
          refine HCM.out.mono ?_
          rintro e w5 ⟨hb5, A5, na5, ca5, M5, nm5, cm5, E5, ne5, ce5, rfl, hr5⟩
          rw [HRS.out]
          have hne : ne5 = Q := by rw [← hr5.le, HRE.out]
          subst hne
          have k5 : Blk (w5.alloc (.cells #[.slice A5 na5 ca5, .int .i64 (TT : Int), .slice M5 nm5 cm5, .slice E5 ne5 ce5] 29)) w5.heap.size 29 [.slice A5 na5 ca5, .int .i64 (TT : Int), .slice M5 nm5 cm5, .slice E5 ne5 ce5] := Blk.new _ _ _
          have hb5a := hb5.trans ((box_below w5 (.cells #[.slice A5 na5 ca5, .int .i64 (TT : Int), .slice M5 nm5 cm5, .slice E5 ne5 ce5] 29)).mono hb5.size)
          have hF5 := HFI.out.trans (hb5a.mono HFI.out.size)
          have c0 := k5.cell (j := 0) rfl
          have c1 := k5.cell (j := 1) rfl
          have c2 := k5.cell (j := 2) rfl
          have c3 := k5.cell (j := 3) rfl
          have m0 := hr5.lm
          have m1 := hr5.mc
          have m2 := hr5.cM
          have hba := box_below w5 (.cells #[.slice A5 na5 ca5, .int .i64 (TT : Int), .slice M5 nm5 cm5, .slice E5 ne5 ce5] 29)
          have HRM5 := Lib.hid ((hr5.rm.below hba).more hba.size)
          have HM0 := Lib.hid m0; clear m0
          have HF5 := Lib.hid hF5; clear hF5
          clear k5 hb5 hb5a hr5 HCM hba
          go_wp2_with fail
          refine (law_same_n M5 (some ⟨w5.heap.size + 1, 0, none⟩) cm5 1 nm5 1 r.ma [0] true _ HM0.out rfl (by rw [HRM.out]; rfl) ?_ m1 m2 (Blk.rdi (t := 3) (by (repeat (first | (refine Blk.at_ _ _ _ ?_; simp; done) | (refine Blk.at_ _ _ _ rfl) | refine Blk.al ?_ _))))).mono ?_
          · exact (HRM5.out.below (box_below _ _)).more (box_below _ _).size
          rintro e w6 ⟨rfl, n6, rfl⟩
          have hF6 := below_drewN (HF5.out.trans ((box_below (w5.alloc (.cells #[.slice A5 na5 ca5, .int .i64 (TT : Int), .slice M5 nm5 cm5, .slice E5 ne5 ce5] 29)) (.cells #[.int .i64 0] 3)).mono HF5.out.size)) n6
          have HF6 := Lib.hid hF6; clear hF6
          clear c0 c1 c2 c3
          go_wp2
          go_ret
          exact ⟨rfl, HF6.out⟩
end Go.Proofs.YtbdliebjalghmaaDoor
