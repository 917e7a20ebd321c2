/- The law WordConcats: its walk. -/
import Derived.Test.YtcbhencebflgcaaWl
namespace Go.Proofs.Ytcbhencebflgcaa
open Go.RowKit Go

theorem box3 {w w1 : World} {x y z : Value} {t : TypeId} (h : Below (w.alloc (.cells #[x, y, z] t)).heap.size (w.alloc (.cells #[x, y, z] t)) w1) :
    w1.cell? ⟨w.heap.size, 0, none⟩ = some x ∧ w1.cell? ⟨w.heap.size, 1, none⟩ = some y ∧ w1.cell? ⟨w.heap.size, 2, none⟩ = some z := by
  refine ⟨?_, ?_, ?_⟩
  · rw [h.cell (p := ⟨w.heap.size, 0, none⟩) (alloc_lt _ _)]; simp [go_sem]
  · rw [h.cell (p := ⟨w.heap.size, 1, none⟩) (alloc_lt _ _)]; simp [go_sem]
  · rw [h.cell (p := ⟨w.heap.size, 2, none⟩) (alloc_lt _ _)]; simp [go_sem]

theorem concats_long (V0 V1 V2 : Option Addr) (c0 c1 c2 : Nat) (a b c : List Int) (x : Int) (w : World) (hl : ¬ (a.length ≤ 20 ∧ b.length ≤ 20 ∧ c.length ≤ 20)) :
    Calls Try.prog 8 #[.agg #[.slice V0 a.length c0, .slice V1 b.length c1, .slice V2 c.length c2], .int .u8 x] w fun e w' => e = .returned (.bool true) ∧ Below w.heap.size w w' := by
  by_cases h0 : 20 < a.length
  · clear hl
    go_enter Try.func8, Try.ntmps8
    go_wp2_with fail
    refine (known_any _).mono ?_
    rintro e w1 ⟨rfl, B1⟩
    obtain ⟨x0, x1, x2⟩ := box3 B1
    go_wp2_with fail
    refine (known_any _).mono ?_
    rintro e w2 ⟨rfl, B2⟩
    go_wp2
    go_ret
    exact ⟨rfl, below_first (B1.trans (B2.mono B1.size))⟩
  · by_cases h1 : 20 < b.length
    · clear hl
      go_enter Try.func8, Try.ntmps8
      go_wp2_with fail
      refine (known_any _).mono ?_
      rintro e w1 ⟨rfl, B1⟩
      obtain ⟨x0, x1, x2⟩ := box3 B1
      go_wp2_with fail
      refine (known_any _).mono ?_
      rintro e w2 ⟨rfl, B2⟩
      go_wp2
      go_ret
      exact ⟨rfl, below_first (B1.trans (B2.mono B1.size))⟩
    · have h2 : 20 < c.length := by omega
      clear hl
      go_enter Try.func8, Try.ntmps8
      go_wp2_with fail
      refine (known_any _).mono ?_
      rintro e w1 ⟨rfl, B1⟩
      obtain ⟨x0, x1, x2⟩ := box3 B1
      go_wp2_with fail
      refine (known_any _).mono ?_
      rintro e w2 ⟨rfl, B2⟩
      go_wp2
      go_ret
      exact ⟨rfl, below_first (B1.trans (B2.mono B1.size))⟩

/-- what the loop has joined after k rounds -/
def jn (a b c : List Int) : Nat → List Int
  | 0 => []
  | 1 => a
  | 2 => a ++ b
  | _ => a ++ b ++ c

theorem jn_len (a b c : List Int) (k : Nat) : (jn a b c k).length ≤ a.length + b.length + c.length := by
  unfold jn; split <;> (try simp) <;> omega
theorem own_jn {w : World} {base : Nat} {I : TypeId} {v : Value} {l m l' : List Int} (h : w.ownsRow base I 1 v (l.length + m.length) (iv l ++ iv m)) (e : l' = l ++ m) : w.ownsRow base I 1 v l'.length (iv l') := by
  subst e; rw [iv_append, List.length_append]; exact h

set_option maxHeartbeats 3200000 in
theorem concats_walk (V0 V1 V2 : Option Addr) (c0 c1 c2 : Nat) (a b c : List Int) (x : Int) (w : World) (ha : RdI w w.heap.size V0 a) (ha1 : a.length ≤ c0) (ha2 : c0 ≤ 9223372036854775807)
    (hb : RdI w w.heap.size V1 b) (hb1 : b.length ≤ c1) (hb2 : c1 ≤ 9223372036854775807) (hc : RdI w w.heap.size V2 c) (hc1 : c.length ≤ c2) (hc2 : c2 ≤ 9223372036854775807) (x0 : 0 ≤ x) (x1 : x ≤ 255) :
    Calls Try.prog 8 #[.agg #[.slice V0 a.length c0, .slice V1 b.length c1, .slice V2 c.length c2], .int .u8 x] w fun e w' => e = .returned (.bool true) ∧ Below w.heap.size w w' := by
  by_cases hn : ¬ (a.length ≤ 20 ∧ b.length ≤ 20 ∧ c.length ≤ 20)
  · exact concats_long V0 V1 V2 c0 c1 c2 a b c x w hn
  obtain ⟨l0, l1, l2⟩ := Decidable.not_not.1 hn
  clear hn
  have b0 := setB_le x 5
  have i0 := setB_inc x 5
  have hpa : (projW a (setB x 5)).length ≤ a.length := List.length_filter_le _ _
  have hpb : (projW b (setB x 5)).length ≤ b.length := List.length_filter_le _ _
  have hpc : (projW c (setB x 5)).length ≤ c.length := List.length_filter_le _ _
  have e1 := eqB_of (show catS [⟨V0, c0, a⟩, ⟨V1, c1, b⟩, ⟨V2, c2, c⟩] = jn a b c 3 from by simp [catS, jn])
  have e2 := eqB_of (rfl : projW (jn a b c 3) (setB x 5) = projW (jn a b c 3) (setB x 5))
  have e3 := eqB_of (show jn (projW a (setB x 5)) (projW b (setB x 5)) (projW c (setB x 5)) 3 = projW (jn a b c 3) (setB x 5) from by simp [jn, proj_app])
  have E1 := Lib.hid e1; clear e1
  have E2 := Lib.hid e2; clear e2
  have E3 := Lib.hid e3; clear e3
  have I0 := Lib.hid i0; clear i0
  go_enter Try.func8, Try.ntmps8
  go_wp2_with fail
  refine (known_any _).mono ?_
  rintro e w1 ⟨rfl, B1⟩
  have z1 := B1.size
  obtain ⟨q0, q1, q2⟩ := box3 B1
  go_wp2_with fail
  refine (law_Set x w1 x0 x1).mono ?_
  rintro e w2 ⟨A2, k2, rfl, s1, s2, r2, hd⟩
  have B2 := B1.trans (hd.mono z1)
  have z2 := B2.size
  clear hd B1 z1 q0 q1 q2
  have F2 := below_first B2
  have y2 := F2.size
  go_wp2
  go_loopw [6, 7, 8] (fun o p i wr => ∃ k : Nat, k ≤ 3 ∧ i = .int .i64 k ∧ Hid (wr.ownsRow w2.heap.size 3 1 o (jn a b c k).length (iv (jn a b c k))) ∧ Hid (wr.ownsRow w2.heap.size 3 1 p (jn (projW a (setB x 5)) (projW b (setB x 5)) (projW c (setB x 5)) k).length (iv (jn (projW a (setB x 5)) (projW b (setB x 5)) (projW c (setB x 5)) k))) ∧ Hid (Apart o p) ∧ Below w2.heap.size w2 wr) (fun _ _ i _ => 3 - (intOf i).toNat)
  case atStart => exact ⟨0, by omega, rfl, World.ownsRow_nil _ _ _ _, World.ownsRow_nil _ _ _ _, (fun g h => by simp [Value.ownBlock] at h), Below.refl _ _⟩
  case round =>
    obtain ⟨k, hk, rfl, HO, HP, HA, hbel⟩ := hrel
    have hsz := hbel.size
    have Br := B2.trans (hbel.mono z2)
    have Fr := F2.trans (hbel.mono y2)
    have yr := Fr.size
    obtain ⟨q0, q1, q2⟩ := box3 Br
    have j1 := jn_len a b c k
    have j2 := jn_len (projW a (setB x 5)) (projW b (setB x 5)) (projW c (setB x 5)) k
    have : k = 0 ∨ k = 1 ∨ k = 2 ∨ k = 3 := by omega
    rcases this with rfl | rfl | rfl | rfl
    · go_wp2_with (at_builtin; refine wpList_app2 _ rfl (.tmp 36) (.tmp 39) 22 rfl w2.heap.size 3 (.int .i64 0) 8 Try.underlying22 int_info rfl u6 _ _ rfl HO.out w.heap.size V0 a.length c0 (iv a) (iv_length _) rfl (ha.below Fr) (iv_one _) (by omega) (by omega) hsz u7 _ _ HP.out HA.out ?_; intro v6 w6 ho6 hp6 hap6 hb6; obtain ⟨p0, p1, p2⟩ := box3 (B2.trans ((hbel.trans hb6).mono z2)))
      have Bq := hbel.trans (hb6.mono (Nat.le_refl _))
      have Fq := F2.trans (Bq.mono y2)
      have yq := Fq.size
      have zq := Bq.size
      have HO6 := Lib.hid ho6
      have HA6 := Lib.hid hap6
      clear ho6 hap6 hb6
      refine (word_Project V0 A2 c0 k2 a (setB x 5) w6 ((ha.below Fq).more yq) (by omega) ((r2.below Bq).more zq) (by omega) I0.out).mono ?_
      rintro e w7 ⟨A7, k7, rfl, t1, t2, r7, hb7⟩
      have HO7 := Lib.hid (own_below HO6.out hb7)
      have hp7 := own_below hp6 hb7
      have Bs := Bq.trans (hb7.mono zq)
      have zs := Bs.size
      clear hb7 hp6 HO6
      go_wp2_with (at_builtin; refine wpList_app2 _ rfl (.tmp 41) (.tmp 46) 22 rfl w2.heap.size 3 (.int .i64 0) 8 Try.underlying22 int_info rfl u7 _ _ rfl hp7 w7.heap.size A7 (projW a (setB x 5)).length k7 (iv (projW a (setB x 5))) (iv_length _) rfl r7 (iv_one _) (by omega) (by omega) zs v6 _ _ HO7.out HA6.out.symm ?_; intro v8 w8 hp8 ho8 hap8 hb8)
      go_roundw
      case rel => exact ⟨0 + 1, by omega, by go_num, own_jn ho8 rfl, own_jn hp8 rfl, hap8.symm, Bs.trans (hb8.mono (Nat.le_refl _))⟩
      case measure => simp [intOf]
    · go_wp2_with (at_builtin; refine wpList_app2 _ rfl (.tmp 36) (.tmp 39) 22 rfl w2.heap.size 3 (.int .i64 0) 8 Try.underlying22 int_info rfl u6 _ _ rfl HO.out w.heap.size V1 b.length c1 (iv b) (iv_length _) rfl (hb.below Fr) (iv_one _) (by omega) (by omega) hsz u7 _ _ HP.out HA.out ?_; intro v6 w6 ho6 hp6 hap6 hb6; obtain ⟨p0, p1, p2⟩ := box3 (B2.trans ((hbel.trans hb6).mono z2)))
      have Bq := hbel.trans (hb6.mono (Nat.le_refl _))
      have Fq := F2.trans (Bq.mono y2)
      have yq := Fq.size
      have zq := Bq.size
      have HO6 := Lib.hid ho6
      have HA6 := Lib.hid hap6
      clear ho6 hap6 hb6
      refine (word_Project V1 A2 c1 k2 b (setB x 5) w6 ((hb.below Fq).more yq) (by omega) ((r2.below Bq).more zq) (by omega) I0.out).mono ?_
      rintro e w7 ⟨A7, k7, rfl, t1, t2, r7, hb7⟩
      have HO7 := Lib.hid (own_below HO6.out hb7)
      have hp7 := own_below hp6 hb7
      have Bs := Bq.trans (hb7.mono zq)
      have zs := Bs.size
      clear hb7 hp6 HO6
      go_wp2_with (at_builtin; refine wpList_app2 _ rfl (.tmp 41) (.tmp 46) 22 rfl w2.heap.size 3 (.int .i64 0) 8 Try.underlying22 int_info rfl u7 _ _ rfl hp7 w7.heap.size A7 (projW b (setB x 5)).length k7 (iv (projW b (setB x 5))) (iv_length _) rfl r7 (iv_one _) (by omega) (by omega) zs v6 _ _ HO7.out HA6.out.symm ?_; intro v8 w8 hp8 ho8 hap8 hb8)
      go_roundw
      case rel => exact ⟨1 + 1, by omega, by go_num, own_jn ho8 rfl, own_jn hp8 rfl, hap8.symm, Bs.trans (hb8.mono (Nat.le_refl _))⟩
      case measure => simp [intOf]
    · go_wp2_with (at_builtin; refine wpList_app2 _ rfl (.tmp 36) (.tmp 39) 22 rfl w2.heap.size 3 (.int .i64 0) 8 Try.underlying22 int_info rfl u6 _ _ rfl HO.out w.heap.size V2 c.length c2 (iv c) (iv_length _) rfl (hc.below Fr) (iv_one _) (by omega) (by omega) hsz u7 _ _ HP.out HA.out ?_; intro v6 w6 ho6 hp6 hap6 hb6; obtain ⟨p0, p1, p2⟩ := box3 (B2.trans ((hbel.trans hb6).mono z2)))
      have Bq := hbel.trans (hb6.mono (Nat.le_refl _))
      have Fq := F2.trans (Bq.mono y2)
      have yq := Fq.size
      have zq := Bq.size
      have HO6 := Lib.hid ho6
      have HA6 := Lib.hid hap6
      clear ho6 hap6 hb6
      refine (word_Project V2 A2 c2 k2 c (setB x 5) w6 ((hc.below Fq).more yq) (by omega) ((r2.below Bq).more zq) (by omega) I0.out).mono ?_
      rintro e w7 ⟨A7, k7, rfl, t1, t2, r7, hb7⟩
      have HO7 := Lib.hid (own_below HO6.out hb7)
      have hp7 := own_below hp6 hb7
      have Bs := Bq.trans (hb7.mono zq)
      have zs := Bs.size
      clear hb7 hp6 HO6
      go_wp2_with (at_builtin; refine wpList_app2 _ rfl (.tmp 41) (.tmp 46) 22 rfl w2.heap.size 3 (.int .i64 0) 8 Try.underlying22 int_info rfl u7 _ _ rfl hp7 w7.heap.size A7 (projW c (setB x 5)).length k7 (iv (projW c (setB x 5))) (iv_length _) rfl r7 (iv_one _) (by omega) (by omega) zs v6 _ _ HO7.out HA6.out.symm ?_; intro v8 w8 hp8 ho8 hap8 hb8)
      go_roundw
      case rel => exact ⟨2 + 1, by omega, by go_num, own_jn ho8 rfl, own_jn hp8 rfl, hap8.symm, Bs.trans (hb8.mono (Nat.le_refl _))⟩
      case measure => simp [intOf]
    · obtain ⟨A5, k5, rfl, g1, g2, r5⟩ := own_slI HO.out
      obtain ⟨A6, k6, rfl, m1, m2, r6⟩ := own_slI HP.out
      have rs := (r2.below hbel).more hsz
      have hxs := rds_lit wr [⟨V0, c0, a⟩, ⟨V1, c1, b⟩, ⟨V2, c2, c⟩] 22 (fun s hs => by
        simp only [List.mem_cons, List.not_mem_nil, or_false] at hs
        rcases hs with rfl | rfl | rfl
        · exact ⟨(ha.below Fr).more yr, ha1, ha2⟩
        · exact ⟨(hb.below Fr).more yr, hb1, hb2⟩
        · exact ⟨(hc.below Fr).more yr, hc1, hc2⟩)
      have HXS := Lib.hid hxs; clear hxs
      clear HO HP HA hbel hsz Br r2 B2 z2 F2 y2
      go_wp2_with fail
      refine (word_Concat (some ⟨wr.heap.size, 0, none⟩) 3 [⟨V0, c0, a⟩, ⟨V1, c1, b⟩, ⟨V2, c2, c⟩] _ (by exact HXS.out.more (by simp)) (by simp) (by simp [catS]; omega)).mono ?_
      rintro e w7 ⟨v7, rfl, ho7, hb7⟩
      obtain ⟨A7, k7, rfl, t1, t2, r7⟩ := own_slI ho7
      have hw : Below wr.heap.size wr w7 := below_first hb7
      have F7 := Fr.trans (hw.mono yr)
      have y7 := F7.size
      have r5' := (r5.below hw).more hw.size
      have r6' := (r6.below hw).more hw.size
      have rs' := (rs.below hw).more hw.size
      clear ho7 hb7 hw r5 r6 rs Fr yr HXS
      go_wp2_with fail
      have hcon := law_same A7 A5 k7 k5 _ _ w7 r7 t1 t2 r5'
      rw [E1.out] at hcon
      refine hcon.mono ?_
      rintro e w8 ⟨rfl, hd⟩
      have hw : Below w7.heap.size w7 w8 := by obtain ⟨m, rfl⟩ := hd; exact below_drewN (Below.refl _ _) _
      have F8 := F7.trans (hw.mono y7)
      have y8 := F8.size
      have r5 := (r5'.below hw).more hw.size
      have r6 := (r6'.below hw).more hw.size
      have rs := (rs'.below hw).more hw.size
      clear hcon hd hw r5' r6' rs' F7 y7 r7 t1 t2
      go_wp2_with fail
      have hcon : Calls Try.prog 27 #[.slice none 0 0] w8 (RetO 3 [] w8) := word_Concat none 0 [] w8 RdS.nil (by simp) (by simp [catS])
      refine hcon.mono ?_
      rintro e w9 ⟨v9, rfl, ho9, hw⟩
      obtain ⟨A9, k9, rfl, t1, t2, r9⟩ := own_slI ho9
      have F9 := F8.trans (hw.mono y8)
      have y9 := F9.size
      have r5' := (r5.below hw).more hw.size
      have r6' := (r6.below hw).more hw.size
      have rs' := (rs.below hw).more hw.size
      clear hcon ho9 hw r5 r6 rs F8 y8 t1 t2 r9
      go_wp2_with fail
      refine (word_Project A5 A2 k5 k2 (jn a b c 3) (setB x 5) w9 r5' (by omega) rs' (by omega) I0.out).mono ?_
      rintro e w10 ⟨A10, k10, rfl, t1, t2, r10, hw⟩
      have F10 := F9.trans (hw.mono y9)
      have y10 := F10.size
      have r5 := (r5'.below hw).more hw.size
      have r6 := (r6'.below hw).more hw.size
      have rs := (rs'.below hw).more hw.size
      clear hw r5' r6' rs' F9 y9
      go_wp2_with fail
      refine (ref_Project A5 A2 k5 k2 (jn a b c 3) (setB x 5) w10 r5 (by omega) rs s1 s2).mono ?_
      rintro e w11 ⟨A11, k11, rfl, u1, u2, r11, hw⟩
      have F11 := F10.trans (hw.mono y10)
      have y11 := F11.size
      have r5' := (r5.below hw).more hw.size
      have r6' := (r6.below hw).more hw.size
      have rs' := (rs.below hw).more hw.size
      have r10' := (r10.below hw).more hw.size
      clear hw r5 r6 rs r10 F10 y10
      go_wp2_with fail
      have hcon := law_same A10 A11 k10 k11 _ _ w11 r10' t1 t2 r11
      rw [E2.out] at hcon
      refine hcon.mono ?_
      rintro e w12 ⟨rfl, hd⟩
      have hw : Below w11.heap.size w11 w12 := by obtain ⟨m, rfl⟩ := hd; exact below_drewN (Below.refl _ _) _
      have F12 := F11.trans (hw.mono y11)
      have y12 := F12.size
      have r5 := (r5'.below hw).more hw.size
      have r6 := (r6'.below hw).more hw.size
      have rs := (rs'.below hw).more hw.size
      clear hcon hd hw r5' r6' rs' r10' r11 F11 y11 t1 t2 u1 u2
      go_wp2_with fail
      refine (ref_Project A5 A2 k5 k2 (jn a b c 3) (setB x 5) w12 r5 (by omega) rs s1 s2).mono ?_
      rintro e w13 ⟨A13, k13, rfl, u1, u2, r13, hw⟩
      have F13 := F12.trans (hw.mono y12)
      have y13 := F13.size
      have r6' := (r6.below hw).more hw.size
      clear hw r5 r6 rs F12 y12
      go_wp2_with fail
      have hcon := law_same A6 A13 k6 k13 _ _ w13 r6' m1 m2 r13
      rw [E3.out] at hcon
      refine hcon.mono ?_
      rintro e w14 ⟨rfl, hd⟩
      have hw : Below w13.heap.size w13 w14 := by obtain ⟨m, rfl⟩ := hd; exact below_drewN (Below.refl _ _) _
      have F14 := F13.trans (hw.mono y13)
      go_wp2
      go_ret
      exact ⟨rfl, F14⟩
end Go.Proofs.Ytcbhencebflgcaa
