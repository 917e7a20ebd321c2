/- Walks: the reference's Shuffles whole. -/
import Derived.Test.YtcbhencebflgcaaWs
import Derived.IntWalk
namespace Go.Proofs.Ytcbhencebflgcaa
open Go.RowKit Go


set_option maxRecDepth 100000 in
set_option maxHeartbeats 6400000 in
theorem ref_Shuffles : ∀ (n : Nat) (A B : Option Addr) (na nb ca cb : Nat) (a b : List Int) (w : World), a.length = na → b.length = nb → na + nb ≤ n → n ≤ 16 →
    RdI w w.heap.size A a → na ≤ ca → ca ≤ 9223372036854775807 → RdI w w.heap.size B b → nb ≤ cb → cb ≤ 9223372036854775807 →
    Calls Try.prog 34 #[.slice A na ca, .slice B nb cb] w (RetP (refS n a b) w) := by
  intro n
  induction n with
  | zero =>
    intro A B na nb ca cb a b w hna hnb hn hN ha ha1 ha2 hb hb1 hb2
    exact refShuf_base 0 A B na nb ca cb a b w (by omega) hna hnb (by omega) (by omega) ha hb
  | succ n ih =>
    intro A B na nb ca cb a b w hna hnb hn hN ha ha1 ha2 hb hb1 hb2
    cases na with
    | zero => exact refShuf_base _ A B 0 nb ca cb a b w (by omega) hna hnb (by omega) (by omega) ha hb
    | succ p =>
    cases nb with
    | zero => exact refShuf_base _ A B (p + 1) 0 ca cb a b w (by omega) hna hnb (by omega) (by omega) ha hb
    | succ q =>
    obtain ⟨x, hx⟩ : ∃ x, a[p]? = some x := ⟨_, List.getElem?_eq_getElem (by omega)⟩
    obtain ⟨y, hy⟩ : ∃ y, b[q]? = some y := ⟨_, List.getElem?_eq_getElem (by omega)⟩
    have hgo : refS (n + 1) a b = putA (putA [] (refS n (a.take p) b) x (refS n (a.take p) b).length) (refS n a (b.take q)) y (refS n a (b.take q)).length := by
      have := refS_go (n := n) (a := a) (b := b) (x := x) (y := y) (by rw [hna]; exact hx) (by rw [hnb]; exact hy)
      rw [hna, hnb] at this
      exact this
    have hta : (a.take p).length = p := by rw [List.length_take, hna]; omega
    have htb : (b.take q).length = q := by rw [List.length_take, hnb]; omega
    have e1 := refS_lens (n := n) (a := a.take p) (b := b) (by omega)
    have e2 := refS_lens (n := n) (a := a) (b := b.take q) (by omega)
    have m1 := refS_many (n := n) (a := a.take p) (b := b) (by omega) (by omega)
    have m2 := refS_many (n := n) (a := a) (b := b.take q) (by omega) (by omega)
    rw [hta, hnb] at e1
    rw [hna, htb] at e2
    have i1 := ih A B p (q + 1) ca cb (a.take p) b
    have i2 := ih A B (p + 1) q ca cb a (b.take q)
    have I1 := Lib.hid i1
    have I2 := Lib.hid i2
    clear i1 i2 ih
    generalize hL1 : refS n (a.take p) b = L1 at *
    generalize hL2 : refS n a (b.take q) = L2 at *
    have HL1 := Lib.hid hL1; clear hL1
    have HL2 := Lib.hid hL2; clear hL2
    have E1 := Lib.hid e1
    have E2 := Lib.hid e2
    have HGO := Lib.hid hgo; clear hgo
    have HTA := Lib.hid hta; clear hta
    have HTB := Lib.hid htb; clear htb
    have HNA := Lib.hid hna; clear hna
    have HNB := Lib.hid hnb; clear hnb
    have HX := Lib.hid hx; clear hx
    have HY := Lib.hid hy; clear hy
    clear e1 e2
    have pc : p ≤ ca := by omega
    have pz : ((p : Int) + 1 == 0) = false := by rw [beq_eq_false_iff_ne]; omega
    have qz : ((q : Int) + 1 == 0) = false := by rw [beq_eq_false_iff_ne]; omega
    have qc : q ≤ cb := by omega
    go_enter Try.func34, Try.ntmps34
    go_wp2_with fail
    refine (I1.out w HTA.out HNB.out (by omega) (by omega) (RdI.take ha p) (by omega) (by omega) hb (by omega) (by omega)).mono ?_
    rintro e w1 ⟨Y1, k1, n1, ys, rfl, hyl, g11, g12, r1, hym, b1⟩
    have hn1 : n1 ≤ 65536 := by rw [← hyl, ← List.length_map (f := SlV.l), hym]; exact m1
    have hn1' : n1 = L1.length := by rw [← hyl, ← List.length_map (f := SlV.l), hym]
    have HYL := Lib.hid hyl; clear hyl
    have HYM := Lib.hid hym; clear hym
    have HN1 := Lib.hid hn1'; clear hn1'
    have z1 := b1.size
    have ha' := (ha.below b1).more z1
    have hb' := (hb.below b1).more z1
    go_wp2
    go_loopw [5, 7] (fun s5 s7 wr => ∃ (k : Nat) (Ao : Option Addr) (co no : Nat) (zs : List SlV), k ≤ n1 ∧ s7 = .int .i64 k ∧ s5 = .slice Ao no co ∧ Hid (zs.length = no) ∧ no ≤ co ∧ co ≤ 9223372036854775807 ∧ RdS wr wr.heap.size Ao zs ∧ Hid (zs.map SlV.l = putA [] L1 x k) ∧ Below w1.heap.size w1 wr) (fun _ s7 _ => n1 - (intOf s7).toNat)
    case atStart => exact ⟨0, none, 0, 0, [], Nat.zero_le _, rfl, rfl, Lib.hid rfl, Nat.le_refl _, by omega, RdS.nil, Lib.hid rfl, Below.refl _ _⟩
    case round =>
      obtain ⟨k, Ao, co, no, zs, hk, rfl, rfl, HZL, hz1, hz2, hzs, HZM, hbel⟩ := hrel
      by_cases hlt : k < n1
      · skip
        obtain ⟨ld, s, rfl, _, hs, hcs, rs, gs1, gs2⟩ := (r1.below hbel).at_ (k := k) (by have := HYL.out; omega)
        have hsl : L1[k]? = some s.l := by rw [← HYM.out, List.getElem?_map, hs]; rfl
        have hns : s.l.length = (p+(q+1)) := E1.out _ (List.mem_of_getElem? hsl)
        obtain ⟨xd, x', rfl, _, hx', hcx⟩ := (ha'.below hbel).at_ (k := p) (by have := HNA.out; omega)
        obtain rfl : x = x' := by rw [HX.out] at hx'; injection hx'
        rw [hns] at hcs gs1
        have hz9 := putA_len [] L1 x k
        have hz3 : no ≤ 0 + k := by rw [← HZM.out, List.length_map, HZL.out] at hz9; simp at hz9; omega
        have kk : (k : Int) < (n1 : Int) := by omega
        have rz := hzs
        have HNS := Lib.hid hns; clear hns
        have HSL := Lib.hid hsl; clear hsl
        clear hs hz9 hx'
        have hsz := hbel.size
        have rs' := rs.more hsz
        have pw : IntKind.i64.wrap (p : Int) = (p : Int) := IntWalk.i64_in _ (by omega)
        have pl : (p : Int) < (p : Int) + 1 := by omega
        have p0 : (0 : Int) ≤ (p : Int) := by omega
        go_wp2
        go_region_held3 (fun w' => w'.cell? (ld.add k) = some (.slice s.A ((p+(q+1))) s.c) ∧ w'.cell? (xd.add p) = some (.int .i64 x)) (first | exact ⟨hcs, hcx⟩ | exact ⟨y0, y1⟩ | exact ⟨v0, v1⟩ | go_keep) (first
          | (go_at_call 61; (with_reducible refine (ref_Behind s.A s.c ((p+(q+1))) s.l x _ HNS.out ?_ ?_).mono ?_); exact rs'; omega; rintro e w3 ⟨A3, c3, rfl, hl3, g31, g32, r3, b3⟩; replace b3 : Below wr.heap.size wr w3 := ⟨b3.os, b3.tape, b3.output, b3.size, b3.block⟩; have y0 := (b3.cell (World.block_lt_of_cell? wr _ hcs)).trans hcs; have y1 := (b3.cell (World.block_lt_of_cell? wr _ hcx)).trans hcx; have z3 := b3.size; have HL3 := Lib.hid hl3; clear hl3)
          | (go_at_call 60; (with_reducible refine (ref_Put Ao A3 co c3 no ((p+(q+1)) + 1) zs (s.l ++ [x]) _ HZL.out HL3.out ?_ ?_ ?_ ?_ ?_ ?_ ?_).mono ?_); exact (rz.below b3).more z3; omega; omega; omega; exact r3; omega; omega; rintro e w4 ⟨A4, c4, n4, us, rfl, hl4, g41, g42, r4, hm4, b4⟩; replace b4 : Below w3.heap.size w3 w4 := ⟨b4.os, b4.tape, b4.output, b4.size, b4.block⟩; have v0 := (b4.cell (World.block_lt_of_cell? w3 _ y0)).trans y0; have v1 := (b4.cell (World.block_lt_of_cell? w3 _ y1)).trans y1; have HL4 := Lib.hid hl4; have HM4 := Lib.hid hm4; clear hl4 hm4) | fail)
        go_wp2
        go_roundw
        case rel => exact ⟨k + 1, A4, c4, n4, us, by omega, by go_num, rfl, HL4, g41, g42, r4, Lib.hid (by rw [HM4.out, HZM.out, putA_succ HSL.out]), hbel.trans ((b3.trans (b4.mono z3)).mono hsz)⟩
        case measure => simp [intOf]; omega
      · obtain rfl : k = n1 := by omega
        have hzm : zs.map SlV.l = putA [] L1 x L1.length := by rw [HZM.out, ← HN1.out]
        have hzl : (putA [] L1 x L1.length).length ≤ 65536 := by have := putA_len [] L1 x L1.length; have := HN1.out; simp at *; omega
        have hno : no ≤ 65536 := by rw [← HZL.out, ← List.length_map (f := SlV.l), hzm]; exact hzl
        have HZS := Lib.hid hzl
        generalize hS0 : putA [] L1 x L1.length = S0 at *
        have HS0 := Lib.hid hS0; clear hS0
        have hS0n : S0.length = no := by rw [← hzm, List.length_map, HZL.out]
        have HZM2 := Lib.hid hzm; clear hzm
        have HS0N := Lib.hid hS0n; clear hS0n
        clear HZM hzl
        have hsz := hbel.size
        go_wp2_with fail
        refine (I2.out wr HNA.out HTB.out (by omega) (by omega) ((ha'.below hbel).more hsz) (by omega) (by omega) (RdI.take ((hb'.below hbel).more hsz) q) (by omega) (by omega)).mono ?_
        rintro e w2 ⟨Y2, k2, n2, ts, rfl, htl, g21, g22, r2, htm, b2⟩
        have hn2 : n2 ≤ 65536 := by rw [← htl, ← List.length_map (f := SlV.l), htm]; exact m2
        have hn2' : n2 = L2.length := by rw [← htl, ← List.length_map (f := SlV.l), htm]
        have HTL := Lib.hid htl; clear htl
        have HTM := Lib.hid htm; clear htm
        have HN2 := Lib.hid hn2'; clear hn2'
        have z2 := b2.size
        have hb2' := (((hb'.below hbel).more hsz).below b2).more z2
        have hzs2 := (hzs.below b2).more z2
        have bt : Below w.heap.size w w2 := b1.trans ((hbel.trans (b2.mono hsz)).mono z1)
        have zt := bt.size
        clear hzs hbel b2 ha' hb' b1 r1
        go_wp2
        go_loopw [5, 8] (fun s5 s8 wr => ∃ (k : Nat) (Ao : Option Addr) (co no : Nat) (zs : List SlV), k ≤ n2 ∧ s8 = .int .i64 k ∧ s5 = .slice Ao no co ∧ Hid (zs.length = no) ∧ no ≤ co ∧ co ≤ 9223372036854775807 ∧ RdS wr wr.heap.size Ao zs ∧ Hid (zs.map SlV.l = putA S0 L2 y k) ∧ Below w2.heap.size w2 wr) (fun _ s8 _ => n2 - (intOf s8).toNat)
        case atStart => exact ⟨0, Ao, co, no, zs, Nat.zero_le _, rfl, rfl, HZL, hz1, hz2, hzs2, HZM2, Below.refl _ _⟩
        case round =>
          clear hz1 hz2 hzs2 HZL HZM2
          obtain ⟨k, Ao, co, no', zs, hk, rfl, rfl, HZL, hz1, hz2, hzs, HZM, hbel⟩ := hrel
          by_cases hlt : k < n2
          · skip
            obtain ⟨ld, s, rfl, _, hs, hcs, rs, gs1, gs2⟩ := (r2.below hbel).at_ (k := k) (by have := HTL.out; omega)
            have hsl : L2[k]? = some s.l := by rw [← HTM.out, List.getElem?_map, hs]; rfl
            have hns : s.l.length = (p+1+q) := E2.out _ (List.mem_of_getElem? hsl)
            obtain ⟨xd, x', rfl, _, hx', hcx⟩ := (hb2'.below hbel).at_ (k := q) (by have := HNB.out; omega)
            obtain rfl : y = x' := by rw [HY.out] at hx'; injection hx'
            rw [hns] at hcs gs1
            have hz9 := putA_len S0 L2 y k
            have hz3 : no' ≤ no + k := by rw [← HZM.out, List.length_map, HZL.out, HS0N.out] at hz9; omega
            have kk : (k : Int) < (n2 : Int) := by omega
            have rz := hzs
            have HNS := Lib.hid hns; clear hns
            have HSL := Lib.hid hsl; clear hsl
            clear hs hz9 hx'
            have hsz := hbel.size
            have rs' := rs.more hsz
            have pw : IntKind.i64.wrap (q : Int) = (q : Int) := IntWalk.i64_in _ (by omega)
            have pl : (q : Int) < (q : Int) + 1 := by omega
            have p0 : (0 : Int) ≤ (q : Int) := by omega
            go_wp2
            go_region_held3 (fun w' => w'.cell? (ld.add k) = some (.slice s.A ((p+1+q)) s.c) ∧ w'.cell? (xd.add q) = some (.int .i64 y)) (first | exact ⟨hcs, hcx⟩ | exact ⟨y0, y1⟩ | exact ⟨v0, v1⟩ | go_keep) (first
              | (go_at_call 61; (with_reducible refine (ref_Behind s.A s.c ((p+1+q)) s.l y _ HNS.out ?_ ?_).mono ?_); exact rs'; omega; rintro e w3 ⟨A3, c3, rfl, hl3, g31, g32, r3, b3⟩; replace b3 : Below wr.heap.size wr w3 := ⟨b3.os, b3.tape, b3.output, b3.size, b3.block⟩; have y0 := (b3.cell (World.block_lt_of_cell? wr _ hcs)).trans hcs; have y1 := (b3.cell (World.block_lt_of_cell? wr _ hcx)).trans hcx; have z3 := b3.size; have HL3 := Lib.hid hl3; clear hl3)
              | (go_at_call 60; (with_reducible refine (ref_Put Ao A3 co c3 no' ((p+1+q) + 1) zs (s.l ++ [y]) _ HZL.out HL3.out ?_ ?_ ?_ ?_ ?_ ?_ ?_).mono ?_); exact (rz.below b3).more z3; omega; omega; omega; exact r3; omega; omega; rintro e w4 ⟨A4, c4, n4, us, rfl, hl4, g41, g42, r4, hm4, b4⟩; replace b4 : Below w3.heap.size w3 w4 := ⟨b4.os, b4.tape, b4.output, b4.size, b4.block⟩; have v0 := (b4.cell (World.block_lt_of_cell? w3 _ y0)).trans y0; have v1 := (b4.cell (World.block_lt_of_cell? w3 _ y1)).trans y1; have HL4 := Lib.hid hl4; have HM4 := Lib.hid hm4; clear hl4 hm4) | fail)
            go_wp2
            go_roundw
            case rel => exact ⟨k + 1, A4, c4, n4, us, by omega, by go_num, rfl, HL4, g41, g42, r4, Lib.hid (by rw [HM4.out, HZM.out, putA_succ HSL.out]), hbel.trans ((b3.trans (b4.mono z3)).mono hsz)⟩
            case measure => simp [intOf]; omega
          · obtain rfl : k = n2 := by omega
            have hfin : zs.map SlV.l = refS (n + 1) a b := by rw [HZM.out, HGO.out, HN2.out]
            have HFIN := Lib.hid hfin; clear hfin
            go_wp2
            go_ret
            exact ⟨Ao, co, no', zs, rfl, HZL.out, hz1, hz2, hzs, HFIN.out, bt.trans (hbel.mono zt)⟩
end Go.Proofs.Ytcbhencebflgcaa
