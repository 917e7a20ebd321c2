/- The law WordIsShuffle: its walk. -/
import Derived.Test.YtcbhencebflgcaaWq
import Derived.Test.YtcbhencebflgcaaWk
import Derived.Deep.RegionHeld3
import Derived.BigRegion
namespace Go.Proofs.Ytcbhencebflgcaa
open Go.RowKit Go

theorem box3i {w w1 : World} {x y z : Value} {t : TypeId} (h : Below (w.alloc (.cells #[x, y, z] t)).heap.size (w.alloc (.cells #[x, y, z] t)) w1) :
    w1.cell? ⟨w.heap.size, 0, none⟩ = some x ∧ w1.cell? ⟨w.heap.size, 1, none⟩ = some y ∧ w1.cell? ⟨w.heap.size, 2, none⟩ = some z := by
  refine ⟨?_, ?_, ?_⟩
  · rw [h.cell (p := ⟨w.heap.size, 0, none⟩) (alloc_lt _ _)]; simp [go_sem]
  · rw [h.cell (p := ⟨w.heap.size, 1, none⟩) (alloc_lt _ _)]; simp [go_sem]
  · rw [h.cell (p := ⟨w.heap.size, 2, none⟩) (alloc_lt _ _)]; simp [go_sem]
theorem shuf_snoc_a {acc x y : List Int} {i : Nat} {u : Int} (h : Shuf acc (x.take i) y) (hu : x[i]? = some u) : Shuf (acc ++ [u]) (x.take (i + 1)) y := by
  rw [take_snoc' hu]; exact h.snoc_l u
theorem shuf_snoc_b {acc x y : List Int} {i : Nat} {u : Int} (h : Shuf acc x (y.take i)) (hu : y[i]? = some u) : Shuf (acc ++ [u]) x (y.take (i + 1)) := by
  rw [take_snoc' hu]; exact h.snoc_r u

theorem step_app {P : Program} (w : World) {ops : Array Oper} {o : Oper} {a : Act} {K : Act → World → Prop} {Q : Exit → Act → World → Prop} {E : Prop} (hgd : o.guard = none) (s x : Operand) (t : TypeId)
    (ho : o.op = .call { callee := .builtin .append, args := #[s, x], argTypes := #[t, t] })
    (base : Nat) (e : TypeId) (z : Value) (bytes : Nat) (ht : P.underlying t = some (.slice e)) (hinfo : (P.info? e).map (fun i => (i.zero, i.size, i.bytes)) = some (some z, 1, bytes))
    (hz1 : z.cells.size = 1) (v : Value) (n : Nat) (xs : List Value) (hs : a.eval s = v) (hown : w.ownsRow base e 1 v n xs)
    (B : Nat) (A : Option Addr) (m c : Nat) (news : List Value) (hm : news.length = m) (hx : a.eval x = .slice A m c) (hr : RdV w B A news) (h1 : ∀ u ∈ news, u.oneCell' = true)
    (hn : n + m ≤ 9223372036854775807) (hbytes : (n + m) * bytes ≤ 140737488355328) (hbase : base ≤ w.heap.size)
    (h : ∀ v' w', w'.ownsRow base e 1 v' (n + m) (xs ++ news) → Below base w w' → K (a.put o.dst v') w') :
    if Region.wanted o (yielded ops a.tmps) = true then Oper.wp P o a w K Q else E := by
  have hw : Region.wanted o (yielded ops a.tmps) = true := by simp [Region.wanted, hgd]
  rw [if_pos hw]
  obtain ⟨i, hi, hz, hs1, hby⟩ := info_parts hinfo
  obtain ⟨v', w', hrun, h2, h3, h4⟩ := run_app (P := P) w base t o.type e i z bytes ht hi hz hs1 hby hz1 v n xs hown B A m c news hm hr h1 (by unfold maxLen; omega) hbytes hbase
  unfold Oper.wp execOp
  simp only [ho, resolve, invoke, builtin, Sem.run_bind, Sem.run_pure, Result.andThen_ok, List.map_toArray, List.map_cons, List.map_nil, hs, hx, hrun]
  exact h v' w' h2 ((Below.refl _ _).grown h3 hbase fun k hk => (hown.lt k hk).1)
theorem step_min {P : Program} (w : World) {ops : Array Oper} {o : Oper} {a : Act} {K : Act → World → Prop} {Q : Exit → Act → World → Prop} {E : Prop} (hgd : o.guard = none) (s x : Operand) (ts : Array TypeId)
    (ho : o.op = .call { callee := .builtin .min, args := #[s, x], argTypes := ts }) (k k' : IntKind) (p q : Int) (hs : a.eval s = .int k p) (hx : a.eval x = .int k' q) (m : Int) (hm : (if q < p then q else p) = m)
    (h : K (a.put o.dst (.int k m)) w) : if Region.wanted o (yielded ops a.tmps) = true then Oper.wp P o a w K Q else E := by
  have hw : Region.wanted o (yielded ops a.tmps) = true := by simp [Region.wanted, hgd]
  rw [if_pos hw]
  unfold Oper.wp execOp
  simp only [ho, resolve, invoke, builtin, Sem.run_bind, Sem.run_pure, Result.andThen_ok, List.map_toArray, List.map_cons, List.map_nil, hs, hx, run_min_int2, hm]
  exact h
theorem bv_append (a b : List Int) : bv (a ++ b) = bv a ++ bv b := by simp [bv]
theorem bv_one (l : List Int) : ∀ u ∈ bv l, u.oneCell' = true := by
  intro u hu
  simp [bv] at hu
  obtain ⟨a, _, rfl⟩ := hu
  rfl
theorem own_slB {w : World} {base : Nat} {e : TypeId} {v : Value} {n : Nat} {l : List Int} (h : w.ownsRow base e 1 v n (bv l)) : ∃ A c, v = .slice A n c ∧ n ≤ c ∧ c ≤ 9223372036854775807 ∧ RdB w w.heap.size A l := by
  rcases h.2 with ⟨rfl, h0⟩ | ⟨g, cap, cur, rfl, _, _, hnc, hcm, _⟩
  · have hl : l = [] := by
      have := h.1
      rw [h0] at this
      exact List.eq_nil_of_length_eq_zero (by simpa [bv] using this)
    subst hl h0
    exact ⟨none, 0, rfl, Nat.le_refl _, by omega, RdV.nil⟩
  · exact ⟨_, _, rfl, hnc, by simpa [maxLen] using hcm, RdV.of_own h⟩
theorem any_shape {w : World} {base : Nat} {e : TypeId} {v : Value} {a b : List Int} {i j : Nat} (h : w.ownsRow base e 1 v (0 + i + j) ([] ++ bv a ++ bv b)) : ∃ A c, v = .slice A (i + j) c ∧ i + j ≤ c ∧ c ≤ 9223372036854775807 ∧ RdB w w.heap.size A (a ++ b) := by
  rw [List.nil_append, ← bv_append, Nat.zero_add] at h
  exact own_slB h
def RetAny (w : World) (e : Ending) (w' : World) : Prop :=
  ∃ (an : List Int) (n : Nat) (A : Option Addr) (c : Nat), e = .returned (.slice A n c) ∧ an.length = n ∧ n ≤ c ∧ c ≤ 9223372036854775807 ∧ RdI w' w'.heap.size A an ∧ Below w.heap.size w w'
theorem law_Word_14 (A : Option Addr) (c na : Nat) (l : List Int) (w : World) (hna : l.length = na) (ha : RdB w w.heap.size A l) (hac : na ≤ 9223372036854775807) (hr : ∀ (k : Nat) (x : Int), l[k]? = some x → 0 ≤ x ∧ x ≤ 255) :
    Calls Try.prog 17 #[.slice A na c, .int .i64 14] w (RetAny w) := by
  subst hna
  exact (law_Word A c 14 l w ha hac hr (by omega)).mono fun e w' ⟨A, c, h1, h2, h3, h4, h5⟩ => ⟨_, _, A, c, h1, rfl, h2, h3, h4, h5⟩
theorem own_slN {w : World} {base : Nat} {e : TypeId} {v : Value} {n : Nat} {l : List Int} (h : w.ownsRow base e 1 v n (iv l)) (hl : l.length = n) : ∃ A c, v = .slice A n c ∧ n ≤ c ∧ c ≤ 9223372036854775807 ∧ RdI w w.heap.size A l := by
  subst hl; exact own_slI h
theorem u8_info : (Try.prog.info? 5).map (fun i => (i.zero, i.size, i.bytes)) = some (some (.int .u8 0), 1, 1) := by kernel_rfl
theorem int_eq {k : IntKind} {a b : Int} (h : a = b) : Value.int k a = Value.int k b := by rw [h]



set_option maxRecDepth 100000 in
set_option maxHeartbeats 6400000 in
theorem isShuffle_walk (V U : Option Addr) (cv cu nv nu : Nat) (l m : List Int) (p q r : Int) (w : World) (hnl : l.length = nv) (hnm : m.length = nu) (hl : RdB w w.heap.size V l) (hl1 : nv ≤ cv) (hl2 : cv ≤ 9223372036854775807) (hm : RdB w w.heap.size U m) (hm1 : nu ≤ cu) (hm2 : cu ≤ 9223372036854775807)
    (hlb : ∀ (k : Nat) (x : Int), l[k]? = some x → 0 ≤ x ∧ x ≤ 255) (hmb : ∀ (k : Nat) (x : Int), m[k]? = some x → 0 ≤ x ∧ x ≤ 255) (q0 : 0 ≤ q) (q1 : q ≤ 255) (r0 : 0 ≤ r) (r1 : r ≤ 255) :
    Calls Try.prog 11 #[.slice V nv cv, .slice U nu cu, .agg #[.int .u8 p, .int .u8 q, .int .u8 r]] w fun e w' => e = .returned (.bool true) ∧ Below w.heap.size w w' := by
  subst hnl hnm
  have HLB := Lib.hid hlb; clear hlb
  have HMB := Lib.hid hmb; clear hmb
  go_enter Try.func11, Try.ntmps11
  go_wp2_with fail
  refine (known_any _).mono ?_
  rintro e w1 ⟨rfl, B⟩
  go_wp2_with fail
  have F := below_first B
  refine (law_Word V cv 7 l _ ((RdV.below hl F).more F.size) (by omega) (HLB.out) (by omega)).mono ?_
  rintro e w2 ⟨Ax, kx, rfl, x1, x2, rx, b⟩
  have B2 := B.trans (b.mono B.size)
  replace F := F.trans (b.mono F.size); clear b
  go_wp2_with fail
  refine (law_Word U cu 7 m _ ((RdV.below hm F).more F.size) (by omega) (HMB.out) (by omega)).mono ?_
  rintro e w3 ⟨Ay, ky, rfl, y1, y2, ry, b⟩
  have B3 := B2.trans (b.mono B2.size)
  replace rx := (rx.below b).more b.size; replace F := F.trans (b.mono F.size); clear b
  have nx := wordB_le l 7
  have ny := wordB_le m 7
  generalize wordB l 7 = x at *
  generalize wordB m 7 = y at *
  generalize hxl : x.length = nx' at *
  generalize hyl : y.length = ny' at *
  have HXL := Lib.hid hxl; clear hxl
  have HYL := Lib.hid hyl; clear hyl
  clear B B2
  have z3 := F.size
  go_wp2
  go_loopw [9, 10, 11, 12] (fun s9 s10 s11 s12 wr => ∃ (i k : Nat) (acc : List Int), i ≤ nx' ∧ k ≤ ny' ∧ s10 = .int .i64 i ∧ s11 = .int .i64 k ∧ s12 = .int .i64 ((i + k : Nat) : Int) ∧ Hid (acc.length = i + k) ∧ Hid (wr.ownsRow w3.heap.size 3 1 s9 (i + k) (iv acc)) ∧ Hid (Shuf acc (x.take i) (y.take k)) ∧ Below w3.heap.size w3 wr) (fun _ _ _ s12 _ => nx' + ny' - (intOf s12).toNat)
  case atStart => exact ⟨0, 0, [], Nat.zero_le _, Nat.zero_le _, rfl, rfl, rfl, Lib.hid rfl, World.ownsRow_nil _ _ _ _, Shuf.nil, Below.refl _ _⟩
  case round =>
    obtain ⟨i, k, acc, hi, hk, rfl, rfl, rfl, HL, HO, HS, hbel⟩ := hrel
    have hsz := hbel.size
    have c1 : (i : Int) ≤ 7 := by omega
    have c2 : (k : Int) ≤ 7 := by omega
    have nx7 : nx' ≤ 7 := nx
    have ny7 : ny' ≤ 7 := ny
    by_cases h1 : i < nx'
    · obtain ⟨ad, u, rfl, _, hu, hcu⟩ := (rx.below hbel).at_ (k := i) (by have := HXL.out; omega)
      have HU := Lib.hid hu; clear hu
      have b1 : (i : Int) < (nx' : Int) := by omega
      by_cases h2 : k < ny'
      · obtain ⟨bd, v, rfl, _, hv, hcv⟩ := (ry.below hbel).at_ (k := k) (by have := HYL.out; omega)
        have HV := Lib.hid hv; clear hv
        have b2 : (k : Int) < (ny' : Int) := by omega
        have b3 : ((k : Int) == (ny' : Int)) = false := by rw [beq_eq_false_iff_ne]; omega
        obtain ⟨g0, g1, g2⟩ := box3i (B3.trans (hbel.mono B3.size))
        cases hbit : (bits BinOp.and IntKind.u8 (p / 2 ^ ((i + k) % 8)) 1 == 1) with
        | true =>
          go_wp2_with (at_builtin; refine wpList_push wr (.int .i64 u) rfl (.tmp 53) (.tmp 58) 22 rfl w3.heap.size 3 (.int .i64 0) 8 Try.underlying22 int_info rfl u9 (i + k) _ rfl HO.out rfl rfl (by omega) (by omega) hsz ?_; intro v' w' ho' hg' hb1)
          go_roundw
          case rel => exact ⟨i + 1, k, acc ++ [u], by omega, by omega, by first | rfl | go_num | exact int_eq (by omega), by first | rfl | go_num, int_eq (by omega), Lib.hid (by rw [List.length_append, HL.out]; simp; omega), Lib.hid (by rw [iv_append, show i + 1 + k = i + k + 1 by omega]; exact ho'), Lib.hid (shuf_snoc_a HS.out HU.out), Below.trans hbel (by exact hb1)⟩
          case measure => simp [intOf]; omega
        | false =>
          go_wp2_with (at_builtin; refine wpList_push wr (.int .i64 v) rfl (.tmp 62) (.tmp 67) 22 rfl w3.heap.size 3 (.int .i64 0) 8 Try.underlying22 int_info rfl u9 (i + k) _ rfl HO.out rfl rfl (by omega) (by omega) hsz ?_; intro v' w' ho' hg' hb1)
          go_roundw
          case rel => exact ⟨i, k + 1, acc ++ [v], by omega, by omega, by first | rfl | go_num, by first | rfl | go_num | exact int_eq (by omega), int_eq (by omega), Lib.hid (by rw [List.length_append, HL.out]; simp; omega), Lib.hid (by rw [iv_append, show i + (k + 1) = i + k + 1 by omega]; exact ho'), Lib.hid (shuf_snoc_b HS.out HV.out), Below.trans hbel (by exact hb1)⟩
          case measure => simp [intOf]; omega
      · obtain rfl : k = ny' := by omega
        go_wp2_with (at_builtin; refine wpList_push wr (.int .i64 u) rfl (.tmp 53) (.tmp 58) 22 rfl w3.heap.size 3 (.int .i64 0) 8 Try.underlying22 int_info rfl u9 (i + k) _ rfl HO.out rfl rfl (by omega) (by omega) hsz ?_; intro v' w' ho' hg' hb1)
        go_roundw
        case rel => exact ⟨i + 1, k, acc ++ [u], by omega, by omega, by first | rfl | go_num | exact int_eq (by omega), by first | rfl | go_num, int_eq (by omega), Lib.hid (by rw [List.length_append, HL.out]; simp; omega), Lib.hid (by rw [iv_append, show i + 1 + k = i + k + 1 by omega]; exact ho'), Lib.hid (shuf_snoc_a HS.out HU.out), Below.trans hbel (by exact hb1)⟩
        case measure => simp [intOf]; omega
    · obtain rfl : i = nx' := by omega
      by_cases h2 : k < ny'
      · obtain ⟨bd, v, rfl, _, hv, hcv⟩ := (ry.below hbel).at_ (k := k) (by have := HYL.out; omega)
        have HV := Lib.hid hv; clear hv
        have b2 : (k : Int) < (ny' : Int) := by omega
        have b3 : ((k : Int) == (ny' : Int)) = false := by rw [beq_eq_false_iff_ne]; omega
        go_wp2_with (at_builtin; refine wpList_push wr (.int .i64 v) rfl (.tmp 62) (.tmp 67) 22 rfl w3.heap.size 3 (.int .i64 0) 8 Try.underlying22 int_info rfl u9 (i + k) _ rfl HO.out rfl rfl (by omega) (by omega) hsz ?_; intro v' w' ho' hg' hb1)
        go_roundw
        case rel => exact ⟨i, k + 1, acc ++ [v], by omega, by omega, by first | rfl | go_num, by first | rfl | go_num | exact int_eq (by omega), int_eq (by omega), Lib.hid (by rw [List.length_append, HL.out]; simp; omega), Lib.hid (by rw [iv_append, show i + (k + 1) = i + k + 1 by omega]; exact ho'), Lib.hid (shuf_snoc_b HS.out HV.out), Below.trans hbel (by exact hb1)⟩
        case measure => simp [intOf]; omega
      · obtain rfl : k = ny' := by omega
        have hS := HS.out
        rw [← HXL.out, List.take_length, ← HYL.out, List.take_length] at hS
        have HS1 := Lib.hid (shB_iff.2 hS)
        have HS2 := Lib.hid (shB_iff.2 hS.swap)
        clear HS hS
        have G := hbel
        obtain ⟨g0, g1, g2⟩ := box3i (B3.trans (G.mono B3.size))
        by_cases hN : i + k = 0
        · obtain ⟨A0, c0, rfl, cap1, cap2, rr⟩ := own_slN HO.out HL.out
          have hz1 : decide (0 < i + k) = false := by rw [decide_eq_false_iff_not]; omega
          have hz2 : decide ((0 : Int) < (i : Int) + (k : Int)) = false := by rw [decide_eq_false_iff_not]; omega
          clear hN
          go_wp2_with fail
          refine (word_IsShuffle A0 Ax Ay (i + k) i k c0 kx ky acc x y true _ HL.out HXL.out HYL.out HS1.out rr cap1 cap2 ((rx.below G).more G.size) (by omega) ((ry.below G).more G.size) (by omega)).mono ?_
          rintro e w4 ⟨rfl, b⟩
          replace rr := (rr.below b).more b.size
          replace G := G.trans (b.mono G.size)
          clear b g0 g1 g2 HO hbel hsz
          go_wp2_with fail
          refine (word_IsShuffle A0 Ay Ax (i + k) k i c0 ky kx acc y x true _ HL.out HYL.out HXL.out HS2.out rr cap1 cap2 ((ry.below G).more G.size) (by omega) ((rx.below G).more G.size) (by omega)).mono ?_
          rintro e w6 ⟨rfl, b⟩
          have r6 := (rr.below b).more b.size
          have G6 := G.trans (b.mono G.size)
          clear b rr G
          have HL6 := HL
          go_wp2
          have z6 := G6.size
          have rx6 := (rx.below G6).more z6
          have ry6 := (ry.below G6).more z6
          have F6 := F.trans (G6.mono z3)
          clear G6
          obtain ⟨mu, hmu, mu1, mu2⟩ : ∃ mu : Nat, (if (7 : Int) < (m.length : Int) then (7 : Int) else (m.length : Int)) = (mu : Int) ∧ mu ≤ m.length ∧ mu ≤ 7 := by
            by_cases h : 7 < m.length
            · exact ⟨7, by rw [if_pos (by omega)]; rfl, by omega, by omega⟩
            · exact ⟨m.length, by rw [if_neg (by omega)], by omega, by omega⟩
          obtain ⟨mv, hmv, mv1, mv2⟩ : ∃ mv : Nat, (if (7 : Int) < (l.length : Int) then (7 : Int) else (l.length : Int)) = (mv : Int) ∧ mv ≤ l.length ∧ mv ≤ 7 := by
            by_cases h : 7 < l.length
            · exact ⟨7, by rw [if_pos (by omega)]; rfl, by omega, by omega⟩
            · exact ⟨l.length, by rw [if_neg (by omega)], by omega, by omega⟩
          have mu3 : mu ≤ cu := by omega
          have mv3 : mv ≤ cv := by omega
          have lmu : (bv (m.take mu)).length = mu := by unfold bv; rw [List.length_map, List.length_take]; omega
          have lmv : (bv (l.take mv)).length = mv := by unfold bv; rw [List.length_map, List.length_take]; omega
          have lany : (m.take mu ++ l.take mv).length = mu + mv := by rw [List.length_append, List.length_take, List.length_take]; omega
          have bany : ∀ (k : Nat) (x : Int), (m.take mu ++ l.take mv)[k]? = some x → 0 ≤ x ∧ x ≤ 255 := fun k x hk => by
            rcases List.mem_append.1 (List.mem_of_getElem? hk) with h | h
            · obtain ⟨j, hj⟩ := List.getElem?_of_mem (List.mem_of_mem_take h); exact HMB.out j x hj
            · obtain ⟨j, hj⟩ := List.getElem?_of_mem (List.mem_of_mem_take h); exact HLB.out j x hj
          have LMU := Lib.hid lmu; clear lmu
          have LMV := Lib.hid lmv; clear lmv
          have HMU := Lib.hid hmu; clear hmu
          have HMV := Lib.hid hmv; clear hmv
          have HANY := Lib.hid lany; clear lany
          have BANY := Lib.hid bany; clear bany
          have hl6' := ((RdV.below hl F6).more F6.size)
          have hm6' := ((RdV.below hm F6).more F6.size)
          go_wp2
          go_region_held3 (fun _ => True) (trivial) (first
            | (refine step_app _ (by rfl) (.tmp 112) (.tmp 117) 27 (by rfl) w6.heap.size 5 (.int .u8 0) 1 Try.underlying27 u8_info (by rfl) (.slice (some ⟨w6.heap.size, 0, none⟩) 0 0) 0 [] (by rfl) ?_ w6.heap.size U (mu) cu (bv (m.take (mu))) LMU.out (by rfl) ?_ (bv_one _) (by omega) (by omega) ?_ ?_; exact World.ownsRow_lit w6 #[] 0 (Nat.le_refl _) (by unfold maxLen; omega) rfl; exact RdV.alloc (RdB.take hm6' (mu)) (Nat.le_refl _) _; exact alloc_le (w := w6) (.cells #[] 5) (Nat.le_refl _); intro v7 w7 ho7 hb7; replace hb7 : Below w6.heap.size w6 w7 := ((Below.refl _ _).alloc (Nat.le_refl _) _).trans ⟨hb7.os, hb7.tape, hb7.output, hb7.size, hb7.block⟩; have HO7 := Lib.hid ho7; clear ho7)
            | (refine step_min _ (by rfl) (.tmp 115) _ _ (by rfl) .i64 .i64 (m.length : Int) 7 (by rfl) (by rfl) (mu : Int) HMU.out ?_)
            | (refine step_min _ (by rfl) (.tmp 121) _ _ (by rfl) .i64 .i64 (l.length : Int) 7 (by rfl) (by rfl) (mv : Int) HMV.out ?_)
            | (refine step_app _ (by rfl) (.tmp 118) (.tmp 123) 27 (by rfl) w6.heap.size 5 (.int .u8 0) 1 Try.underlying27 u8_info (by rfl) v7 (0 + mu) _ (by rfl) HO7.out w6.heap.size V (mv) cv (bv (l.take (mv))) LMV.out (by rfl) ?_ (bv_one _) (by omega) (by omega) ?_ ?_; exact RdV.below (RdB.take hl6' (mv)) hb7; exact hb7.size; intro v8 w8 ho8 hb8; replace hb8 : Below w6.heap.size w6 w8 := hb7.trans ⟨hb8.os, hb8.tape, hb8.output, hb8.size, hb8.block⟩; obtain ⟨A8, c8, rfl, k81, k82, r8⟩ := any_shape ho8; have z8 := hb8.size)
            | (go_at_call 17; (with_reducible refine (law_Word_14 A8 c8 (mu + mv) _ _ HANY.out ?_ ?_ ?_).mono ?_); exact r8; omega; exact BANY.out; rintro e w9 ⟨an, na9, A9, c9, rfl, hlan, k91, k92, r9, b9⟩; have HAN := Lib.hid hlan; clear hlan; replace b9 : Below w8.heap.size w8 w9 := ⟨b9.os, b9.tape, b9.output, b9.size, b9.block⟩; have G9 := hb8.trans (b9.mono z8); have z9 := G9.size)
            | fail)
          all_goals
            have rw9 := (r6.below G9).more G9.size
            have rx9 := (rx6.below G9).more G9.size
            have ry9 := (ry6.below G9).more G9.size
            have F9 := F6.trans (G9.mono F6.size)
            clear G9 r6 rx6 ry6 F6 r8 z8 hb8 hb7
            go_wp2_with fail
            refine (word_IsShuffle A0 Ax Ay (i + k) i k c0 kx ky acc x y (shB acc x y) _ HL6.out HXL.out HYL.out rfl (by exact rw9) cap1 cap2 (by exact rx9) (by omega) (by exact ry9) (by omega)).mono ?_
            rintro e wa ⟨rfl, b⟩
            replace b : Below w9.heap.size w9 wa := ⟨b.os, b.tape, b.output, b.size, b.block⟩
            replace rw9 := (rw9.below b).more b.size; replace rx9 := (rx9.below b).more b.size; replace ry9 := (ry9.below b).more b.size; replace r9 := (r9.below b).more b.size; replace F9 := F9.trans (b.mono F9.size); clear b
            go_wp2_with fail
            refine (ref_IsShuffle (i + k) A0 Ax Ay (i + k) i k c0 kx ky acc x y (shB acc x y) _ HL6.out HXL.out HYL.out (Nat.le_refl _) rfl (by exact rw9) cap1 cap2 (by exact rx9) x1 x2 (by omega) (by exact ry9) y1 y2 (by omega)).mono ?_
            rintro e wb ⟨rfl, hd⟩
            have b : Below wa.heap.size wa wb := by obtain ⟨n, rfl⟩ := hd; exact below_drewN (Below.refl _ _) _
            replace rx9 := (rx9.below b).more b.size; replace ry9 := (ry9.below b).more b.size; replace r9 := (r9.below b).more b.size; replace F9 := F9.trans (b.mono F9.size); clear b
            clear hd rw9
            go_wp2_with fail
            refine (word_IsShuffle A9 Ax Ay na9 i k c9 kx ky an x y (shB an x y) _ HAN.out HXL.out HYL.out rfl (by exact r9) k91 k92 (by exact rx9) (by omega) (by exact ry9) (by omega)).mono ?_
            rintro e wc ⟨rfl, b⟩
            replace rx9 := (rx9.below b).more b.size; replace ry9 := (ry9.below b).more b.size; replace r9 := (r9.below b).more b.size; replace F9 := F9.trans (b.mono F9.size); clear b
            go_wp2_with fail
            refine (ref_IsShuffle na9 A9 Ax Ay na9 i k c9 kx ky an x y (shB an x y) _ HAN.out HXL.out HYL.out (Nat.le_refl _) rfl (by exact r9) k91 k92 (by exact rx9) x1 x2 (by omega) (by exact ry9) y1 y2 (by omega)).mono ?_
            rintro e wd ⟨rfl, n, rfl⟩
            go_wp2
            go_ret
            exact ⟨rfl, below_drewN F9 _⟩
        · obtain ⟨g, cap, rfl, hgb, hgl⟩ := HO.out.form (by omega)
          obtain ⟨cap1, cap2⟩ := own_cap HO.out
          have hN' : 0 < i + k := by omega
          go_wp2_with fail
          refine (word_IsShuffle (some ⟨g, 0, none⟩) Ax Ay (i + k) i k cap kx ky acc x y true _ HL.out HXL.out HYL.out HS1.out (RdV.of_own HO.out) cap1 cap2 ((rx.below G).more G.size) (by omega) ((ry.below G).more G.size) (by omega)).mono ?_
          rintro e w4 ⟨rfl, b⟩
          have HO1 := Lib.hid (own_below HO.out b)
          replace G := G.trans (b.mono G.size)
          clear b g0 g1 g2 HO hbel hsz
          obtain ⟨g0, g1, g2⟩ := box3i (B3.trans (G.mono B3.size))
          go_wp2_with fail
          refine (word_IsShuffle (some ⟨g, 0, none⟩) Ay Ax (i + k) k i cap ky kx acc y x true _ HL.out HYL.out HXL.out HS2.out (RdV.of_own HO1.out) cap1 cap2 ((ry.below G).more G.size) (by omega) ((rx.below G).more G.size) (by omega)).mono ?_
          rintro e w5 ⟨rfl, b⟩
          have HO2 := Lib.hid (own_below HO1.out b)
          replace G := G.trans (b.mono G.size)
          clear b g0 g1 g2 HO1
          obtain ⟨g0, g1, g2⟩ := box3i (B3.trans (G.mono B3.size))
          have hN14 : i + k ≤ 14 := by omega
          generalize hNN : i + k = N at *
          have HNN := Lib.hid hNN; clear hNN
          have n0 : (0 : Int) < (N : Int) := by omega
          have n1 : (N : Int) ≤ 14 := by omega
          obtain ⟨a, ha, haN⟩ : ∃ a : Nat, q % (N : Int) = (a : Int) ∧ a < N := ⟨(q % (N : Int)).toNat, by have := Int.emod_nonneg q (b := (N : Int)) (by omega); omega, by have := Int.emod_lt_of_pos q n0; have := Int.emod_nonneg q (b := (N : Int)) (by omega); omega⟩
          obtain ⟨b, hb, hbN⟩ : ∃ b : Nat, r % (N : Int) = (b : Int) ∧ b < N := ⟨(r % (N : Int)).toNat, by have := Int.emod_nonneg r (b := (N : Int)) (by omega); omega, by have := Int.emod_lt_of_pos r n0; have := Int.emod_nonneg r (b := (N : Int)) (by omega); omega⟩
          have a1 : (a : Int) < (N : Int) := by omega
          have b1 : (b : Int) < (N : Int) := by omega
          have a2 : (0 : Int) ≤ (a : Int) := by omega
          have b2 : (0 : Int) ≤ (b : Int) := by omega
          go_wp2
          go_quiet (fail)
          obtain ⟨ua, hua⟩ : ∃ ua, acc[a]? = some ua := ⟨_, List.getElem?_eq_getElem (by have := HL.out; omega)⟩
          obtain ⟨ub, hub⟩ : ∃ ub, acc[b]? = some ub := ⟨_, List.getElem?_eq_getElem (by have := HL.out; omega)⟩
          have hca := HO2.out.cellAt a (by omega)
          have hcb := HO2.out.cellAt b (by omega)
          rw [iv_get, hua] at hca
          rw [iv_get, hub] at hcb
          have hfa := HO2.out.frozenAt a
          have hfb := HO2.out.frozenAt b
          simp only [Option.map_some] at hca hcb
          by_cases hab : a = b
          · subst hab
            go_wp2
            go_region
            go_wp2
            have ho6 : (((w5.drewN (nq + 1)).setCell ⟨g, a, none⟩ (.int .i64 ua)).setCell ⟨g, a, none⟩ (.int .i64 ua)).ownsRow w3.heap.size 3 1 (.slice (some ⟨g, 0, none⟩) N cap) N (((iv acc).set a (.int .i64 ua)).set a (.int .i64 ua)) := ((HO2.out.stored a (.int .i64 ua)).1.stored a (.int .i64 ua)).1
            have G6 := ((below_drewN G (nq + 1)).setCell (p := ⟨g, a, none⟩) hgb (.int .i64 ua)).setCell (p := ⟨g, a, none⟩) hgb (.int .i64 ua)
            have hiv : ((iv acc).set a (.int .i64 ua)).set a (.int .i64 ua) = iv ((acc.set a ua).set a ua) := by simp [iv, List.map_set]
            rw [hiv] at ho6
            have hl6 : ((acc.set a ua).set a ua).length = N := by rw [List.length_set, List.length_set]; exact HL.out
            generalize (acc.set a ua).set a ua = acc6 at ho6 hl6
            generalize ((w5.drewN (nq + 1)).setCell ⟨g, a, none⟩ (.int .i64 ua)).setCell ⟨g, a, none⟩ (.int .i64 ua) = w6 at *
            have r6 : RdI w6 w6.heap.size (some ⟨g, 0, none⟩) acc6 := RdV.of_own ho6
            have HL6 := Lib.hid hl6
            clear ho6 hiv hl6 HO2 hua hub hca hcb hfa hfb
            have z6 := G6.size
            have rx6 := (rx.below G6).more z6
            have ry6 := (ry.below G6).more z6
            have F6 := F.trans (G6.mono z3)
            clear G6
            obtain ⟨mu, hmu, mu1, mu2⟩ : ∃ mu : Nat, (if (7 : Int) < (m.length : Int) then (7 : Int) else (m.length : Int)) = (mu : Int) ∧ mu ≤ m.length ∧ mu ≤ 7 := by
              by_cases h : 7 < m.length
              · exact ⟨7, by rw [if_pos (by omega)]; rfl, by omega, by omega⟩
              · exact ⟨m.length, by rw [if_neg (by omega)], by omega, by omega⟩
            obtain ⟨mv, hmv, mv1, mv2⟩ : ∃ mv : Nat, (if (7 : Int) < (l.length : Int) then (7 : Int) else (l.length : Int)) = (mv : Int) ∧ mv ≤ l.length ∧ mv ≤ 7 := by
              by_cases h : 7 < l.length
              · exact ⟨7, by rw [if_pos (by omega)]; rfl, by omega, by omega⟩
              · exact ⟨l.length, by rw [if_neg (by omega)], by omega, by omega⟩
            have mu3 : mu ≤ cu := by omega
            have mv3 : mv ≤ cv := by omega
            have lmu : (bv (m.take mu)).length = mu := by unfold bv; rw [List.length_map, List.length_take]; omega
            have lmv : (bv (l.take mv)).length = mv := by unfold bv; rw [List.length_map, List.length_take]; omega
            have lany : (m.take mu ++ l.take mv).length = mu + mv := by rw [List.length_append, List.length_take, List.length_take]; omega
            have bany : ∀ (k : Nat) (x : Int), (m.take mu ++ l.take mv)[k]? = some x → 0 ≤ x ∧ x ≤ 255 := fun k x hk => by
              rcases List.mem_append.1 (List.mem_of_getElem? hk) with h | h
              · obtain ⟨j, hj⟩ := List.getElem?_of_mem (List.mem_of_mem_take h); exact HMB.out j x hj
              · obtain ⟨j, hj⟩ := List.getElem?_of_mem (List.mem_of_mem_take h); exact HLB.out j x hj
            have LMU := Lib.hid lmu; clear lmu
            have LMV := Lib.hid lmv; clear lmv
            have HMU := Lib.hid hmu; clear hmu
            have HMV := Lib.hid hmv; clear hmv
            have HANY := Lib.hid lany; clear lany
            have BANY := Lib.hid bany; clear bany
            have hl6' := ((RdV.below hl F6).more F6.size)
            have hm6' := ((RdV.below hm F6).more F6.size)
            go_wp2
            go_region_held3 (fun _ => True) (trivial) (first
              | (refine step_app _ (by rfl) (.tmp 112) (.tmp 117) 27 (by rfl) w6.heap.size 5 (.int .u8 0) 1 Try.underlying27 u8_info (by rfl) (.slice (some ⟨w6.heap.size, 0, none⟩) 0 0) 0 [] (by rfl) ?_ w6.heap.size U (mu) cu (bv (m.take (mu))) LMU.out (by rfl) ?_ (bv_one _) (by omega) (by omega) ?_ ?_; exact World.ownsRow_lit w6 #[] 0 (Nat.le_refl _) (by unfold maxLen; omega) rfl; exact RdV.alloc (RdB.take hm6' (mu)) (Nat.le_refl _) _; exact alloc_le (w := w6) (.cells #[] 5) (Nat.le_refl _); intro v7 w7 ho7 hb7; replace hb7 : Below w6.heap.size w6 w7 := ((Below.refl _ _).alloc (Nat.le_refl _) _).trans ⟨hb7.os, hb7.tape, hb7.output, hb7.size, hb7.block⟩; have HO7 := Lib.hid ho7; clear ho7)
              | (refine step_min _ (by rfl) (.tmp 115) _ _ (by rfl) .i64 .i64 (m.length : Int) 7 (by rfl) (by rfl) (mu : Int) HMU.out ?_)
              | (refine step_min _ (by rfl) (.tmp 121) _ _ (by rfl) .i64 .i64 (l.length : Int) 7 (by rfl) (by rfl) (mv : Int) HMV.out ?_)
              | (refine step_app _ (by rfl) (.tmp 118) (.tmp 123) 27 (by rfl) w6.heap.size 5 (.int .u8 0) 1 Try.underlying27 u8_info (by rfl) v7 (0 + mu) _ (by rfl) HO7.out w6.heap.size V (mv) cv (bv (l.take (mv))) LMV.out (by rfl) ?_ (bv_one _) (by omega) (by omega) ?_ ?_; exact RdV.below (RdB.take hl6' (mv)) hb7; exact hb7.size; intro v8 w8 ho8 hb8; replace hb8 : Below w6.heap.size w6 w8 := hb7.trans ⟨hb8.os, hb8.tape, hb8.output, hb8.size, hb8.block⟩; obtain ⟨A8, c8, rfl, k81, k82, r8⟩ := any_shape ho8; have z8 := hb8.size)
              | (go_at_call 17; (with_reducible refine (law_Word_14 A8 c8 (mu + mv) _ _ HANY.out ?_ ?_ ?_).mono ?_); exact r8; omega; exact BANY.out; rintro e w9 ⟨an, na9, A9, c9, rfl, hlan, k91, k92, r9, b9⟩; have HAN := Lib.hid hlan; clear hlan; replace b9 : Below w8.heap.size w8 w9 := ⟨b9.os, b9.tape, b9.output, b9.size, b9.block⟩; have G9 := hb8.trans (b9.mono z8); have z9 := G9.size)
              | fail)
            all_goals
              have rw9 := (r6.below G9).more G9.size
              have rx9 := (rx6.below G9).more G9.size
              have ry9 := (ry6.below G9).more G9.size
              have F9 := F6.trans (G9.mono F6.size)
              clear G9 r6 rx6 ry6 F6 r8 z8 hb8 hb7
              go_wp2_with fail
              refine (word_IsShuffle (some ⟨g, 0, none⟩) Ax Ay N i k cap kx ky acc6 x y (shB acc6 x y) _ HL6.out HXL.out HYL.out rfl (by exact rw9) cap1 cap2 (by exact rx9) (by omega) (by exact ry9) (by omega)).mono ?_
              rintro e wa ⟨rfl, b⟩
              replace b : Below w9.heap.size w9 wa := ⟨b.os, b.tape, b.output, b.size, b.block⟩
              replace rw9 := (rw9.below b).more b.size; replace rx9 := (rx9.below b).more b.size; replace ry9 := (ry9.below b).more b.size; replace r9 := (r9.below b).more b.size; replace F9 := F9.trans (b.mono F9.size); clear b
              go_wp2_with fail
              refine (ref_IsShuffle N (some ⟨g, 0, none⟩) Ax Ay N i k cap kx ky acc6 x y (shB acc6 x y) _ HL6.out HXL.out HYL.out (Nat.le_refl _) rfl (by exact rw9) cap1 cap2 (by exact rx9) x1 x2 (by omega) (by exact ry9) y1 y2 (by omega)).mono ?_
              rintro e wb ⟨rfl, hd⟩
              have b : Below wa.heap.size wa wb := by obtain ⟨n, rfl⟩ := hd; exact below_drewN (Below.refl _ _) _
              replace rx9 := (rx9.below b).more b.size; replace ry9 := (ry9.below b).more b.size; replace r9 := (r9.below b).more b.size; replace F9 := F9.trans (b.mono F9.size); clear b
              clear hd rw9
              go_wp2_with fail
              refine (word_IsShuffle A9 Ax Ay na9 i k c9 kx ky an x y (shB an x y) _ HAN.out HXL.out HYL.out rfl (by exact r9) k91 k92 (by exact rx9) (by omega) (by exact ry9) (by omega)).mono ?_
              rintro e wc ⟨rfl, b⟩
              replace rx9 := (rx9.below b).more b.size; replace ry9 := (ry9.below b).more b.size; replace r9 := (r9.below b).more b.size; replace F9 := F9.trans (b.mono F9.size); clear b
              go_wp2_with fail
              refine (ref_IsShuffle na9 A9 Ax Ay na9 i k c9 kx ky an x y (shB an x y) _ HAN.out HXL.out HYL.out (Nat.le_refl _) rfl (by exact r9) k91 k92 (by exact rx9) x1 x2 (by omega) (by exact ry9) y1 y2 (by omega)).mono ?_
              rintro e wd ⟨rfl, n, rfl⟩
              go_wp2
              go_ret
              exact ⟨rfl, below_drewN F9 _⟩
          · go_wp2
            go_region
            go_wp2
            have ho6 : (((w5.drewN (nq + 1)).setCell ⟨g, a, none⟩ (.int .i64 ub)).setCell ⟨g, b, none⟩ (.int .i64 ua)).ownsRow w3.heap.size 3 1 (.slice (some ⟨g, 0, none⟩) N cap) N (((iv acc).set a (.int .i64 ub)).set b (.int .i64 ua)) := ((HO2.out.stored a (.int .i64 ub)).1.stored b (.int .i64 ua)).1
            have G6 := ((below_drewN G (nq + 1)).setCell (p := ⟨g, a, none⟩) hgb (.int .i64 ub)).setCell (p := ⟨g, b, none⟩) hgb (.int .i64 ua)
            have hiv : ((iv acc).set a (.int .i64 ub)).set b (.int .i64 ua) = iv ((acc.set a ub).set b ua) := by simp [iv, List.map_set]
            rw [hiv] at ho6
            have hl6 : ((acc.set a ub).set b ua).length = N := by rw [List.length_set, List.length_set]; exact HL.out
            generalize (acc.set a ub).set b ua = acc6 at ho6 hl6
            generalize ((w5.drewN (nq + 1)).setCell ⟨g, a, none⟩ (.int .i64 ub)).setCell ⟨g, b, none⟩ (.int .i64 ua) = w6 at *
            have r6 : RdI w6 w6.heap.size (some ⟨g, 0, none⟩) acc6 := RdV.of_own ho6
            have HL6 := Lib.hid hl6
            clear ho6 hiv hl6 HO2 hua hub hca hcb hfa hfb
            have z6 := G6.size
            have rx6 := (rx.below G6).more z6
            have ry6 := (ry.below G6).more z6
            have F6 := F.trans (G6.mono z3)
            clear G6
            obtain ⟨mu, hmu, mu1, mu2⟩ : ∃ mu : Nat, (if (7 : Int) < (m.length : Int) then (7 : Int) else (m.length : Int)) = (mu : Int) ∧ mu ≤ m.length ∧ mu ≤ 7 := by
              by_cases h : 7 < m.length
              · exact ⟨7, by rw [if_pos (by omega)]; rfl, by omega, by omega⟩
              · exact ⟨m.length, by rw [if_neg (by omega)], by omega, by omega⟩
            obtain ⟨mv, hmv, mv1, mv2⟩ : ∃ mv : Nat, (if (7 : Int) < (l.length : Int) then (7 : Int) else (l.length : Int)) = (mv : Int) ∧ mv ≤ l.length ∧ mv ≤ 7 := by
              by_cases h : 7 < l.length
              · exact ⟨7, by rw [if_pos (by omega)]; rfl, by omega, by omega⟩
              · exact ⟨l.length, by rw [if_neg (by omega)], by omega, by omega⟩
            have mu3 : mu ≤ cu := by omega
            have mv3 : mv ≤ cv := by omega
            have lmu : (bv (m.take mu)).length = mu := by unfold bv; rw [List.length_map, List.length_take]; omega
            have lmv : (bv (l.take mv)).length = mv := by unfold bv; rw [List.length_map, List.length_take]; omega
            have lany : (m.take mu ++ l.take mv).length = mu + mv := by rw [List.length_append, List.length_take, List.length_take]; omega
            have bany : ∀ (k : Nat) (x : Int), (m.take mu ++ l.take mv)[k]? = some x → 0 ≤ x ∧ x ≤ 255 := fun k x hk => by
              rcases List.mem_append.1 (List.mem_of_getElem? hk) with h | h
              · obtain ⟨j, hj⟩ := List.getElem?_of_mem (List.mem_of_mem_take h); exact HMB.out j x hj
              · obtain ⟨j, hj⟩ := List.getElem?_of_mem (List.mem_of_mem_take h); exact HLB.out j x hj
            have LMU := Lib.hid lmu; clear lmu
            have LMV := Lib.hid lmv; clear lmv
            have HMU := Lib.hid hmu; clear hmu
            have HMV := Lib.hid hmv; clear hmv
            have HANY := Lib.hid lany; clear lany
            have BANY := Lib.hid bany; clear bany
            have hl6' := ((RdV.below hl F6).more F6.size)
            have hm6' := ((RdV.below hm F6).more F6.size)
            go_wp2
            go_region_held3 (fun _ => True) (trivial) (first
              | (refine step_app _ (by rfl) (.tmp 112) (.tmp 117) 27 (by rfl) w6.heap.size 5 (.int .u8 0) 1 Try.underlying27 u8_info (by rfl) (.slice (some ⟨w6.heap.size, 0, none⟩) 0 0) 0 [] (by rfl) ?_ w6.heap.size U (mu) cu (bv (m.take (mu))) LMU.out (by rfl) ?_ (bv_one _) (by omega) (by omega) ?_ ?_; exact World.ownsRow_lit w6 #[] 0 (Nat.le_refl _) (by unfold maxLen; omega) rfl; exact RdV.alloc (RdB.take hm6' (mu)) (Nat.le_refl _) _; exact alloc_le (w := w6) (.cells #[] 5) (Nat.le_refl _); intro v7 w7 ho7 hb7; replace hb7 : Below w6.heap.size w6 w7 := ((Below.refl _ _).alloc (Nat.le_refl _) _).trans ⟨hb7.os, hb7.tape, hb7.output, hb7.size, hb7.block⟩; have HO7 := Lib.hid ho7; clear ho7)
              | (refine step_min _ (by rfl) (.tmp 115) _ _ (by rfl) .i64 .i64 (m.length : Int) 7 (by rfl) (by rfl) (mu : Int) HMU.out ?_)
              | (refine step_min _ (by rfl) (.tmp 121) _ _ (by rfl) .i64 .i64 (l.length : Int) 7 (by rfl) (by rfl) (mv : Int) HMV.out ?_)
              | (refine step_app _ (by rfl) (.tmp 118) (.tmp 123) 27 (by rfl) w6.heap.size 5 (.int .u8 0) 1 Try.underlying27 u8_info (by rfl) v7 (0 + mu) _ (by rfl) HO7.out w6.heap.size V (mv) cv (bv (l.take (mv))) LMV.out (by rfl) ?_ (bv_one _) (by omega) (by omega) ?_ ?_; exact RdV.below (RdB.take hl6' (mv)) hb7; exact hb7.size; intro v8 w8 ho8 hb8; replace hb8 : Below w6.heap.size w6 w8 := hb7.trans ⟨hb8.os, hb8.tape, hb8.output, hb8.size, hb8.block⟩; obtain ⟨A8, c8, rfl, k81, k82, r8⟩ := any_shape ho8; have z8 := hb8.size)
              | (go_at_call 17; (with_reducible refine (law_Word_14 A8 c8 (mu + mv) _ _ HANY.out ?_ ?_ ?_).mono ?_); exact r8; omega; exact BANY.out; rintro e w9 ⟨an, na9, A9, c9, rfl, hlan, k91, k92, r9, b9⟩; have HAN := Lib.hid hlan; clear hlan; replace b9 : Below w8.heap.size w8 w9 := ⟨b9.os, b9.tape, b9.output, b9.size, b9.block⟩; have G9 := hb8.trans (b9.mono z8); have z9 := G9.size)
              | fail)
            all_goals
              have rw9 := (r6.below G9).more G9.size
              have rx9 := (rx6.below G9).more G9.size
              have ry9 := (ry6.below G9).more G9.size
              have F9 := F6.trans (G9.mono F6.size)
              clear G9 r6 rx6 ry6 F6 r8 z8 hb8 hb7
              go_wp2_with fail
              refine (word_IsShuffle (some ⟨g, 0, none⟩) Ax Ay N i k cap kx ky acc6 x y (shB acc6 x y) _ HL6.out HXL.out HYL.out rfl (by exact rw9) cap1 cap2 (by exact rx9) (by omega) (by exact ry9) (by omega)).mono ?_
              rintro e wa ⟨rfl, b⟩
              replace b : Below w9.heap.size w9 wa := ⟨b.os, b.tape, b.output, b.size, b.block⟩
              replace rw9 := (rw9.below b).more b.size; replace rx9 := (rx9.below b).more b.size; replace ry9 := (ry9.below b).more b.size; replace r9 := (r9.below b).more b.size; replace F9 := F9.trans (b.mono F9.size); clear b
              go_wp2_with fail
              refine (ref_IsShuffle N (some ⟨g, 0, none⟩) Ax Ay N i k cap kx ky acc6 x y (shB acc6 x y) _ HL6.out HXL.out HYL.out (Nat.le_refl _) rfl (by exact rw9) cap1 cap2 (by exact rx9) x1 x2 (by omega) (by exact ry9) y1 y2 (by omega)).mono ?_
              rintro e wb ⟨rfl, hd⟩
              have b : Below wa.heap.size wa wb := by obtain ⟨n, rfl⟩ := hd; exact below_drewN (Below.refl _ _) _
              replace rx9 := (rx9.below b).more b.size; replace ry9 := (ry9.below b).more b.size; replace r9 := (r9.below b).more b.size; replace F9 := F9.trans (b.mono F9.size); clear b
              clear hd rw9
              go_wp2_with fail
              refine (word_IsShuffle A9 Ax Ay na9 i k c9 kx ky an x y (shB an x y) _ HAN.out HXL.out HYL.out rfl (by exact r9) k91 k92 (by exact rx9) (by omega) (by exact ry9) (by omega)).mono ?_
              rintro e wc ⟨rfl, b⟩
              replace rx9 := (rx9.below b).more b.size; replace ry9 := (ry9.below b).more b.size; replace r9 := (r9.below b).more b.size; replace F9 := F9.trans (b.mono F9.size); clear b
              go_wp2_with fail
              refine (ref_IsShuffle na9 A9 Ax Ay na9 i k c9 kx ky an x y (shB an x y) _ HAN.out HXL.out HYL.out (Nat.le_refl _) rfl (by exact r9) k91 k92 (by exact rx9) x1 x2 (by omega) (by exact ry9) y1 y2 (by omega)).mono ?_
              rintro e wd ⟨rfl, n, rfl⟩
              go_wp2
              go_ret
              exact ⟨rfl, below_drewN F9 _⟩
end Go.Proofs.Ytcbhencebflgcaa
