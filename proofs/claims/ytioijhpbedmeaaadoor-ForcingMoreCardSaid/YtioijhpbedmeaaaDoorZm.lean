/- The law ForcingMore: its walk. -/
import Derived.Test.YtioijhpbedmeaaaDoorYw
import Derived.Deep.Cut
import Derived.Laws.BitsAllLaws
namespace Go.Proofs.YtioijhpbedmeaaaDoor
open Go.RowKit Go Go.Maps
theorem bitB_nat (a i : Nat) : bitB (a : Int) i = a.testBit i := by
  unfold bitB
  rw [Nat.testBit_eq_decide_div_mod_eq]
  have h : ((a : Int) / 2 ^ i % 2) = ((a / 2 ^ i % 2 : Nat) : Int) := by norm_cast
  rw [h]
  by_cases h1 : a / 2 ^ i % 2 = 1
  · rw [h1]; rfl
  · rw [decide_eq_false h1]
    have h2 : a / 2 ^ i % 2 = 0 := by omega
    rw [h2]; rfl
theorem or_bits {a b : Int} (ha : 0 ≤ a ∧ a ≤ 255) (hb : 0 ≤ b ∧ b ≤ 255) : (0 ≤ bits .or .u8 a b ∧ bits .or .u8 a b ≤ 255) ∧ ∀ (k : Nat) (v : Int), v ∈ setB a k → v ∈ setB (bits .or .u8 a b) k := by
  rw [u8_or a b ha.1 (by omega) hb.1 (by omega)]
  have h1 : a.toNat ||| b.toNat < 2 ^ 8 := Nat.or_lt_two_pow (by omega) (by omega)
  refine ⟨by omega, fun k v hv => ?_⟩
  obtain ⟨i, h2, h3, h4⟩ := setB_mem.1 hv
  refine setB_mem.2 ⟨i, h2, h3, ?_⟩
  rw [show a = ((a.toNat : Nat) : Int) by omega, bitB_nat] at h4
  rw [bitB_nat, Nat.testBit_or, h4, Bool.true_or]
theorem not_bits {a b : Int} (ha : 0 ≤ a ∧ a ≤ 255) (hb : 0 ≤ b ∧ b ≤ 255) : (0 ≤ bits .andNot .u8 a b ∧ bits .andNot .u8 a b ≤ 255) ∧ ∀ (k : Nat) (v : Int), v ∈ setB (bits .andNot .u8 a b) k → v ∈ setB a k := by
  rw [u8_andNot a b ha.1 (by omega) hb.1 (by omega)]
  have h1 : a.toNat &&& (255 - b.toNat) < 2 ^ 8 := Nat.and_lt_two_pow _ (by omega)
  refine ⟨by omega, fun k v hv => ?_⟩
  obtain ⟨i, h2, h3, h4⟩ := setB_mem.1 hv
  refine setB_mem.2 ⟨i, h2, h3, ?_⟩
  rw [bitB_nat, Nat.testBit_and, Bool.and_eq_true] at h4
  rw [show a = ((a.toNat : Nat) : Int) by omega, bitB_nat]
  exact h4.1
theorem sk_set_fo {x : Sk} (h : x.ok) (v : Int) : (skcells x).set 56 (.int .u8 v) = skcells { x with fo := v } := by
  unfold skcells
  rw [List.set_cons_succ, List.set_append_right _ _ (by rw [gcells_len h.pl]; omega), List.set_append_right _ _ (by rw [gcells_len h.pl, gcells_len h.su]; omega), gcells_len h.pl, gcells_len h.su]
  rfl
theorem sk_set_un {x : Sk} (h : x.ok) (v : Int) : (skcells x).set 55 (.int .u8 v) = skcells { x with un := v } := by
  unfold skcells
  rw [List.set_cons_succ, List.set_append_right _ _ (by rw [gcells_len h.pl]; omega), List.set_append_right _ _ (by rw [gcells_len h.pl, gcells_len h.su]; omega), gcells_len h.pl, gcells_len h.su]
  rfl
/-- a sketched system over a product that is known -/
theorem SysR.of2 {x : Sk} (hx : x.ok) {z : SV} {w : World} {B : Nat} {q : Aut} {T : List (List Int)} (hP : Prob x.p x.s q T) (hz : z.ok w B) (hp : z.p.a = x.p) (hs : z.s.a = x.s) (hu : z.u = x.u) (hf : z.f = x.f) (ht : z.tick = x.tk) : SysR z q T := by
  refine ⟨by rw [hp, hs]; exact hP, by rw [hp, hs, hu, hf, ht]; exact Sk.chk hx, by rw [hu, hp]; exact x.u_sub, by rw [hf, hp]; exact x.f_sub, by rw [hp, hs, x.s_al, x.p_al], ?_, ?_, ?_, by rw [ht, hp, x.p_al]; exact x.tk_mem⟩
  · have h1 := hz.p.la
    rw [hp, x.p_al] at h1
    have := List.length_pos_iff.2 x.l_ne
    omega
  · have h1 := hz.lf
    rw [hf] at h1
    have := x.u_len.2
    omega
  · have h1 := hz.lu
    rw [hu] at h1
    have := x.u_len.1
    omega
/-- the same, with the plant as its own supervisor -/
theorem SysR.own {x : Sk} (hx : x.ok) {z : SV} {w : World} {B : Nat} (hz : z.ok w B) (hp : z.p.a = x.p) (hs : z.s.a = x.p) (hu : z.u = x.u) (hf : z.f = x.f) (ht : z.tick = x.tk) : ∃ q T, SysR z q T ∧ (ctlE z.p.a q T z.u z.f z.tick).2.2 = true := by
  obtain ⟨q, T, hP⟩ := prob_of (Sk.wp hx) (Sk.wp hx) (fun v hv => hv) (by have := (Sk.st hx).1; omega) (by have := (Sk.st hx).1; omega)
  refine ⟨q, T, ⟨by rw [hp, hs]; exact hP, ?_, by rw [hu, hp]; exact x.u_sub, by rw [hf, hp]; exact x.f_sub, by rw [hp, hs], ?_, ?_, ?_, by rw [ht, hp, x.p_al]; exact x.tk_mem⟩, by rw [hp]; exact own_ctl hP⟩
  · rw [hp, hs, hu, hf, ht]
    exact chkF_zero (Sk.wp hx) (Sk.wp hx) rfl x.u_sub x.f_sub (by rw [x.p_al]; exact x.tk_mem) (skf_not _ _ _) (skf_not _ _ _)
  · have h1 := hz.p.la
    rw [hp, x.p_al] at h1
    have := List.length_pos_iff.2 x.l_ne
    omega
  · have h1 := hz.lf
    rw [hf] at h1
    have := x.u_len.2
    omega
  · have h1 := hz.lu
    rw [hu] at h1
    have := x.u_len.1
    omega
/-- more forcible, fewer uncontrollable events: what was controllable stays so -/
theorem more_sk {x : Sk} {m f : Int} (h1 : 0 ≤ x.fo ∧ x.fo ≤ 255) (h2 : 0 ≤ x.un ∧ x.un ≤ 255) (hm : 0 ≤ m ∧ m ≤ 255) (hf : 0 ≤ f ∧ f ≤ 255) {P q : Aut} {T : List (List Int)} (h : (ctlE P q T x.u x.f x.tk).2.2 = true) :
    (ctlE P q T (skf x.l x.tk (bits .andNot .u8 x.un f)) (skf x.l x.tk (bits .or .u8 x.fo m)) x.tk).2.2 = true :=
  more_ctl (fun v hv => by obtain ⟨a, b, c⟩ := skf_mem.1 hv; exact skf_mem.2 ⟨a, b, (not_bits h2 hf).2 _ _ c⟩) (fun v hv => by obtain ⟨a, b, c⟩ := skf_mem.1 hv; exact skf_mem.2 ⟨a, b, (or_bits h1 hm).2 _ _ c⟩) h
theorem sk_one (x : Sk) : ((skcells x).toArray.all (·.oneCell')) = true := all_oneCell_toArray fun v hv => by
  simp only [skcells, gcells, bv, List.mem_cons, List.mem_append, List.mem_map, List.not_mem_nil, or_false] at hv
  rcases hv with rfl | (rfl | rfl | ⟨_, _, rfl⟩) | (rfl | rfl | ⟨_, _, rfl⟩) | rfl | rfl | rfl <;> rfl
/-- a sketch is stored into a variable -/
theorem wpList_store_sk {ops : Array Oper} {rest : List Oper} {o : Oper} {a : Act} {w : World} {Q : Exit → Act → World → Prop} (hg : o.guard = none) (x y : Operand) (ho : o.op = .store 28 x y) (b : Nat) (z : Sk) (hz : z.ok) {vs : List Value}
    (hx : a.eval x = .pointer (some ⟨b, 0, none⟩)) (hy : a.eval y = .agg (skcells z).toArray) (hk : Blk w b 28 vs) (hl : vs.length = 58)
    (h : wpList Tryd.prog ops Q rest (a.put o.dst undef) (w.setCells b 0 (skcells z))) : wpList Tryd.prog ops Q (o :: rest) a w :=
  wpList_store_mid hg _ x y ho b 0 (skcells z).toArray hx hy (by rw [List.size_toArray, skcells_len hz]; exact blk_there hk hl) (by rw [List.size_toArray, skcells_len hz]; exact sk_size) (sk_one z) h
theorem aut_sz : (Tryd.prog.info? 38).map (·.size) = some 4 := by kernel_rfl
set_option maxRecDepth 100000 in
set_option maxHeartbeats 1600000 in
theorem more_walk (x : Sk) (m f : Int) (w : World) (hok : x.ok) (hm : 0 ≤ m ∧ m ≤ 255) (hf9 : 0 ≤ f ∧ f ≤ 255) :
    Calls Tryd.prog 3 #[.agg (skcells x).toArray, .int .u8 m, .int .u8 f] w fun e w' => e = .returned (.bool true) ∧ Below w.heap.size w w' := by
  have hb1 := box_below w (.cells (skcells x).toArray 28)
  obtain ⟨w1, hw1⟩ : ∃ w1, w1 = w.alloc (.cells (skcells x).toArray 28) := ⟨_, rfl⟩
  have kx : Blk w1 w.heap.size 28 (skcells x) := by rw [hw1]; exact Blk.new _ _ _
  rw [← hw1] at hb1
  have HC := Lib.hid (law_known45 w1)
  have hyok : Sk.ok { x with fo := bits .or .u8 x.fo m, un := bits .andNot .u8 x.un f } := ⟨hok.ev, hok.pl, hok.su, (not_bits hok.un hf9).1, (or_bits hok.fo hm).1, hok.ti⟩
  have HMS := Lib.hid (fun (P q : Aut) (T : List (List Int)) => more_sk (x := x) (P := P) (q := q) (T := T) hok.fo hok.un hm hf9)
  obtain ⟨y, hy⟩ : ∃ y : Sk, y = { x with fo := bits .or .u8 x.fo m, un := bits .andNot .u8 x.un f } := ⟨_, rfl⟩
  rw [← hy] at hyok
  have HYU := Lib.hid (show y.u = skf x.l x.tk (bits .andNot .u8 x.un f) by rw [hy]; rfl)
  have HYF := Lib.hid (show y.f = skf x.l x.tk (bits .or .u8 x.fo m) by rw [hy]; rfl)
  have HYP := Lib.hid (show y.p = x.p ∧ y.s = x.s ∧ y.tk = x.tk by rw [hy]; exact ⟨rfl, rfl, rfl⟩)
  have HYC := Lib.hid (show ((skcells x).set 56 (.int .u8 (bits .or .u8 x.fo m))).set 55 (.int .u8 (bits .andNot .u8 x.un f)) = skcells y by
    rw [sk_set_fo hok]
    exact (sk_set_un (x := { x with fo := bits .or .u8 x.fo m }) ⟨hok.ev, hok.pl, hok.su, hok.un, (or_bits hok.fo hm).1, hok.ti⟩ _).trans (by rw [hy]))
  clear hy hm hf9
  obtain ⟨q, T, hP⟩ := x.prob hok
  have HYOK := Lib.hid hyok; clear hyok
  have HP := Lib.hid hP; clear hP
  have HW1 := Lib.hid hw1; clear hw1
  have HB1 := Lib.hid hb1; clear hb1
  have KX := Lib.hid kx; clear kx
  have HOK := Lib.hid hok; clear hok
  go_enter Tryd.func3, Tryd.ntmps3
  go_wp2_with fail
  rw [← HW1.out]
  refine HC.out.mono ?_
  rintro e w2 ⟨rfl, hb⟩
  have HB2 := Lib.hid (HB1.out.trans (hb.mono HB1.out.size))
  replace KX := Lib.hid (KX.out.below hb KX.out.lt)
  clear HC hb HB1 HW1
  have HMK := Lib.hid (law_MakeS x w2 HOK.out)
  go_wp2_with (first | refine wpList_load_sk rfl _ rfl w.heap.size x HOK.out (by rfl) KX.out ?_ | fail)
  refine HMK.out.mono ?_
  rintro e w3 ⟨z, rfl, hp, hs, hu, hf, ht, hz, hb⟩
  have HCT := Lib.hid ((SysR.of2 HOK.out HP.out hz hp hs hu hf ht).ctl hz)
  rw [hp, hu, hf, ht] at HCT
  obtain ⟨c1, hc1⟩ : ∃ c, ctlE x.p q T x.u x.f x.tk = c := ⟨_, rfl⟩
  rw [hc1] at HCT
  obtain ⟨cw, ev1, is1⟩ := c1
  have HIS := Lib.hid (show is1 = true → (ctlE x.p q T (skf x.l x.tk (bits .andNot .u8 x.un f)) (skf x.l x.tk (bits .or .u8 x.fo m)) x.tk).2.2 = true from fun h => HMS.out _ _ _ (by rw [hc1]; exact h))
  have HB3 := Lib.hid (HB2.out.trans (hb.mono HB2.out.size))
  replace KX := Lib.hid (KX.out.below hb KX.out.lt)
  clear HMK hc1 hp hs hu hf ht hz hb HB2 HMS
  go_wp2_with fail
  refine HCT.out.mono ?_
  rintro e w4 ⟨vw, rfl, ho, hb⟩
  dsimp only at ho
  obtain ⟨nw, hnw⟩ : ∃ n, cw.length = n := ⟨_, rfl⟩
  rw [hnw] at ho
  obtain ⟨WA, wc, rfl⟩ := own_shape ho
  have HB4 := Lib.hid (HB3.out.trans (hb.mono HB3.out.size))
  replace KX := Lib.hid (KX.out.below hb KX.out.lt)
  clear ho hnw HCT hb HB3
  have hx := box_below w4 (.cells #[.slice WA nw wc, .int .i64 ev1] 32)
  have HX4 := Lib.hid (HB4.out.trans (hx.mono HB4.out.size))
  replace KX := Lib.hid (KX.out.below hx KX.out.lt)
  clear hx HB4
  go_upto_region 4 with fail
  generalize w4.alloc (.cells #[.slice WA nw wc, .int .i64 ev1] 32) = x4 at HX4 KX ⊢
  have KZ := Lib.hid (show Blk (x4.alloc (.cells #[.int .u8 0, .int .u8 0, .int .u8 0, .int .u8 0, .int .u8 0, .int .u8 0, .int .u8 0, .int .u8 0, .int .u8 0, .int .u8 0, .int .u8 0, .int .u8 0, .int .u8 0, .int .u8 0, .int .u8 0, .int .u8 0, .int .u8 0, .int .u8 0, .int .u8 0, .int .u8 0, .int .u8 0, .int .u8 0, .int .u8 0, .int .u8 0, .int .u8 0, .int .u8 0, .int .u8 0, .int .u8 0, .int .u8 0, .int .u8 0, .int .u8 0, .int .u8 0, .int .u8 0, .int .u8 0, .int .u8 0, .int .u8 0, .int .u8 0, .int .u8 0, .int .u8 0, .int .u8 0, .int .u8 0, .int .u8 0, .int .u8 0, .int .u8 0, .int .u8 0, .int .u8 0, .int .u8 0, .int .u8 0, .int .u8 0, .int .u8 0, .int .u8 0, .int .u8 0, .int .u8 0, .int .u8 0, .int .u8 0, .int .u8 0, .int .u8 0, .int .u8 0] 28)) x4.heap.size 28 [.int .u8 0, .int .u8 0, .int .u8 0, .int .u8 0, .int .u8 0, .int .u8 0, .int .u8 0, .int .u8 0, .int .u8 0, .int .u8 0, .int .u8 0, .int .u8 0, .int .u8 0, .int .u8 0, .int .u8 0, .int .u8 0, .int .u8 0, .int .u8 0, .int .u8 0, .int .u8 0, .int .u8 0, .int .u8 0, .int .u8 0, .int .u8 0, .int .u8 0, .int .u8 0, .int .u8 0, .int .u8 0, .int .u8 0, .int .u8 0, .int .u8 0, .int .u8 0, .int .u8 0, .int .u8 0, .int .u8 0, .int .u8 0, .int .u8 0, .int .u8 0, .int .u8 0, .int .u8 0, .int .u8 0, .int .u8 0, .int .u8 0, .int .u8 0, .int .u8 0, .int .u8 0, .int .u8 0, .int .u8 0, .int .u8 0, .int .u8 0, .int .u8 0, .int .u8 0, .int .u8 0, .int .u8 0, .int .u8 0, .int .u8 0, .int .u8 0, .int .u8 0] from Blk.new _ _ [_, _, _, _, _, _, _, _, _, _, _, _, _, _, _, _, _, _, _, _, _, _, _, _, _, _, _, _, _, _, _, _, _, _, _, _, _, _, _, _, _, _, _, _, _, _, _, _, _, _, _, _, _, _, _, _, _, _])
  have hx := box_below x4 (.cells #[.int .u8 0, .int .u8 0, .int .u8 0, .int .u8 0, .int .u8 0, .int .u8 0, .int .u8 0, .int .u8 0, .int .u8 0, .int .u8 0, .int .u8 0, .int .u8 0, .int .u8 0, .int .u8 0, .int .u8 0, .int .u8 0, .int .u8 0, .int .u8 0, .int .u8 0, .int .u8 0, .int .u8 0, .int .u8 0, .int .u8 0, .int .u8 0, .int .u8 0, .int .u8 0, .int .u8 0, .int .u8 0, .int .u8 0, .int .u8 0, .int .u8 0, .int .u8 0, .int .u8 0, .int .u8 0, .int .u8 0, .int .u8 0, .int .u8 0, .int .u8 0, .int .u8 0, .int .u8 0, .int .u8 0, .int .u8 0, .int .u8 0, .int .u8 0, .int .u8 0, .int .u8 0, .int .u8 0, .int .u8 0, .int .u8 0, .int .u8 0, .int .u8 0, .int .u8 0, .int .u8 0, .int .u8 0, .int .u8 0, .int .u8 0, .int .u8 0, .int .u8 0] 28)
  have HLX := Lib.hid HX4.out.size
  have hkx := KX.out
  have hbz := HX4.out.trans (hx.mono HX4.out.size)
  have hkz := KX.out.below hx KX.out.lt
  have HB5 := Lib.hid (setCells_below hbz HLX.out hbz.size (skcells x))
  have KY := Lib.hid (setCells_all KZ.out (skcells x) (by rw [skcells_len HOK.out]; rfl))
  replace KX := Lib.hid (hkz.kept (setCells_grown x4.heap.size (skcells x) 0 _) (fun e => by have := hkx.lt; injection e with e; omega))
  clear hx HX4 hbz hkz
  go_upto_region 5 with (first | refine wpList_load_sk rfl _ rfl w.heap.size x HOK.out (by rfl) (hkx.al _) ?_ | refine wpList_load_sk rfl _ rfl w.heap.size x HOK.out (by rfl) hkx ?_ | refine wpList_store_sk rfl _ _ rfl x4.heap.size x HOK.out (by rfl) (by rfl) KZ.out rfl ?_; generalize (x4.alloc (.cells #[.int .u8 0, .int .u8 0, .int .u8 0, .int .u8 0, .int .u8 0, .int .u8 0, .int .u8 0, .int .u8 0, .int .u8 0, .int .u8 0, .int .u8 0, .int .u8 0, .int .u8 0, .int .u8 0, .int .u8 0, .int .u8 0, .int .u8 0, .int .u8 0, .int .u8 0, .int .u8 0, .int .u8 0, .int .u8 0, .int .u8 0, .int .u8 0, .int .u8 0, .int .u8 0, .int .u8 0, .int .u8 0, .int .u8 0, .int .u8 0, .int .u8 0, .int .u8 0, .int .u8 0, .int .u8 0, .int .u8 0, .int .u8 0, .int .u8 0, .int .u8 0, .int .u8 0, .int .u8 0, .int .u8 0, .int .u8 0, .int .u8 0, .int .u8 0, .int .u8 0, .int .u8 0, .int .u8 0, .int .u8 0, .int .u8 0, .int .u8 0, .int .u8 0, .int .u8 0, .int .u8 0, .int .u8 0, .int .u8 0, .int .u8 0, .int .u8 0, .int .u8 0] 28)).setCells x4.heap.size 0 (skcells x) = w5 at KY HB5 KX ⊢ | fail)
  obtain ⟨bk, hn⟩ : ∃ b, x4.heap.size = b := ⟨_, rfl⟩
  rw [hn] at KY HLX ⊢
  have KXL := Lib.hid (show w.heap.size < bk by rw [← hn]; exact hkx.lt)
  clear hn hkx KZ
  have HU := Lib.hid (show (skcells x)[55]? = some (.int .u8 x.un) from (skcells_at HOK.out).2.2.2.1)
  have hky := KY.out
  have e56 := hky.cell (skcells_at HOK.out).2.2.2.2.1
  have f56 := hky.free 56
  have hl := hky.lt
  have HK6 := Lib.hid (hky.set (j := 56) (by rw [skcells_len HOK.out]; omega) (.int .u8 (bits .or .u8 x.fo m)))
  have HB6 := Lib.hid (HB5.out.setCell (p := ⟨bk, 56, none⟩) HLX.out (.int .u8 (bits .or .u8 x.fo m)))
  have hx := (Below.refl bk w5).setCell (p := ⟨bk, 56, none⟩) (Nat.le_refl _) (.int .u8 (bits .or .u8 x.fo m))
  replace KX := Lib.hid (KX.out.below hx KXL.out)
  clear hky KY hx HB5
  go_upto_region 6 with fail
  generalize w5.setCell ⟨bk, 56, none⟩ (.int .u8 (bits .or .u8 x.fo m)) = w6 at HK6 HB6 KX ⊢
  clear e56 f56 hl
  have hky := HK6.out
  have e55 := hky.cell (j := 55) (by rw [List.getElem?_set_ne (by omega)]; exact HU.out)
  have f55 := hky.free 55
  have hl := hky.lt
  have HK7 := Lib.hid (hky.set (j := 55) (by rw [List.length_set, skcells_len HOK.out]; omega) (.int .u8 (bits .andNot .u8 x.un f)))
  rw [HYC.out] at HK7
  have HB7 := Lib.hid (HB6.out.setCell (p := ⟨bk, 55, none⟩) HLX.out (.int .u8 (bits .andNot .u8 x.un f)))
  have hx := (Below.refl bk w6).setCell (p := ⟨bk, 55, none⟩) (Nat.le_refl _) (.int .u8 (bits .andNot .u8 x.un f))
  replace KX := Lib.hid (KX.out.below hx KXL.out)
  clear hky HK6 hx HB6 HU HYC
  go_upto_region 7 with fail
  generalize w6.setCell ⟨bk, 55, none⟩ (.int .u8 (bits .andNot .u8 x.un f)) = w7 at HK7 HB7 KX ⊢
  clear e55 f55 hl
  have HMK := Lib.hid (law_MakeS y w7 HYOK.out)
  go_wp2_with (first | refine wpList_load_sk rfl _ rfl bk y HYOK.out (by rfl) HK7.out ?_ | fail)
  refine HMK.out.mono ?_
  rintro e w8 ⟨z, rfl, hp, hs, hu, hf, ht, hz, hb⟩
  have HCT := Lib.hid ((SysR.of2 HYOK.out (by rw [HYP.out.1, HYP.out.2.1]; exact HP.out) hz hp hs hu hf ht).ctl hz)
  rw [hp, hu, hf, ht, HYU.out, HYF.out, HYP.out.1, HYP.out.2.2] at HCT
  obtain ⟨c1, hc1⟩ : ∃ c, ctlE x.p q T (skf x.l x.tk (bits .andNot .u8 x.un f)) (skf x.l x.tk (bits .or .u8 x.fo m)) x.tk = c := ⟨_, rfl⟩
  rw [hc1] at HCT HIS
  obtain ⟨cw, ev2, is2⟩ := c1
  have HB8 := Lib.hid (HB7.out.trans (hb.mono HB7.out.size))
  replace KX := Lib.hid (KX.out.below hb KX.out.lt)
  clear HMK hc1 hp hs hu hf ht hz hb HB7 HK7
  dsimp only at HIS
  go_wp2_with fail
  refine HCT.out.mono ?_
  rintro e w9 ⟨vw, rfl, ho, hb⟩
  dsimp only at ho
  obtain ⟨nw, hnw⟩ : ∃ n, cw.length = n := ⟨_, rfl⟩
  rw [hnw] at ho
  obtain ⟨WA, wc, rfl⟩ := own_shape ho
  have HB9 := Lib.hid (HB8.out.trans (hb.mono HB8.out.size))
  replace KX := Lib.hid (KX.out.below hb KX.out.lt)
  clear ho hnw HCT hb HB8
  have hx := box_below w9 (.cells #[.slice WA nw wc, .int .i64 ev2] 32)
  have HX9 := Lib.hid (HB9.out.trans (hx.mono HB9.out.size))
  replace KX := Lib.hid (KX.out.below hx KX.out.lt)
  clear hx HB9
  go_upto_region 8 with fail
  generalize w9.alloc (.cells #[.slice WA nw wc, .int .i64 ev2] 32) = x9 at HX9 KX ⊢
  have HMK := Lib.hid (law_MakeS x x9 HOK.out)
  go_wp2_with (first | refine wpList_load_sk rfl _ rfl w.heap.size x HOK.out (by rfl) KX.out ?_ | fail)
  refine HMK.out.mono ?_
  rintro e wa ⟨z, rfl, hp, hs, hu, hf, ht, hz, hb⟩
  have HBA := Lib.hid (HX9.out.trans (hb.mono HX9.out.size))
  have HSP := Lib.hid (And.intro hp (And.intro hu (And.intro hf ht)))
  have kb : Blk (wa.alloc (.cells #[.slice z.p.A z.p.na z.p.ca, .int .i64 z.p.a.st, .slice z.p.M z.p.nm z.p.cm, .slice z.p.E z.p.ne z.p.ce, .slice z.s.A z.s.na z.s.ca, .int .i64 z.s.a.st, .slice z.s.M z.s.nm z.s.cm, .slice z.s.E z.s.ne z.s.ce, .slice z.U z.nu z.cu, .slice z.F z.nf z.cf, .int .i64 z.tick] 40)) wa.heap.size 40 (svc z) := Blk.new _ _ (svc z)
  have hx := box_below wa (.cells #[.slice z.p.A z.p.na z.p.ca, .int .i64 z.p.a.st, .slice z.p.M z.p.nm z.p.cm, .slice z.p.E z.p.ne z.p.ce, .slice z.s.A z.s.na z.s.ca, .int .i64 z.s.a.st, .slice z.s.M z.s.nm z.s.cm, .slice z.s.E z.s.ne z.s.ce, .slice z.U z.nu z.cu, .slice z.F z.nf z.cf, .int .i64 z.tick] 40)
  have HZB := Lib.hid (hz.below hx)
  have HBB := Lib.hid (HBA.out.trans (hx.mono HBA.out.size))
  have HSZ := Lib.hid HBA.out.size
  clear HMK hp hs hu hf ht hz hb HX9 HBA hx KX
  unfold svc
  go_upto_region 9 with fail
  obtain ⟨bs, hbs⟩ : ∃ b, wa.heap.size = b := ⟨_, rfl⟩
  rw [hbs] at kb HZB HSZ ⊢
  generalize wa.alloc (.cells #[.slice z.p.A z.p.na z.p.ca, .int .i64 z.p.a.st, .slice z.p.M z.p.nm z.p.cm, .slice z.p.E z.p.ne z.p.ce, .slice z.s.A z.s.na z.s.ca, .int .i64 z.s.a.st, .slice z.s.M z.s.nm z.s.cm, .slice z.s.E z.s.ne z.s.ce, .slice z.U z.nu z.cu, .slice z.F z.nf z.cf, .int .i64 z.tick] 40) = wb at kb HZB HBB ⊢
  clear hbs
  have e0 := kb.cell (j := 0) rfl
  have e1 := kb.cell (j := 1) rfl
  have e2 := kb.cell (j := 2) rfl
  have e3 := kb.cell (j := 3) rfl
  have HKB := Lib.hid (show Blk (wb.setCells bs 4 [.slice z.p.A z.p.na z.p.ca, .int .i64 z.p.a.st, .slice z.p.M z.p.nm z.p.cm, .slice z.p.E z.p.ne z.p.ce]) bs 40 [.slice z.p.A z.p.na z.p.ca, .int .i64 z.p.a.st, .slice z.p.M z.p.nm z.p.cm, .slice z.p.E z.p.ne z.p.ce, .slice z.p.A z.p.na z.p.ca, .int .i64 z.p.a.st, .slice z.p.M z.p.nm z.p.cm, .slice z.p.E z.p.ne z.p.ce, .slice z.U z.nu z.cu, .slice z.F z.nf z.cf, .int .i64 z.tick] from (((kb.set (j := 4) (by simp [svc]) (.slice z.p.A z.p.na z.p.ca)).set (j := 5) (by simp [svc]) (.int .i64 z.p.a.st)).set (j := 6) (by simp [svc]) (.slice z.p.M z.p.nm z.p.cm)).set (j := 7) (by simp [svc]) (.slice z.p.E z.p.ne z.p.ce))
  have HTH := Lib.hid (show wb.there bs 4 4 from fun j hj => ⟨by
    rw [kb.cell (List.getElem?_eq_getElem (show 4 + j < (svc z).length from by simp [svc]; omega))]; rfl, kb.free (4 + j)⟩)
  have HBC := Lib.hid (HBB.out.grown (setCells_grown bs [.slice z.p.A z.p.na z.p.ca, .int .i64 z.p.a.st, .slice z.p.M z.p.nm z.p.cm, .slice z.p.E z.p.ne z.p.ce] 4 wb) HBB.out.size (fun k e => by have := HSZ.out; injection e with e; omega))
  have hxz := (setCells_grown bs [.slice z.p.A z.p.na z.p.ca, .int .i64 z.p.a.st, .slice z.p.M z.p.nm z.p.cm, .slice z.p.E z.p.ne z.p.ce] 4 wb)
  have HZC := Lib.hid (show z.ok (wb.setCells bs 4 [.slice z.p.A z.p.na z.p.ca, .int .i64 z.p.a.st, .slice z.p.M z.p.nm z.p.cm, .slice z.p.E z.p.ne z.p.ce]) bs from HZB.out.below ((Below.refl bs wb).grown hxz (Nat.le_of_lt kb.lt) (fun k e => by injection e with e; omega)))
  clear hxz kb HZB HBB HSZ
  go_upto_region 10 with (first | refine wpList_store_mid rfl _ _ _ rfl bs 4 #[.slice z.p.A z.p.na z.p.ca, .int .i64 z.p.a.st, .slice z.p.M z.p.nm z.p.cm, .slice z.p.E z.p.ne z.p.ce] (by rfl) (by rfl) HTH.out aut_sz (by simp [Value.oneCell']) ?_; generalize wb.setCells bs 4 [.slice z.p.A z.p.na z.p.ca, .int .i64 z.p.a.st, .slice z.p.M z.p.nm z.p.cm, .slice z.p.E z.p.ne z.p.ce] = wc at HKB HBC HZC ⊢ | fail)
  have HV := Lib.hid (show VarS wc bs { z with s := z.p } from ⟨HKB.out, SV.ok.more (B := bs) ⟨HZC.out.p, HZC.out.p, HZC.out.lu, HZC.out.ru, HZC.out.u1, HZC.out.u2, HZC.out.lf, HZC.out.rf, HZC.out.f1, HZC.out.f2⟩ (Nat.le_of_lt HKB.out.lt)⟩)
  obtain ⟨q3, T3, hS, ho⟩ := SysR.own (z := { z with s := z.p }) HOK.out HV.out.ok HSP.out.1 HSP.out.1 HSP.out.2.1 HSP.out.2.2.1 HSP.out.2.2.2
  have HCT := Lib.hid (hS.ctl HV.out.ok)
  obtain ⟨c3, hc3⟩ : ∃ c, ctlE z.p.a q3 T3 z.u z.f z.tick = c := ⟨_, rfl⟩
  dsimp only at HCT ho
  rw [hc3] at HCT ho
  obtain ⟨cw, ev3, is3⟩ := c3
  dsimp only at ho
  subst ho
  clear hc3 hS HKB HZC HTH e0 e1 e2 e3 HSP
  go_wp2_with (first | refine wpList_load_sys rfl _ rfl bs { z with s := z.p } (by rfl) HV.out ?_ | fail)
  refine HCT.out.mono ?_
  rintro e wd ⟨vw, rfl, ho, hb⟩
  dsimp only at ho
  obtain ⟨nw, hnw⟩ : ∃ n, cw.length = n := ⟨_, rfl⟩
  rw [hnw] at ho
  obtain ⟨WA, wc9, rfl⟩ := own_shape ho
  have HBD := Lib.hid (HBC.out.trans (hb.mono HBC.out.size))
  clear ho hnw HCT hb HBC HV
  have hx := box_below wd (.cells #[.slice WA nw wc9, .int .i64 ev3] 32)
  have HXD := Lib.hid (HBD.out.trans (hx.mono HBD.out.size))
  clear hx HBD
  go_upto_region 11 with fail
  generalize wd.alloc (.cells #[.slice WA nw wc9, .int .i64 ev3] 32) = xd at HXD ⊢
  cases is1 with
  | false =>
    go_wp2
    go_ret
    exact ⟨rfl, HXD.out⟩
  | true =>
    obtain rfl : is2 = true := HIS.out rfl
    go_wp2
    go_ret
    exact ⟨rfl, HXD.out⟩
end Go.Proofs.YtioijhpbedmeaaaDoor
