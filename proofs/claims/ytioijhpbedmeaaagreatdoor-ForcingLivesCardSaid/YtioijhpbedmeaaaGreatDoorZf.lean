/- The law ForcingLives: its walk. Printed by wip/mkz.py. -/
import Derived.Test.YtioijhpbedmeaaaGreatDoorYw
import Derived.Deep.Cut
namespace Go.Proofs.YtioijhpbedmeaaaGreatDoor
open Go.RowKit Go Go.Maps
theorem own_lit1 (w : World) (base : Nat) (hb : base ≤ w.heap.size) (a : Value) (e : TypeId) : (w.alloc (.cells #[a] e)).ownsRow base e 1 (.slice (some ⟨w.heap.size, 0, none⟩) 1 1) 1 [a] :=
  ⟨by simp, .inr ⟨w.heap.size, 1, #[a], rfl, hb, heap_alloc_new w _, Nat.le_refl _, by unfold maxLen; omega, by simp, by simp⟩⟩
set_option maxHeartbeats 1600000 in
theorem lives_fn (x : Ed) (v : Int) (p : Addr) (w : World) (hp : w.cell? p = some (.int .i64 v)) (hb : p.block < w.heap.size) :
    Calls Tryz.prog 16 #[.agg #[.int .i64 x.f, .int .i64 x.e, .int .i64 x.t], .pointer (some p)] w fun e w' => e = .returned (.bool (x.f == v)) ∧ Below w.heap.size w w' := by
  have hB := box_below w (.cells #[.int .i64 x.f, .int .i64 x.e, .int .i64 x.t] 49)
  have hp' : (w.alloc (.cells #[.int .i64 x.f, .int .i64 x.e, .int .i64 x.t] 49)).cell? p = some (.int .i64 v) := (World.cell?_alloc_lt w _ p hb).trans hp
  have HB := Lib.hid hB; clear hB
  clear hp
  go_enter Tryz.func16, Tryz.ntmps16
  go_wp2
  go_ret
  exact ⟨rfl, HB.out⟩
def frB (v : Int) (x : Ed) : Bool := x.f == v
set_option maxHeartbeats 1600000 in
theorem lives_index (E : Option Addr) (c n : Nat) (l : List Ed) (v : Int) (p : Addr) (w : World) (hl : l.length = n) (h : RdX w w.heap.size E l) (hn : n ≤ 4611686018427387903) (hp : w.cell? p = some (.int .i64 v)) (hb : p.block < w.heap.size) :
    Calls Tryz.prog 48 #[.slice E n c, .func (.func 16) #[] #[.pointer (some p)]] w fun e w' => e = .returned (.int .i64 (idxP (frB v) l)) ∧ Below w.heap.size w w' := by
  obtain ⟨R, hR⟩ : ∃ R, idxP (frB v) l = R := ⟨_, rfl⟩
  rw [hR]
  have HR := Lib.hid hR; clear hR
  have HL := Lib.hid hl; clear hl
  have HP := Lib.hid hp; clear hp
  go_enter Tryz.func48, Tryz.ntmps48
  go_wp2
  go_loopw [8] (fun s8 wr => ∃ k : Nat, k ≤ n ∧ s8 = .int .i64 k ∧ Hid (∀ j y, j < k → l[j]? = some y → frB v y = false) ∧ Below w.heap.size w wr) (fun s8 _ => n - (intOf s8).toNat)
  case atStart => exact ⟨0, Nat.zero_le _, rfl, Lib.hid (fun j y hj => by omega), Below.refl _ _⟩
  case round =>
    obtain ⟨k, hk, rfl, HX, hbel⟩ := hrel
    have hsz := hbel.size
    by_cases hlt : k < n
    · obtain ⟨ad, y, rfl, hbb, hy, hcell⟩ := ((h.below hbel).more hsz).get (k := k) (by have := HL.out; omega)
      have b1 : (k : Int) < (n : Int) := by omega
      have HC := Lib.hid (lives_fn y v p wr ((hbel.cell (p := p) hb).trans HP.out) (Nat.lt_of_lt_of_le hb hsz))
      have HY := Lib.hid hy; clear hy
      have q0 : wr.cell? (ad.add (k * 3)) = some (.int .i64 y.f) := hcell 0 _ rfl
      have q1 : wr.cell? ⟨(ad.add (k * 3)).block, (ad.add (k * 3)).off + 1, none⟩ = some (.int .i64 y.e) := st_cells (j := 0) (hcell 1 _ rfl)
      have q2 : wr.cell? ⟨(ad.add (k * 3)).block, (ad.add (k * 3)).off + 2, none⟩ = some (.int .i64 y.t) := st_cells (j := 1) (hcell 2 _ rfl)
      clear hcell
      cases hq : (y.f == v) with
      | true =>
        rw [hq] at HC
        have he : R = (k : Int) := by rw [← HR.out]; exact idxP_at HY.out hq HX.out
        have HE := Lib.hid he; clear he
        clear hq
        go_wp2_with fail
        refine HC.out.mono ?_
        rintro e w1 ⟨rfl, hb1⟩
        have hbel1 := hbel.trans (hb1.mono hsz)
        clear q0 q1 q2
        go_wp2
        go_ret
        exact ⟨by rw [HE.out]; rfl, hbel1⟩
      | false =>
        rw [hq] at HC
        have HX2 := Lib.hid (show ∀ j z, j < k + 1 → l[j]? = some z → frB v z = false from fun j z hj hz => by
          rcases Nat.lt_or_ge j k with h1 | h1
          · exact HX.out j z h1 hz
          · obtain rfl : j = k := by omega
            rw [HY.out] at hz; injection hz with hz; subst hz; exact hq)
        clear hq
        go_wp2_with fail
        refine HC.out.mono ?_
        rintro e w1 ⟨rfl, hb1⟩
        have hbel1 := hbel.trans (hb1.mono hsz)
        clear q0 q1 q2
        go_wp2
        go_roundw
        case rel => exact ⟨k + 1, by omega, by go_num, HX2, hbel1⟩
        case measure => simp [intOf]; omega
    · obtain rfl : k = n := by omega
      have he : R = -1 := by
        rw [← HR.out]
        rcases idxP_spec (p := frB v) l with ⟨h1, _⟩ | ⟨j, x, _, hj, hx, _⟩
        · exact h1
        · have h9 := HX.out j x (by have := (List.getElem?_eq_some_iff.1 hj).1; have := HL.out; omega) hj
          rw [h9] at hx; cases hx
      have HE := Lib.hid he; clear he
      go_wp2
      go_ret
      exact ⟨ret_int HE.out.symm, hbel⟩
set_option maxHeartbeats 1600000 in
theorem lives_contains (E : Option Addr) (c n : Nat) (l : List Ed) (v : Int) (p : Addr) (w : World) (hl : l.length = n) (h : RdX w w.heap.size E l) (hn : n ≤ 4611686018427387903) (hp : w.cell? p = some (.int .i64 v)) (hb : p.block < w.heap.size) (hx : ∃ x ∈ l, x.f = v) :
    Calls Tryz.prog 15 #[.slice E n c, .func (.func 16) #[] #[.pointer (some p)]] w fun e w' => e = .returned (.bool true) ∧ Below w.heap.size w w' := by
  have HI := Lib.hid (lives_index E c n l v p w hl h hn hp hb)
  have he : 0 ≤ idxP (frB v) l := by
    rcases idxP_spec (p := frB v) l with ⟨_, h2⟩ | ⟨k, _, h2, _⟩
    · obtain ⟨x, hm, hf⟩ := hx
      have := h2 x hm
      unfold frB at this
      rw [hf] at this
      simp at this
    · rw [h2]; omega
  obtain ⟨R, hR⟩ : ∃ R, idxP (frB v) l = R := ⟨_, rfl⟩
  rw [hR] at HI he
  clear hR hl h hp hx
  go_enter Tryz.func15, Tryz.ntmps15
  go_wp2_with fail
  refine HI.out.mono ?_
  rintro e w' ⟨rfl, hb1⟩
  have HB1 := Lib.hid hb1; clear hb1
  go_wp2
  go_ret
  exact ⟨by simp, HB1.out⟩
set_option maxRecDepth 100000 in
set_option maxHeartbeats 1600000 in
theorem lives_walk (x : Sk) (w : World) (hok : x.ok) :
    Calls Tryz.prog 3 #[.agg (skcells x).toArray] w fun e w' => e = .returned (.bool true) ∧ Below w.heap.size w w' := by
  have hb1 := box_below w (.cells (skcells x).toArray 28)
  obtain ⟨w1, hw1⟩ : ∃ w1, w1 = (w.alloc (.cells (skcells x).toArray 28)) := ⟨_, rfl⟩
  have kx : Blk w1 w.heap.size 28 (skcells x) := by rw [hw1]; exact Blk.new _ _ _
  rw [← hw1] at hb1
  have HC := Lib.hid (law_known45 w1)
  have HW1 := Lib.hid hw1; clear hw1
  have HB1 := Lib.hid hb1; clear hb1
  have KX := Lib.hid kx; clear kx
  have HOK := Lib.hid hok; clear hok
  go_enter Tryz.func3, Tryz.ntmps3
  go_wp2_with fail
  rw [← HW1.out]
  refine HC.out.mono ?_
  rintro e w2 ⟨rfl, hb⟩
  have HB2 := Lib.hid (HB1.out.trans (hb.mono HB1.out.size))
  have hk2 := KX.out.below hb KX.out.lt
  have HMK := Lib.hid (law_MakeS x w2 HOK.out)
  clear HC hb KX HB1 HW1
  go_wp2_with (first | refine wpList_load_sk rfl _ rfl w.heap.size x HOK.out (by rfl) hk2 ?_ | fail)
  clear hk2
  refine HMK.out.mono ?_
  rintro e w3 ⟨z, rfl, hp, hs, hu, hf, ht, hz, hb⟩
  obtain ⟨q, T, hS, hP⟩ := SysR.of HOK.out hz hp hs hu hf ht
  have vs := VarS.new hz
  have hbx := box_below w3 (.cells #[.slice z.p.A z.p.na z.p.ca, .int .i64 z.p.a.st, .slice z.p.M z.p.nm z.p.cm, .slice z.p.E z.p.ne z.p.ce, .slice z.s.A z.s.na z.s.ca, .int .i64 z.s.a.st, .slice z.s.M z.s.nm z.s.cm, .slice z.s.E z.s.ne z.s.ce, .slice z.U z.nu z.cu, .slice z.F z.nf z.cf, .int .i64 z.tick] 35)
  have HB4 := Lib.hid (HB2.out.trans ((hb.trans (hbx.mono hb.size)).mono HB2.out.size))
  have HS := Lib.hid hS; clear hS
  clear hp hs hu hf ht hz hb hbx HMK HB2 hP
  unfold svc
  go_upto_region 4 with fail
  obtain ⟨bs, hbs⟩ : ∃ b, w3.heap.size = b := ⟨_, rfl⟩
  rw [hbs] at vs ⊢
  generalize w3.alloc (.cells #[.slice z.p.A z.p.na z.p.ca, .int .i64 z.p.a.st, .slice z.p.M z.p.nm z.p.cm, .slice z.p.E z.p.ne z.p.ce, .slice z.s.A z.s.na z.s.ca, .int .i64 z.s.a.st, .slice z.s.M z.s.nm z.s.cm, .slice z.s.E z.s.ne z.s.ce, .slice z.U z.nu z.cu, .slice z.F z.nf z.cf, .int .i64 z.tick] 35) = w4 at vs HB4 ⊢
  clear hbs
  have VS := Lib.hid vs; clear vs
  have HTL := Lib.hid (show ∀ t ∈ T, t.length = 2 from HS.out.prob.len2)
  have HC := Lib.hid (HS.out.loop VS.out.ok)
  go_wp2_with (first | refine wpList_load_sys rfl _ rfl bs z (by rfl) VS.out ?_ | fail)
  refine HC.out.mono ?_
  rintro e v4 ⟨y4, B4, nb4, cb4, rfl, hya, hy, hT, tl, t1, t2, hb⟩
  have HT4 := Lib.hid hT
  have HTL4 := Lib.hid (And.intro tl (And.intro t1 t2))
  have HYA4 := Lib.hid hya
  clear hT tl t1 t2 hya HC
  have HBv4 := Lib.hid (HB4.out.trans (hb.mono HB4.out.size))
  replace VS := Lib.hid (VS.out.below hb)
  clear hb HB4
  have VY4 := Lib.hid (VarA.new hy)
  have hx := box_below v4 (.cells #[.slice y4.A y4.na y4.ca, .int .i64 y4.a.st, .slice y4.M y4.nm y4.cm, .slice y4.E y4.ne y4.ce] 33)
  clear hy
  have HBx4 := Lib.hid (HBv4.out.trans (hx.mono HBv4.out.size))
  replace VS := Lib.hid (VS.out.below hx)
  replace HT4 := Lib.hid ((HT4.out.below hx).more hx.size)
  clear hx HBv4
  go_upto_region 5 with fail
  obtain ⟨b4, hn⟩ : ∃ b, v4.heap.size = b := ⟨_, rfl⟩
  rw [hn] at VY4 ⊢
  generalize v4.alloc (.cells #[.slice y4.A y4.na y4.ca, .int .i64 y4.a.st, .slice y4.M y4.nm y4.cm, .slice y4.E y4.ne y4.ce] 33) = x4 at VY4 HBx4 VS HT4 ⊢
  clear hn
  have HIF := Lib.hid (ctl_iff (P := z.p.a) (q := q) (T := T) (U := z.u) (F := z.f) (tick := z.tick))
  have HCT := Lib.hid (HS.out.ctl VS.out.ok)
  obtain ⟨c9, hc9⟩ : ∃ c, ctlE z.p.a q T z.u z.f z.tick = c := ⟨_, rfl⟩
  rw [hc9] at HIF HCT
  clear hc9
  obtain ⟨cw, cev, cb9⟩ := c9
  dsimp only at HIF HCT
  obtain ⟨nw, hnw⟩ : ∃ n, cw.length = n := ⟨_, rfl⟩
  have HNW := Lib.hid hnw; clear hnw
  go_wp2_with (first | refine wpList_load_sys rfl _ rfl bs z (by rfl) VS.out ?_ | fail)
  refine HCT.out.mono ?_
  rintro e v5 ⟨vw, rfl, ho, hb⟩
  dsimp only at ho
  rw [HNW.out] at ho
  obtain ⟨WA, wc, rfl⟩ := own_shape ho
  clear ho HCT
  have HBv5 := Lib.hid (HBx4.out.trans (hb.mono HBx4.out.size))
  replace VS := Lib.hid (VS.out.below hb)
  replace HT4 := Lib.hid ((HT4.out.below hb).more hb.size)
  replace VY4 := Lib.hid (VY4.out.below hb)
  clear hb HBx4
  have K5 := Lib.hid (show Blk (v5.alloc (.cells #[.slice WA nw wc, .int .i64 cev] 42)) v5.heap.size 42 [.slice WA nw wc, .int .i64 cev] from Blk.new _ _ [_, _])
  have hx := box_below v5 (.cells #[.slice WA nw wc, .int .i64 cev] 42)
  have HBx5 := Lib.hid (HBv5.out.trans (hx.mono HBv5.out.size))
  replace VS := Lib.hid (VS.out.below hx)
  replace HT4 := Lib.hid ((HT4.out.below hx).more hx.size)
  replace VY4 := Lib.hid (VY4.out.below hx)
  clear hx HBv5
  go_upto_region 6 with fail
  obtain ⟨b5, hn⟩ : ∃ b, v5.heap.size = b := ⟨_, rfl⟩
  rw [hn] at K5 ⊢
  generalize v5.alloc (.cells #[.slice WA nw wc, .int .i64 cev] 42) = x5 at K5 HBx5 VS HT4 VY4 ⊢
  clear hn
  have HST := Lib.hid (show y4.a.st = (nb4 : Int) by rw [HYA4.out, HS.out.prob.tups.1, HTL4.out.1])
  have hnb : nb4 ≤ 3600 := by have := HTL4.out.1; have := HS.out.prob.len; omega
  have q1 := VY4.out.c1
  rw [HST.out] at q1
  have d1 : ((nb4 : Int) != (nb4 : Int)) = false := by simp
  cases cb9 with
  | false =>
    go_wp2
    go_ret
    exact ⟨rfl, HBx5.out⟩
  | true =>
    have HBD := Lib.hid (HIF.out.1 (by first | rfl | trivial))
    have hnu := HS.out.nu
    have HZ := Lib.hid (Below.refl x5.heap.size x5)
    go_wp2
    clear q1 d1
    go_loopw [10, 11, 12, 14, 48] (fun s10 s11 s12 s14 s48 wr => ∃ (i : Nat) (v10 v11 v12 v14 : Value), s10 = v10 ∧ s11 = v11 ∧ s12 = v12 ∧ s14 = v14 ∧ s48 = .int .i64 i ∧ i ≤ nb4 ∧ Hid (Below x5.heap.size x5 wr)) (fun _ _ _ _ s48 _ => nb4 - (intOf s48).toNat)
    case atStart => exact ⟨0, _, _, _, _, rfl, rfl, rfl, rfl, rfl, Nat.zero_le _, HZ⟩
    case round =>
      clear HZ
      obtain ⟨i, v10, v11, v12, v14, rfl, rfl, rfl, rfl, rfl, hi, HBR⟩ := hrel
      by_cases hlt : i < nb4
      · skip
        obtain ⟨ad, t, hBA, hab, ht, hcell⟩ := RdR.get ((HT4.out.below HBR.out).more HBR.out.size) (k := i) (by rw [HTL4.out.1]; exact hlt)
        rw [hBA]
        obtain ⟨s, r, rfl⟩ := two_of (HTL.out t (List.mem_of_getElem? ht))
        have HT := Lib.hid (show T[(i : Int).toNat]? = some [s, r] by rw [Int.toNat_natCast]; exact ht)
        have q0 : wr.cell? (ad.add (i * 2)) = some (.int .i64 s) := hcell 0 _ rfl
        have q1 : wr.cell? ⟨(ad.add (i * 2)).block, (ad.add (i * 2)).off + 1, none⟩ = some (.int .i64 r) := st_cells (j := 0) (hcell 1 _ rfl)
        clear hBA hcell ht hab
        have b1 : (i : Int) < (nb4 : Int) := by omega
        have b0 : ¬ (i : Int) < 0 := by omega
        have hx := (box_below wr (.cells #[.int .i64 (i : Int)] 3)).alloc (by simp) (.cells #[.int .i64 s, .int .i64 r] 45)
        have KI := Lib.hid (show Blk ((wr.alloc (.cells #[.int .i64 (i : Int)] 3)).alloc (.cells #[.int .i64 s, .int .i64 r] 45)) wr.heap.size 3 [.int .i64 (i : Int)] from (Blk.new _ _ [_]).al _)
        have KP := Lib.hid (show Blk ((wr.alloc (.cells #[.int .i64 (i : Int)] 3)).alloc (.cells #[.int .i64 s, .int .i64 r] 45)) (wr.heap.size + 1) 45 [.int .i64 s, .int .i64 r] from Blk.at_ _ _ [_, _] (by simp))
        have HB2 := Lib.hid (HBR.out.trans (hx.mono HBR.out.size))
        clear hx
        go_upto_region 13 with fail
        obtain ⟨bi, hbi⟩ : ∃ b, wr.heap.size = b := ⟨_, rfl⟩
        rw [hbi] at KI KP ⊢
        generalize (wr.alloc (.cells #[.int .i64 (i : Int)] 3)).alloc (.cells #[.int .i64 s, .int .i64 r] 45) = w2 at KI KP HB2 ⊢
        clear hbi q0 q1 HBR
        have VSr := Lib.hid (VS.out.below HB2.out)
        have st := VSr.out.blk.cell (j := 10) rfl
        have su := VSr.out.blk.cell (j := 8) rfl
        have lb := VSr.out.blk.lt
        have HOL := Lib.hid (own_lit1 w2 w2.heap.size (Nat.le_refl _) (.int .i64 z.tick) 3)
        have hxb := box_below w2 (.cells #[.int .i64 z.tick] 3)
        have HUR := Lib.hid ((VSr.out.ok.ru.below hxb).more hxb.size)
        have hlu := VSr.out.ok.lu
        have hzz : w2.heap.size ≤ (w2.alloc (.cells #[.int .i64 z.tick] 3)).heap.size := hxb.size
        have HXB := Lib.hid hxb; clear hxb
        have HLU := Lib.hid (show (iv z.u).length = z.nu by rw [iv_length]; exact hlu)
        clear hlu
        go_wp2_with (at_builtin; refine wpList_app (w2.alloc (.cells #[.int .i64 z.tick] 3)) rfl (.tmp 55) (.tmp 57) 30 rfl w2.heap.size 3 (.int .i64 0) 8 Tryz.underlying30 int_info rfl (.slice (some ⟨w2.heap.size, 0, none⟩) 1 1) 1 _ rfl HOL.out _ z.U z.nu z.cu (iv z.u) HLU.out rfl HUR.out (fun v hv => by obtain ⟨k, _, rfl⟩ := List.mem_map.1 hv; rfl) (by omega) (by omega) hzz ?_; intro v3 w3 ho3 hg3 hb3 _; obtain ⟨LA, lc, rfl⟩ := own_shape ho3; have HL3 := Lib.hid (RdI.of_own (show w3.ownsRow w2.heap.size 3 1 (.slice LA (1 + z.nu) lc) (1 + z.nu) (iv (z.tick :: z.u)) from ho3)); have HB3 := Lib.hid (HXB.out.trans hb3); clear ho3 hg3 hb3)
        have HB4 := Lib.hid (HB2.out.trans (HB3.out.mono HB2.out.size))
        have KI3 := Lib.hid (KI.out.below HB3.out KI.out.lt)
        have KP3 := Lib.hid (KP.out.below HB3.out KP.out.lt)
        have HLL := Lib.hid (show (z.tick :: z.u).length = 1 + z.nu by rw [List.length_cons, ← HLU.out, iv_length, Nat.add_comm])
        clear st su lb HOL HUR hzz HXB KI KP VSr
        have HZ := Lib.hid (Below.refl w3.heap.size w3)
        obtain ⟨wo, rfl⟩ : ∃ wo : World, wo = wr := ⟨_, rfl⟩
        go_loopw [12, 14, 60] (fun s12 s14 s60 wr => ∃ (k : Nat) (ab : Bool) (v14 : Value), s12 = .bool ab ∧ s14 = v14 ∧ s60 = .int .i64 k ∧ k ≤ 1 + z.nu ∧ Hid (Below w3.heap.size w3 wr) ∧ Hid (ab = true → ∃ v, (v = z.tick ∨ v ∈ z.u) ∧ 0 ≤ nxt z.p.a s v)) (fun _ _ s60 _ => 1 + z.nu - (intOf s60).toNat)
        case atStart => exact ⟨0, false, _, rfl, rfl, rfl, Nat.zero_le _, HZ, Lib.hid (fun h => by cases h)⟩
        case round =>
          clear HZ
          obtain ⟨k, ab, v14, rfl, rfl, rfl, hk, HBK, HAB⟩ := hrel
          have HB5 := Lib.hid (HB4.out.trans (HBK.out.mono HB4.out.size))
          have VSr := Lib.hid (VS.out.below HB5.out)
          have VY := Lib.hid (VY4.out.below HB5.out)
          have KIr := Lib.hid (KI3.out.below HBK.out KI3.out.lt)
          have KPr := Lib.hid (KP3.out.below HBK.out KP3.out.lt)
          by_cases hkl : k < 1 + z.nu
          · skip
            obtain ⟨ade, v, hLA, hbe, hv, hce⟩ := (HL3.out.below HBK.out).at_ (k := k) (by rw [HLL.out]; exact hkl)
            rw [hLA]
            have HV := Lib.hid (show v = z.tick ∨ v ∈ z.u from by rcases List.mem_cons.1 (List.mem_of_getElem? hv) with h | h; exact .inl h; exact .inr h)
            clear hLA hbe hv
            have b1 : (k : Int) < ((1 + z.nu : Nat) : Int) := by omega
            have b0 : ¬ (k : Int) < 0 := by omega
            have a0 := VSr.out.blk.cell (j := 0) rfl
            have a1 := VSr.out.blk.cell (j := 1) rfl
            have a2 := VSr.out.blk.cell (j := 2) rfl
            have a3 := VSr.out.blk.cell (j := 3) rfl
            have p0 := KPr.out.cell (j := 0) rfl
            have HC := Lib.hid (law_step z.p.A z.p.na z.p.ca z.p.M z.p.nm z.p.cm z.p.E z.p.ne z.p.ce z.p.a s v wr VSr.out.ok.p)
            obtain ⟨np, hnp⟩ : ∃ k, nxt z.p.a s v = k := ⟨_, rfl⟩
            rw [hnp] at HC
            have HNP := Lib.hid hnp; clear hnp
            go_wp2_with fail
            refine HC.out.mono ?_
            rintro e w6 ⟨rfl, hb⟩
            have HBK6 := Lib.hid (HBK.out.trans (hb.mono HBK.out.size))
            have HB6 := Lib.hid (HB5.out.trans (hb.mono HB5.out.size))
            have VS6 := Lib.hid (VSr.out.below hb)
            have VY6 := Lib.hid (VY.out.below hb)
            have KI6 := Lib.hid (KIr.out.below hb KIr.out.lt)
            clear HC hb hce a0 a1 a2 a3 p0 VSr VY KIr KPr HB5 HBK
            by_cases hn : np < 0
            · skip
              go_wp2
              go_roundw
              case rel => exact ⟨k + 1, ab, _, rfl, rfl, by go_num, by omega, HBK6, HAB⟩
              case measure => simp [intOf]; omega
            have HAB2 := Lib.hid (show true = true → ∃ v, (v = z.tick ∨ v ∈ z.u) ∧ 0 ≤ nxt z.p.a s v from fun _ => ⟨v, HV.out, by rw [HNP.out]; omega⟩)
            have HLV := Lib.hid (fun h2 => lives_at HS.out.prob HBD.out (i := (i : Int)) (by omega) HT.out (v := v) (by rw [HNP.out]; omega) HV.out h2)
            have p0 := VY6.out.c0
            have p1 := VY6.out.c1
            have p2 := VY6.out.c2
            have p3 := VY6.out.c3
            have i0 := KI6.out.cell (j := 0) rfl
            have HC := Lib.hid (law_step y4.A y4.na y4.ca y4.M y4.nm y4.cm y4.E y4.ne y4.ce y4.a (i : Int) v w6 VY6.out.ok)
            have HNE := Lib.hid (show nxt y4.a (i : Int) v = nxt q (i : Int) v by rw [HYA4.out])
            rw [HNE.out] at HC
            obtain ⟨nq, hnq⟩ : ∃ k, nxt q (i : Int) v = k := ⟨_, rfl⟩
            rw [hnq] at HC HLV
            clear hnq
            have s9 := VS6.out.blk.cell (j := 9) rfl
            have s10 := VS6.out.blk.cell (j := 10) rfl
            go_wp2_with fail
            refine HC.out.mono ?_
            rintro e w7 ⟨rfl, hb⟩
            have HBK7 := Lib.hid (HBK6.out.trans (hb.mono HBK6.out.size))
            have VS7 := Lib.hid (VS6.out.below hb)
            clear HC p0 p1 p2 p3 i0 s9 s10 VY6 KI6 hb
            have s9 := VS7.out.blk.cell (j := 9) rfl
            have s10 := VS7.out.blk.cell (j := 10) rfl
            by_cases hq : nq < 0
            · skip
              obtain ⟨hvt, xf, hxf, _⟩ := HLV.out hq
              have hnf : ((z.nf : Int) == 0) = false := by
                have h1 := VS7.out.ok.lf
                have h2 := List.length_pos_of_mem hxf
                rw [beq_eq_false_iff_ne]; omega
              have hvv : (v != z.tick) = false := by rw [hvt]; simp
              clear hvt hxf
              go_wp2
              go_roundw
              case rel => exact ⟨k + 1, true, _, rfl, rfl, by go_num, by omega, HBK7, Lib.hid (fun _ => HAB2.out trivial)⟩
              case measure => simp [intOf]; omega
            · skip
              go_wp2
              go_roundw
              case rel => exact ⟨k + 1, true, _, rfl, rfl, by go_num, by omega, HBK7, Lib.hid (fun _ => HAB2.out trivial)⟩
              case measure => simp [intOf]; omega
          · skip
            obtain rfl : k = 1 + z.nu := by omega
            have b1 : ¬ ((1 + z.nu : Nat) : Int) < ((1 + z.nu : Nat) : Int) := by omega
            cases ab with
            | false =>
              go_wp2
              go_roundw
              case rel => exact ⟨i + 1, _, _, _, _, rfl, rfl, rfl, rfl, by go_num, by omega, HB5⟩
              case measure => simp [intOf]; omega
            | true =>
              have HXE := Lib.hid (show ∃ x ∈ y4.a.ed, x.f = (i : Int) by
                obtain ⟨v, h1, h2⟩ := HAB.out rfl
                rw [HYA4.out]
                exact lives_able HS.out.prob HBD.out (by omega) HT.out h2 h1)
              have HLE := Lib.hid VY.out.ok.le
              have HC := Lib.hid (lives_contains y4.E y4.ce y4.ne y4.a.ed (i : Int) ⟨bi, 0, none⟩ wr VY.out.ok.le VY.out.ok.re (by have h3 := HLE.out; rw [HYA4.out] at h3; have h5 := HS.out.prob.pwf.ed_le; omega) (KIr.out.cell (j := 0) rfl) KIr.out.lt HXE.out)
              have e3 := VY.out.c3
              go_wp2_with fail
              refine HC.out.mono ?_
              rintro e w8 ⟨rfl, hb⟩
              have HB8 := Lib.hid (HB5.out.trans (hb.mono HB5.out.size))
              clear HC hb e3
              go_wp2
              go_roundw
              case rel => exact ⟨i + 1, _, _, _, _, rfl, rfl, rfl, rfl, by go_num, by omega, HB8⟩
              case measure => simp [intOf]; omega
      · skip
        obtain rfl : i = nb4 := by omega
        have b1 : ¬ (i : Int) < (i : Int) := by omega
        go_wp2
        go_ret
        exact ⟨rfl, HBx5.out.trans (HBR.out.mono HBx5.out.size)⟩
end Go.Proofs.YtioijhpbedmeaaaGreatDoor
