/- The law ForcingForces: its walk. Printed by wip/mkz.py. -/
import Derived.Test.YtioijhpbedmeaaaGreatDoorYw
import Derived.Deep.Cut
namespace Go.Proofs.YtioijhpbedmeaaaGreatDoor
open Go.RowKit Go Go.Maps
/-- push of an element that lies in some block; where the row lies then -/
theorem step_pushLL {P : Program} (w : World) (us : List Value) {ops : Array Oper} {o : Oper} {a : Act} {K : Act → World → Prop} {Q : Exit → Act → World → Prop} {E : Prop} (hgd : o.guard = none) (s x : Operand) (t : TypeId)
    (ho : o.op = .call { callee := .builtin .append, args := #[s, x], argTypes := #[t, t] })
    (base : Nat) (e : TypeId) (z : Value) (size bytes : Nat) (ht : P.underlying t = some (.slice e)) (hinfo : (P.info? e).map (fun i => (i.zero, i.size, i.bytes)) = some (some z, size, bytes))
    (hz1 : z.cells.size = size) (hsz : 0 < size) (hus : us.length = size) (v : Value) (n : Nat) (xs : List Value) (hs : a.eval s = v) (hown : w.ownsRow base e size v n xs)
    (g : Nat) (tt : TypeId) (hx : a.eval x = .slice (some ⟨g, 0, none⟩) 1 1) (hk : Blk w g tt us) (h1 : ∀ u ∈ us, u.oneCell' = true) (hbytes : (n + 1) * bytes ≤ 140737488355328) (hn : n + 1 ≤ 9223372036854775807) (hbase : base ≤ w.heap.size)
    (h : ∀ A c w', w'.ownsRow base e size (.slice A (n + 1) c) (n + 1) (xs ++ us) → w.grownBy w' v.ownBlock → ((Value.slice A (n + 1) c).ownBlock = v.ownBlock ∨ ∃ g, (Value.slice A (n + 1) c).ownBlock = some g ∧ w.heap.size ≤ g) → K (a.put o.dst (.slice A (n + 1) c)) w') :
    if Region.wanted o (yielded ops a.tmps) = true then Oper.wp P o a w K Q else E := by
  obtain ⟨i, hi, hz, hs1, hby⟩ := info_parts hinfo
  refine step_append_lies w hgd s x t ho base e i z size bytes ht hi hz hs1 hby hz1 hsz v n xs hs hown ⟨g, 0, none⟩ 1 1 us hx (by rw [hus, Nat.one_mul]) ?_ h1 (by omega) (by unfold maxLen; omega) hbytes hbase _ rfl ?_
  · intro j y hj
    rw [add_lit0]
    exact hk.cell hj
  · intro g cap w' ho' hg hl _
    refine h _ cap w' ho' hg ?_
    rcases hl with hl | rfl
    · left; rw [hl]; rfl
    · right; exact ⟨_, rfl, Nat.le_refl _⟩
/-- the states and their lists of events, as they grow -/
structure FrI (w0 w : World) (sv ev : Value) (ks ke : Nat) (ss : List Int) (xs : List SlV) : Prop where
  bel : Below w0.heap.size w0 w
  st : w.ownsRow w0.heap.size 3 1 sv ks (iv ss)
  sl : ss.length = ks
  row : w.ownsRow w0.heap.size 30 1 ev ke (xs.map SlV.v)
  len : xs.length = ke
  wds : ∀ x ∈ xs, w.ownsRow w0.heap.size 3 1 x.v x.l.length (iv x.l) ∧ (x.v.ownBlock = none ∨ x.v.ownBlock ≠ sv.ownBlock)
section
variable {w0 w w' : World} {sv ev : Value} {ks ke : Nat} {ss : List Int} {xs : List SlV}
theorem FrI.start (w0 : World) : FrI w0 w0 (.slice none 0 0) (.slice none 0 0) 0 0 [] [] := ⟨Below.refl _ _, World.ownsRow_nil _ _ _ _, rfl, World.ownsRow_nil _ _ _ _, rfl, fun x hx => by cases hx⟩
theorem FrI.quiet (h : FrI w0 w sv ev ks ke ss xs) (hb : Below w.heap.size w w') : FrI w0 w' sv ev ks ke ss xs :=
  ⟨h.bel.trans (hb.mono h.bel.size), own_below h.st hb, h.sl, own_below h.row hb, h.len, fun x hx => ⟨own_below (h.wds x hx).1 hb, (h.wds x hx).2⟩⟩
theorem FrI.pushS (h : FrI w0 w sv ev ks ke ss xs) {A : Option Addr} {c : Nat} {i : Int} (ho : w'.ownsRow w0.heap.size 3 1 (.slice A (ks + 1) c) (ks + 1) (iv ss ++ [.int .i64 i])) (hg : w.grownBy w' sv.ownBlock)
    (hl : (Value.slice A (ks + 1) c).ownBlock = sv.ownBlock ∨ ∃ g, (Value.slice A (ks + 1) c).ownBlock = some g ∧ w.heap.size ≤ g) : FrI w0 w' (.slice A (ks + 1) c) ev (ks + 1) ke (ss ++ [i]) xs := by
  refine ⟨h.bel.grown hg h.bel.size fun j hj => (h.st.lt j hj).1, by rw [iv_append]; exact ho, by rw [List.length_append, h.sl]; rfl, own_kept_ne h.row h.st (by decide) hg, h.len, fun x hx => ?_⟩
  obtain ⟨h1, h2⟩ := h.wds x hx
  refine ⟨own_far h1 hg (fun g e1 e2 => ?_), ?_⟩
  · rcases h2 with h2 | h2
    · rw [h2] at e1; cases e1
    · exact h2 (e1.trans e2.symm)
  · rcases hl with hl | ⟨g, hl, hge⟩
    · rw [hl]; exact h2
    · cases hv : x.v.ownBlock with
      | none => exact .inl rfl
      | some k => right; rw [hl]; intro e; injection e with e; have := (h1.lt k hv).2; omega
theorem FrI.pushE (h : FrI w0 w sv ev ks ke ss xs) {A : Option Addr} {c : Nat} {x : SlV} (hx : w.ownsRow w0.heap.size 3 1 x.v x.l.length (iv x.l)) (hxo : x.v.ownBlock = none ∨ x.v.ownBlock ≠ sv.ownBlock) (ho : w'.ownsRow w0.heap.size 30 1 (.slice A (ke + 1) c) (ke + 1) (xs.map SlV.v ++ [x.v])) (hg : w.grownBy w' ev.ownBlock) :
    FrI w0 w' sv (.slice A (ke + 1) c) ks (ke + 1) ss (xs ++ [x]) := by
  refine ⟨h.bel.grown hg h.bel.size fun j hj => (h.row.lt j hj).1, own_kept_ne h.st h.row (by decide) hg, h.sl, by rw [List.map_append]; exact ho, by rw [List.length_append, h.len]; rfl, fun y hy => ?_⟩
  rcases List.mem_append.1 hy with hy | hy
  · exact ⟨own_kept_ne (h.wds y hy).1 h.row (by decide) hg, (h.wds y hy).2⟩
  · obtain rfl := List.mem_singleton.1 hy
    exact ⟨own_kept_ne hx h.row (by decide) hg, hxo⟩
end
def frs (z : SV) (q : Aut) (T : List (List Int)) (i : Nat) : List Int := (rngI (i : Int)).filter fun k => refE z.p.a q T k z.tick
theorem frs_yes {z : SV} {q : Aut} {T : List (List Int)} {i : Nat} (h : refE z.p.a q T i z.tick = true) : frs z q T (i + 1) = frs z q T i ++ [(i : Int)] := by
  unfold frs; rw [rngI_snoc, List.filter_append]; congr 1; exact List.filter_cons_of_pos (p := fun k => refE z.p.a q T k z.tick) h
theorem frs_no {z : SV} {q : Aut} {T : List (List Int)} {i : Nat} (h : refE z.p.a q T i z.tick = false) : frs z q T (i + 1) = frs z q T i := by
  unfold frs; rw [rngI_snoc, List.filter_append, List.filter_cons_of_neg (p := fun k => refE z.p.a q T k z.tick) (by rw [h]; simp)]; simp
set_option maxRecDepth 100000 in
set_option maxHeartbeats 1600000 in
theorem forces_walk (x : Sk) (w : World) (hok : x.ok) :
    Calls Tryz.prog 5 #[.agg (skcells x).toArray] w fun e w' => e = .returned (.bool true) ∧ Below w.heap.size w w' := by
  have hb1 := box_below w (.cells (skcells x).toArray 28)
  obtain ⟨w1, hw1⟩ : ∃ w1, w1 = (w.alloc (.cells (skcells x).toArray 28)) := ⟨_, rfl⟩
  have kx : Blk w1 w.heap.size 28 (skcells x) := by rw [hw1]; exact Blk.new _ _ _
  rw [← hw1] at hb1
  have HC := Lib.hid (law_known45 w1)
  have HW1 := Lib.hid hw1; clear hw1
  have HB1 := Lib.hid hb1; clear hb1
  have KX := Lib.hid kx; clear kx
  have HOK := Lib.hid hok; clear hok
  go_enter Tryz.func5, Tryz.ntmps5
  go_wp2_with fail
  rw [← HW1.out]
  refine HC.out.mono ?_
  rintro e w2 ⟨rfl, hb⟩
  have HB2 := Lib.hid (HB1.out.trans (hb.mono HB1.out.size))
  have hk2 := KX.out.below hb KX.out.lt
  have HMK := Lib.hid (law_MakeS x w2 HOK.out)
  clear HC hb KX HB1 HW1
  go_wp2_with (first | refine wpList_load_sk rfl _ rfl w.heap.size x HOK.out (by rfl) hk2 ?_ | fail)
  clear hk2
  refine HMK.out.mono ?_
  rintro e w3 ⟨z, rfl, hp, hs, hu, hf, ht, hz, hb⟩
  obtain ⟨q, T, hS, hP⟩ := SysR.of HOK.out hz hp hs hu hf ht
  have vs := VarS.new hz
  have hbx := box_below w3 (.cells #[.slice z.p.A z.p.na z.p.ca, .int .i64 z.p.a.st, .slice z.p.M z.p.nm z.p.cm, .slice z.p.E z.p.ne z.p.ce, .slice z.s.A z.s.na z.s.ca, .int .i64 z.s.a.st, .slice z.s.M z.s.nm z.s.cm, .slice z.s.E z.s.ne z.s.ce, .slice z.U z.nu z.cu, .slice z.F z.nf z.cf, .int .i64 z.tick] 35)
  have HB4 := Lib.hid (HB2.out.trans ((hb.trans (hbx.mono hb.size)).mono HB2.out.size))
  have HS := Lib.hid hS; clear hS
  clear hp hs hu hf ht hz hb hbx HMK HB2 hP
  unfold svc
  go_upto_region 4 with fail
  obtain ⟨bs, hbs⟩ : ∃ b, w3.heap.size = b := ⟨_, rfl⟩
  rw [hbs] at vs ⊢
  generalize w3.alloc (.cells #[.slice z.p.A z.p.na z.p.ca, .int .i64 z.p.a.st, .slice z.p.M z.p.nm z.p.cm, .slice z.p.E z.p.ne z.p.ce, .slice z.s.A z.s.na z.s.ca, .int .i64 z.s.a.st, .slice z.s.M z.s.nm z.s.cm, .slice z.s.E z.s.ne z.s.ce, .slice z.U z.nu z.cu, .slice z.F z.nf z.cf, .int .i64 z.tick] 35) = w4 at vs HB4 ⊢
  clear hbs
  have VS := Lib.hid vs; clear vs
  have HTL := Lib.hid (show ∀ t ∈ T, t.length = 2 from HS.out.prob.len2)
  have HPE := Lib.hid (show preE z.p.a q T z.tick = frs z q T T.length from pre_flt HS.out.prob.wp)
  have HCP := Lib.hid (HS.out.pre VS.out.ok)
  rw [HPE.out] at HCP
  obtain ⟨pl, hpl⟩ : ∃ l, frs z q T T.length = l := ⟨_, rfl⟩
  obtain ⟨np, hnp⟩ : ∃ n, pl.length = n := ⟨_, rfl⟩
  rw [hpl] at HCP
  have HPL := Lib.hid hpl; clear hpl
  have HNP := Lib.hid hnp; clear hnp
  go_wp2_with (first | refine wpList_load_sys rfl _ rfl bs z (by rfl) VS.out ?_ | fail)
  refine HCP.out.mono ?_
  rintro e v4 ⟨vp, rfl, ho, hb⟩
  rw [HNP.out] at ho
  obtain ⟨PA, pc, rfl⟩ := own_shape ho
  have HPA := Lib.hid (RdI.of_own ho)
  have HPC := Lib.hid (own_cap' ho)
  clear ho HCP
  have HBv4 := Lib.hid (HB4.out.trans (hb.mono HB4.out.size))
  replace VS := Lib.hid (VS.out.below hb)
  clear hb HB4
  go_upto_region 5 with fail
  have HCF := Lib.hid (HS.out.frcd VS.out.ok)
  rw [HPE.out, HPL.out] at HCF
  go_wp2_with (first | refine wpList_load_sys rfl _ rfl bs z (by rfl) VS.out ?_ | fail)
  refine HCF.out.mono ?_
  rintro e v5 ⟨FA, fc, xf, rfl, hfl, hfr, hf1, hf2, hb⟩
  rw [List.length_map, HNP.out] at hf1 ⊢
  have HFA := Lib.hid hfr
  have HFL := Lib.hid (And.intro hfl (And.intro hf1 hf2))
  clear hfl hfr hf1 hf2 HCF
  have HBv5 := Lib.hid (HBv4.out.trans (hb.mono HBv4.out.size))
  replace VS := Lib.hid (VS.out.below hb)
  replace HPA := Lib.hid ((HPA.out.below hb).more hb.size)
  clear hb HBv4
  go_upto_region 6 with fail
  have HC := Lib.hid (HS.out.lloop VS.out.ok)
  go_wp2_with (first | refine wpList_load_sys rfl _ rfl bs z (by rfl) VS.out ?_ | fail)
  refine HC.out.mono ?_
  rintro e v6 ⟨y6, B6, nb6, cb6, C6, cc6, ws6, rfl, hya, hy, hT, tl, t1, t2, hC, hwl, u1, u2, hb⟩
  have HT6 := Lib.hid hT
  have HTL6 := Lib.hid (And.intro tl (And.intro t1 t2))
  have HW6 := Lib.hid hC
  have HWL6 := Lib.hid (And.intro hwl (And.intro u1 u2))
  have HYA6 := Lib.hid hya
  clear hT tl t1 t2 hC hwl u1 u2 hya HC
  have HBv6 := Lib.hid (HBv5.out.trans (hb.mono HBv5.out.size))
  replace VS := Lib.hid (VS.out.below hb)
  replace HPA := Lib.hid ((HPA.out.below hb).more hb.size)
  replace HFA := Lib.hid ((HFA.out.below hb).more hb.size)
  clear hb HBv5
  have VY6 := Lib.hid (VarA.new hy)
  have hx := box_below v6 (.cells #[.slice y6.A y6.na y6.ca, .int .i64 y6.a.st, .slice y6.M y6.nm y6.cm, .slice y6.E y6.ne y6.ce] 33)
  clear hy
  have HBx6 := Lib.hid (HBv6.out.trans (hx.mono HBv6.out.size))
  replace VS := Lib.hid (VS.out.below hx)
  replace HPA := Lib.hid ((HPA.out.below hx).more hx.size)
  replace HFA := Lib.hid ((HFA.out.below hx).more hx.size)
  replace HT6 := Lib.hid ((HT6.out.below hx).more hx.size)
  replace HW6 := Lib.hid ((HW6.out.below hx).more hx.size)
  clear hx HBv6
  go_upto_region 7 with fail
  obtain ⟨b6, hn⟩ : ∃ b, v6.heap.size = b := ⟨_, rfl⟩
  rw [hn] at VY6 ⊢
  generalize v6.alloc (.cells #[.slice y6.A y6.na y6.ca, .int .i64 y6.a.st, .slice y6.M y6.nm y6.cm, .slice y6.E y6.ne y6.ce] 33) = x6 at VY6 HBx6 VS HPA HFA HT6 HW6 ⊢
  clear hn
  have HST := Lib.hid (show y6.a.st = (nb6 : Int) by rw [HYA6.out, HS.out.prob.tups.1, HTL6.out.1])
  have hnb : nb6 ≤ 3600 := by have := HTL6.out.1; have := HS.out.prob.len; omega
  have HFR := Lib.hid (FrI.start x6)
  have q1 := VY6.out.c1
  rw [HST.out] at q1
  go_wp2
  clear q1
  go_loopw [11, 12, 13, 36] (fun s11 s12 s13 s36 wr => ∃ (i k : Nat) (sv ev v13 : Value) (xs : List SlV), s11 = sv ∧ s12 = ev ∧ s13 = v13 ∧ s36 = .int .i64 i ∧ i ≤ nb6 ∧ k ≤ i ∧ Hid (FrI x6 wr sv ev k k (frs z q T i) xs) ∧ Hid (xs.map SlV.l = (frs z q T i).map (frcE q z.f))) (fun _ _ _ s36 _ => nb6 - (intOf s36).toNat)
  case atStart => exact ⟨0, 0, _, _, _, [], rfl, rfl, rfl, rfl, Nat.zero_le _, Nat.le_refl _, HFR, Lib.hid rfl⟩
  case round =>
    clear HFR
    obtain ⟨i, k, sv, ev, v13, xs, rfl, rfl, rfl, rfl, hi, hk, HFR, HXF⟩ := hrel
    obtain ⟨SA, sc, rfl⟩ := own_shape HFR.out.st
    obtain ⟨EA, ec, rfl⟩ := own_shape HFR.out.row
    have HBR := Lib.hid HFR.out.bel
    by_cases hlt : i < nb6
    · skip
      have b1 : (i : Int) < (nb6 : Int) := by omega
      obtain ⟨t, ht⟩ : ∃ t, refE z.p.a q T i z.tick = t := ⟨_, rfl⟩
      have VSr := Lib.hid (VS.out.below HBR.out)
      have VY := Lib.hid (VY6.out.below HBR.out)
      have HC := Lib.hid (HS.out.refuses (cb := cb6) VSr.out.ok z.tick VY.out.ok HYA6.out ((HT6.out.below HBR.out).more HBR.out.size) HTL6.out.1 hlt t ht)
      have HT := Lib.hid ht; clear ht
      have p0 := VY.out.c0
      have p1 := VY.out.c1
      have p2 := VY.out.c2
      have p3 := VY.out.c3
      have st := VSr.out.blk.cell (j := 10) rfl
      go_wp2_with (first | refine wpList_load_sys rfl _ rfl bs z (by rfl) VSr.out ?_ | fail)
      refine HC.out.mono ?_
      rintro e wk ⟨rfl, hb⟩
      have HF2 := Lib.hid (HFR.out.quiet hb)
      clear HC p0 p1 p2 p3 st VSr VY hb HFR HBR
      cases t with
      | false =>
        have HFN := Lib.hid (frs_no HT.out)
        rw [← HFN.out] at HF2 HXF
        go_wp2
        go_roundw
        case rel => exact ⟨i + 1, k, _, _, _, xs, rfl, rfl, rfl, by go_num, by omega, by omega, HF2, HXF⟩
        case measure => simp [intOf]; omega
      | true =>
        have HFN := Lib.hid (frs_yes HT.out)
        have HAX := Lib.hid (fun (W : World) (hb : Below x6.heap.size x6 W) => (show W.rangeAt bs 0 (svc z) ∧ CV W b6 y6 from ⟨fun j v hv => by rw [Nat.zero_add]; exact (VS.out.below hb).blk.cell hv, (VY6.out.below hb).cv⟩))
        have HCF := Lib.hid (fun (W : World) (hb : Below x6.heap.size x6 W) => law_forced z y6 i W (VS.out.below hb).ok (VY6.out.below hb).ok HS.out.nf)
        have HFE := Lib.hid (show frcE y6.a z.f i = frcE q z.f i by rw [HYA6.out])
        rw [HFE.out] at HCF
        go_upto_region 13 with fail
        refine wp_region_U (fun W => W.rangeAt bs 0 (svc z) ∧ CV W b6 y6) (fun _ => True) 12 (by kernel_rfl) ?_
        change anyU _ _ _ _ _ _ _ 13 _ _ _
        have hB0 : True := trivial
        have hdr := below_dr wk
        have HF3 := Lib.hid (HF2.out.quiet hdr)
        clear hdr HF2
        generalize wk.drew = wd at HF3 ⊢
        have hA0 := HAX.out wd HF3.out.bel
        (refine uA 0 ?_ rfl hA0 hB0 (fun W hA => ?_) ?_; rotate_left; (· (go_simp; try with_reducible rfl)); refine uA 1 ?_ rfl hA0 hB0 (fun W hA => ?_) ?_; rotate_left; (· (go_simp; try with_reducible rfl)); refine uA 4 ?_ rfl hA0 hB0 (fun W hA => ?_) ?_; rotate_left; (· (go_simp; try with_reducible rfl)); (try simp only [Act.put, List.setIfInBounds_toArray, List.set_cons_zero, List.set_cons_succ]))
        refine uTakeY (i := 5) (v := .agg (svc z).toArray) rfl (by kernel_rfl) (fun _ _ _ h => h) ?_ ⟨hA0, fun _ => hB0⟩ ?_
        · exact yieldsIf_load_mid (by rfl) 35 (.tmp 3) rfl bs 0 rfl (svc z) _ (fun W hW => hW.1) Tryz.underlying35 rfl (by exact sys_size)
        (try simp only [Act.put, List.setIfInBounds_toArray, List.set_cons_zero, List.set_cons_succ])
        (refine uA 6 ?_ rfl hA0 hB0 (fun W hA => ?_) ?_; rotate_left; (· (obtain ⟨_, a0, a1, a2, a3⟩ := hA; go_simp; try with_reducible rfl)); (try simp only [Act.put, List.setIfInBounds_toArray, List.set_cons_zero, List.set_cons_succ]))
        (refine uA 7 ?_ rfl hA0 hB0 (fun W hA => ?_) ?_; rotate_left; (· (go_simp; try with_reducible rfl)); (try simp only [Act.put, List.setIfInBounds_toArray, List.set_cons_zero, List.set_cons_succ]))
        refine uOne (i := 2) rfl (by kernel_rfl) (fun K hK => ?_)
        go_simp
        have hx := box_below wd (.cells #[.int .i64 (i : Int)] 3)
        have KN := Lib.hid (show Blk (wd.alloc (.cells #[.int .i64 (i : Int)] 3)) wd.heap.size 3 [.int .i64 (i : Int)] from Blk.new _ _ [_])
        have HF4 := Lib.hid (HF3.out.quiet hx)
        clear hx hA0
        generalize wd.alloc (.cells #[.int .i64 (i : Int)] 3) = w1 at KN HF4 ⊢
        have hA0 := HAX.out w1 HF4.out.bel
        (refine hK _ _ ⟨hA0, fun _ => hB0⟩ ?_; clear hK K; (try simp only [Act.put, List.setIfInBounds_toArray, List.set_cons_zero, List.set_cons_succ]))
        refine uOne (i := 3) rfl (by kernel_rfl) (fun K hK => ?_)
        have hsz := HF4.out.bel.size
        refine step_pushLL w1 [.int .i64 (i : Int)] (by rfl) (.tmp 46) (.tmp 48) 30 (by rfl) x6.heap.size 3 (.int .i64 0) 1 8 Tryz.underlying30 int_info (by rfl) (by decide) (by rfl) (.slice SA k sc) k _ (by rfl) HF4.out.st wd.heap.size 3 (by rfl) KN.out (fun u hu => by simp at hu; subst hu; rfl) (by omega) (by omega) hsz ?_
        intro A3 c3 w3 ho3 hg3 hl3
        have HF5 := Lib.hid (HF4.out.pushS ho3 hg3 hl3)
        rw [← HFN.out] at HF5
        clear ho3 hg3 hl3 hsz hA0
        have hA0 := HAX.out w3 HF5.out.bel
        (refine hK _ _ ⟨hA0, fun _ => hB0⟩ ?_; clear hK K; (try simp only [Act.put, List.setIfInBounds_toArray, List.set_cons_zero, List.set_cons_succ]))
        refine uOne (i := 8) rfl (by kernel_rfl) (fun K hK => ?_)
        go_simp
        go_at_call 23
        refine (HCF.out w3 HF5.out.bel).mono ?_
        rintro e w4 ⟨vf, rfl, ho4, hb4⟩
        obtain ⟨nf, hnf⟩ : ∃ n, (frcE q z.f i).length = n := ⟨_, rfl⟩
        rw [hnf] at ho4
        obtain ⟨FB, fb, rfl⟩ := own_shape ho4
        have HNF := Lib.hid hnf; clear hnf
        have HF6 := Lib.hid (HF5.out.quiet hb4)
        have HO4 := Lib.hid (own_base ho4 HF5.out.bel.size)
        have HNE := Lib.hid (fresh_ne ho4 (Nat.le_refl _) HF5.out.st)
        clear ho4 hb4 hA0
        have hA0 := HAX.out w4 HF6.out.bel
        (refine hK _ _ ⟨hA0, fun _ => hB0⟩ ?_; clear hK K; (try simp only [Act.put, List.setIfInBounds_toArray, List.set_cons_zero, List.set_cons_succ]))
        refine uOne (i := 9) rfl (by kernel_rfl) (fun K hK => ?_)
        go_simp
        have hx := box_below w4 (.cells #[.slice FB nf fb] 30)
        have KN2 := Lib.hid (show Blk (w4.alloc (.cells #[.slice FB nf fb] 30)) w4.heap.size 30 [.slice FB nf fb] from Blk.new _ _ [_])
        have HF7 := Lib.hid (HF6.out.quiet hx)
        have HO5 := Lib.hid (own_below HO4.out hx)
        clear hx hA0
        generalize w4.alloc (.cells #[.slice FB nf fb] 30) = w5 at KN2 HF7 HO5 ⊢
        have hA0 := HAX.out w5 HF7.out.bel
        (refine hK _ _ ⟨hA0, fun _ => hB0⟩ ?_; clear hK K; (try simp only [Act.put, List.setIfInBounds_toArray, List.set_cons_zero, List.set_cons_succ]))
        refine uOne (i := 10) rfl (by kernel_rfl) (fun K hK => ?_)
        have hsz := HF7.out.bel.size
        refine step_pushLL w5 [.slice FB nf fb] (by rfl) (.tmp 50) (.tmp 55) 52 (by rfl) x6.heap.size 30 (.slice none 0 0) 1 24 Tryz.underlying52 words_info (by rfl) (by decide) (by rfl) (.slice EA k ec) k _ (by rfl) HF7.out.row w4.heap.size 30 (by rfl) KN2.out (fun u hu => by simp at hu; subst hu; rfl) (by omega) (by omega) hsz ?_
        intro A6 c6 w6 ho6 hg6 _
        have HSV := Lib.hid (show SlV.v ⟨FB, fb, frcE q z.f i⟩ = .slice FB nf fb by unfold SlV.v; rw [HNF.out])
        have HF8 := Lib.hid (HF7.out.pushE (x := ⟨FB, fb, frcE q z.f i⟩) (by rw [HSV.out, HNF.out]; exact HO5.out) (by rw [HSV.out]; exact HNE.out) (by rw [HSV.out]; exact ho6) hg6)
        have HXF2 := Lib.hid (show (xs ++ [(⟨FB, fb, frcE q z.f i⟩ : SlV)]).map SlV.l = (frs z q T (i + 1)).map (frcE q z.f) by rw [HFN.out, List.map_append, List.map_append, HXF.out]; rfl)
        clear ho6 hg6 hsz hA0
        have hA0 := HAX.out w6 HF8.out.bel
        (refine hK _ _ ⟨hA0, fun _ => hB0⟩ ?_; clear hK K; (try simp only [Act.put, List.setIfInBounds_toArray, List.set_cons_zero, List.set_cons_succ]))
        refine uOne (i := 11) rfl (by kernel_rfl) (fun K hK => ?_)
        go_simp
        (refine hK _ _ ⟨hA0, fun _ => hB0⟩ ?_; clear hK K; (try simp only [Act.put, List.setIfInBounds_toArray, List.set_cons_zero, List.set_cons_succ]))
        refine uOne (i := 12) rfl (by kernel_rfl) (fun K hK => ?_)
        go_simp
        (refine hK _ _ ⟨hA0, fun h => absurd (h.symm.trans (by kernel_rfl : _ = true)) Bool.false_ne_true⟩ ?_; clear hK K; (try simp only [Act.put, List.setIfInBounds_toArray, List.set_cons_zero, List.set_cons_succ]))
        refine anyU_done (by kernel_rfl) ?_ _
        clear hA0
        go_wp2
        go_roundw
        case rel => exact ⟨i + 1, k + 1, _, _, _, _, rfl, rfl, rfl, by go_num, by omega, by omega, HF8, HXF2⟩
        case measure => simp [intOf]; omega
    · skip
      obtain rfl : i = nb6 := by omega
      have b1 : ¬ (i : Int) < (i : Int) := by omega
      have hTi : T.length = i := HTL6.out.1
      have hpi : frs z q T i = pl := by rw [← hTi]; exact HPL.out
      rw [hpi] at HFR HXF
      have hkn : k = np := by have := HFR.out.sl; rw [HNP.out] at this; exact this.symm
      subst hkn
      have HE := Lib.hid (slices_Equal_n PA SA pc sc k k pl pl true wr HNP.out HNP.out (eqB_of rfl) ((HPA.out.below HBR.out).more HBR.out.size) HPC.out.1 HPC.out.2 (RdI.of_own HFR.out.st))
      clear hTi hpi
      go_wp2_with fail
      refine HE.out.mono ?_
      rintro e wf ⟨rfl, nf9, hwf⟩
      have hbf := below_drewN (Below.refl wr.heap.size wr) nf9
      rw [← hwf] at hbf
      clear hwf HE
      have HF9 := Lib.hid (HFR.out.quiet hbf)
      have hxr : RdS wf wf.heap.size EA xs := ⟨RdV.of_own HF9.out.row, fun x hx => ⟨RdI.of_own (HF9.out.wds x hx).1, (own_cap2 (HF9.out.wds x hx).1).1, (own_cap2 (HF9.out.wds x hx).1).2⟩⟩
      have HE := Lib.hid (slices_EqualF FA EA fc ec k k xf xs true wf (by have := congrArg List.length HFL.out.1; rw [List.length_map, List.length_map, HNP.out] at this; exact this) HF9.out.len (eqP_of (by rw [HFL.out.1, HXF.out])) ((HFA.out.below HF9.out.bel).more HF9.out.bel.size) hxr HFL.out.2.1 HFL.out.2.2)
      clear hbf hxr
      go_wp2_with fail
      refine HE.out.mono ?_
      rintro e wg ⟨rfl, ng9, rfl⟩
      go_wp2
      go_ret
      exact ⟨rfl, below_drewN (HBx6.out.trans (HF9.out.bel.mono HBx6.out.size)) _⟩
end Go.Proofs.YtioijhpbedmeaaaGreatDoor
