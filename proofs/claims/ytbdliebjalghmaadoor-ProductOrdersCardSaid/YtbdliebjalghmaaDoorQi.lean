/- Plain laws: products put together step by step, and in any order. -/
import Derived.Test.YtbdliebjalghmaaDoorQg
namespace Go.Proofs.YtbdliebjalghmaaDoor

theorem stp_still {v : Int} : ∀ {l : List Aut} {t : List Int}, (∀ a ∈ l, v ∉ a.al) → t.length = l.length → stp l t v = some t
  | [], [], _, _ => rfl
  | a :: l, s :: t, h, hl => by
    have ih := stp_still (v := v) (l := l) (t := t) (fun b hb => h b (List.mem_cons_of_mem _ hb)) (by simpa using hl)
    have := stp_app (l1 := [a]) (l2 := l) (t1 := [s]) (t2 := t) (v := v) rfl
    rw [stp_out (h a (List.mem_cons_self ..)), ih] at this
    simpa using this
section
variable {l : List Aut} {s : Bs (List Int)}
theorem syn_inv (hw : ∀ a ∈ l, WF a) (hs : synS l = some s) (hn : noSt l = false) (hp : prodN l ≤ 4096) : BInv 4096 (stp l) (evs l) (ini l) s.ts.length s := by
  obtain ⟨s', hs', hi⟩ := synS_some hw hn hp
  rw [hs] at hs'
  injection hs' with hs'
  subst hs'
  exact hi
theorem at_tup (hw : ∀ a ∈ l, WF a) (hn : noSt l = false) (hi : BInv 4096 (stp l) (evs l) (ini l) s.ts.length s) {i : Int} (h : 0 ≤ i ∧ i < (s.ts.length : Int)) : Tup l (stAt s.ts (ini l) i) := by
  obtain ⟨k, t, rfl, hk⟩ := stAt_some h
  rw [stAt_get hk]
  exact rch_tup hw hn (hi.rch t (List.mem_of_getElem? hk))
/-- a product's automaton goes as the product does, whatever the event -/
theorem syn_goes (hw : ∀ a ∈ l, WF a) (hn : noSt l = false) (hi : BInv 4096 (stp l) (evs l) (ini l) s.ts.length s) {i v : Int} (h : 0 ≤ i ∧ i < (s.ts.length : Int)) :
    stp l (stAt s.ts (ini l) i) v = (stp [autOf (evs l) (mkT l) s] [i] v).map (fun t => stAt s.ts (ini l) (t.headD 0)) := by
  by_cases hv : v ∈ evs l
  · have hsim := hi.sim (p := mkT l) (evs_inc fun a ha => (hw a ha).inc)
    rw [hsim.comm i v h hv, stp_one (a := autOf (evs l) (mkT l) s) hv, Option.map_map]
    rfl
  · rw [stp_out (a := autOf (evs l) (mkT l) s) hv, stp_still (fun a ha hv' => hv (evs_mem.2 ⟨a, ha, hv'⟩)) (at_tup hw hn hi h).len]
    rfl
end
theorem one_tup {a : Aut} {t : List Int} (h : Tup [a] t) : ∃ i, t = [i] ∧ 0 ≤ i ∧ i < a.st := by
  match t, h with
  | [i], h => exact ⟨i, rfl, h.1, h.2.1⟩
theorem app_inj {a b c d : List Int} (h : a ++ b = c ++ d) (hl : a.length = c.length) : a = c ∧ b = d := List.append_inj h hl
section
variable {l1 l2 : List Aut} {s : Bs (List Int)} {r r' : Aut} {T T' : List (List Int)}
/-- the product of a product with more is the product of all -/
theorem syn_front (hw1 : ∀ a ∈ l1, WF a) (hw2 : ∀ a ∈ l2, WF a) (hn1 : noSt l1 = false) (hn2 : noSt l2 = false) (hp : prodN l1 ≤ 4096) (hs : synS l1 = some s)
    (hr : synR (autOf (evs l1) (mkT l1) s :: l2) = some (r, T)) (hr' : synR (l1 ++ l2) = some (r', T')) : r' = r := by
  have hi := syn_inv hw1 hs hn1 hp
  have hwa : WF (autOf (evs l1) (mkT l1) s) := hi.wf (Nat.le_refl _) (evs_inc fun a ha => (hw1 a ha).inc) (evs_rng hw1)
  have hst : ∀ i, 0 ≤ i ∧ i < (autOf (evs l1) (mkT l1) s).st → 0 ≤ i ∧ i < (s.ts.length : Int) := fun i h => h
  have hsim := hi.sim (p := mkT l1) (evs_inc fun a ha => (hw1 a ha).inc)
  have hwl : ∀ a ∈ autOf (evs l1) (mkT l1) s :: l2, WF a := fun a ha => by
    rcases List.mem_cons.1 ha with rfl | ha
    · exact hwa
    · exact hw2 a ha
  have hwm : ∀ a ∈ l1 ++ l2, WF a := fun a ha => by
    rcases List.mem_append.1 ha with ha | ha
    · exact hw1 a ha
    · exact hw2 a ha
  have hnl : noSt (autOf (evs l1) (mkT l1) s :: l2) = false := by
    have h0 := hi.pos
    have : noSt ([autOf (evs l1) (mkT l1) s] ++ l2) = false := by
      rw [noSt_app, hn2]
      unfold noSt
      simp only [List.any_cons, List.any_nil, Bool.or_false, decide_eq_false_iff_not]
      show ¬ ((s.ts.length : Int) = 0)
      omega
    exact this
  refine syn_sim (φ := fun t => stAt s.ts (ini l1) (t.headD 0) ++ t.tail) hwl hnl (by rw [noSt_app, hn1, hn2]; rfl) ?_ ⟨?_, ?_, ?_⟩ ?_ ?_ hr hr'
  · refine evs_eq hwm hwl fun z => ?_
    constructor
    · rintro ⟨a, ha, hz⟩
      rcases List.mem_append.1 ha with ha | ha
      · exact ⟨_, List.mem_cons_self .., evs_mem.2 ⟨a, ha, hz⟩⟩
      · exact ⟨a, List.mem_cons_of_mem _ ha, hz⟩
    · rintro ⟨a, ha, hz⟩
      rcases List.mem_cons.1 ha with rfl | ha
      · obtain ⟨b, hb, hz⟩ := evs_mem.1 hz
        exact ⟨b, List.mem_append_left _ hb, hz⟩
      · exact ⟨a, List.mem_append_right _ ha, hz⟩
  · exact fun t v x ht _ hx => stp_tup hwl ht hx
  · intro t v ht _
    obtain ⟨t1, t2, rfl, h1, h2⟩ := tup_app (l1 := [autOf (evs l1) (mkT l1) s]) ht
    obtain ⟨i, rfl, hi1⟩ := one_tup h1
    have h3 := at_tup hw1 hn1 hi (hst i hi1)
    show stp (l1 ++ l2) (stAt s.ts (ini l1) i ++ t2) v = (stp ([autOf (evs l1) (mkT l1) s] ++ l2) ([i] ++ t2) v).map _
    rw [stp_app h3.len, stp_app (l1 := [autOf (evs l1) (mkT l1) s]) (t1 := [i]) rfl, syn_goes hw1 hn1 hi (hst i hi1)]
    by_cases hv : v ∈ evs l1
    · rw [stp_one (a := autOf (evs l1) (mkT l1) s) hv]
      cases stA (autOf (evs l1) (mkT l1) s) i v <;> cases stp l2 t2 v <;> rfl
    · rw [stp_out (a := autOf (evs l1) (mkT l1) s) hv]
      cases stp l2 t2 v <;> rfl
  · intro t u ht hu e
    obtain ⟨t1, t2, rfl, h1, h2⟩ := tup_app (l1 := [autOf (evs l1) (mkT l1) s]) ht
    obtain ⟨u1, u2, rfl, g1, g2⟩ := tup_app (l1 := [autOf (evs l1) (mkT l1) s]) hu
    obtain ⟨i, rfl, hi1⟩ := one_tup h1
    obtain ⟨j, rfl, hj1⟩ := one_tup g1
    have e' : stAt s.ts (ini l1) i ++ t2 = stAt s.ts (ini l1) j ++ u2 := e
    obtain ⟨e1, e2⟩ := app_inj e' (by rw [(at_tup hw1 hn1 hi (hst i hi1)).len, (at_tup hw1 hn1 hi (hst j hj1)).len])
    rw [hsim.inj i j (hst i hi1) (hst j hj1) e1, e2]
  · show stAt s.ts (ini l1) 0 ++ List.replicate l2.length 0 = List.replicate (l1 ++ l2).length 0
    rw [hi.at0]
    show List.replicate l1.length 0 ++ List.replicate l2.length 0 = _
    rw [List.replicate_append_replicate, List.length_append]
  · intro t ht
    obtain ⟨t1, t2, rfl, h1, h2⟩ := tup_app (l1 := [autOf (evs l1) (mkT l1) s]) ht
    obtain ⟨i, rfl, hi1⟩ := one_tup h1
    show mkT (l1 ++ l2) (stAt s.ts (ini l1) i ++ t2) = mkT ([autOf (evs l1) (mkT l1) s] ++ l2) ([i] ++ t2)
    rw [mkT_app _ _ (at_tup hw1 hn1 hi (hst i hi1)).len, mkT_app (l1 := [autOf (evs l1) (mkT l1) s]) (t1 := [i]) _ _ rfl, hi.mk_at (p := mkT l1) (hst i hi1)]
    simp [mkT, mkA]
/-- the product of more with a product is the product of all -/
theorem syn_back (hw1 : ∀ a ∈ l1, WF a) (hw2 : ∀ a ∈ l2, WF a) (hn1 : noSt l1 = false) (hn2 : noSt l2 = false) (hp : prodN l2 ≤ 4096) (hs : synS l2 = some s)
    (hr : synR (l1 ++ [autOf (evs l2) (mkT l2) s]) = some (r, T)) (hr' : synR (l1 ++ l2) = some (r', T')) : r' = r := by
  have hi := syn_inv hw2 hs hn2 hp
  have hwa : WF (autOf (evs l2) (mkT l2) s) := hi.wf (Nat.le_refl _) (evs_inc fun a ha => (hw2 a ha).inc) (evs_rng hw2)
  have hst : ∀ i, 0 ≤ i ∧ i < (autOf (evs l2) (mkT l2) s).st → 0 ≤ i ∧ i < (s.ts.length : Int) := fun i h => h
  have hsim := hi.sim (p := mkT l2) (evs_inc fun a ha => (hw2 a ha).inc)
  have hwl : ∀ a ∈ l1 ++ [autOf (evs l2) (mkT l2) s], WF a := fun a ha => by
    rcases List.mem_append.1 ha with ha | ha
    · exact hw1 a ha
    · obtain rfl := List.mem_singleton.1 ha; exact hwa
  have hwm : ∀ a ∈ l1 ++ l2, WF a := fun a ha => by
    rcases List.mem_append.1 ha with ha | ha
    · exact hw1 a ha
    · exact hw2 a ha
  have hnl : noSt (l1 ++ [autOf (evs l2) (mkT l2) s]) = false := by
    have h0 := hi.pos
    rw [noSt_app, hn1]
    unfold noSt
    simp only [List.any_cons, List.any_nil, Bool.or_false, Bool.false_or, decide_eq_false_iff_not]
    show ¬ ((s.ts.length : Int) = 0)
    omega
  have hφ : ∀ (t1 : List Int) (i : Int), (t1 ++ [i]).dropLast ++ stAt s.ts (ini l2) ((t1 ++ [i]).getLastD 0) = t1 ++ stAt s.ts (ini l2) i := fun t1 i => by
    rw [List.dropLast_concat, List.getLastD_concat]
  refine syn_sim (φ := fun t => t.dropLast ++ stAt s.ts (ini l2) (t.getLastD 0)) hwl hnl (by rw [noSt_app, hn1, hn2]; rfl) ?_ ⟨?_, ?_, ?_⟩ ?_ ?_ hr hr'
  · refine evs_eq hwm hwl fun z => ?_
    constructor
    · rintro ⟨a, ha, hz⟩
      rcases List.mem_append.1 ha with ha | ha
      · exact ⟨a, List.mem_append_left _ ha, hz⟩
      · exact ⟨_, List.mem_append_right _ (List.mem_singleton.2 rfl), evs_mem.2 ⟨a, ha, hz⟩⟩
    · rintro ⟨a, ha, hz⟩
      rcases List.mem_append.1 ha with ha | ha
      · exact ⟨a, List.mem_append_left _ ha, hz⟩
      · obtain rfl := List.mem_singleton.1 ha
        obtain ⟨b, hb, hz⟩ := evs_mem.1 hz
        exact ⟨b, List.mem_append_right _ hb, hz⟩
  · exact fun t v x ht _ hx => stp_tup hwl ht hx
  · intro t v ht _
    obtain ⟨t1, t2, rfl, h1, h2⟩ := tup_app ht
    obtain ⟨i, rfl, hi1⟩ := one_tup h2
    rw [hφ, stp_app h1.len, stp_app h1.len, syn_goes hw2 hn2 hi (hst i hi1)]
    by_cases hv : v ∈ evs l2
    · rw [stp_one (a := autOf (evs l2) (mkT l2) s) hv]
      cases stp l1 t1 v with
      | none => rfl
      | some u => cases stA (autOf (evs l2) (mkT l2) s) i v with
        | none => rfl
        | some j => simp only [Option.bind_some, Option.map_some]; rw [hφ]; rfl
    · rw [stp_out (a := autOf (evs l2) (mkT l2) s) hv]
      cases stp l1 t1 v with
      | none => rfl
      | some u => simp only [Option.bind_some, Option.map_some]; rw [hφ]; rfl
  · intro t u ht hu e
    obtain ⟨t1, t2, rfl, h1, h2⟩ := tup_app ht
    obtain ⟨u1, u2, rfl, g1, g2⟩ := tup_app hu
    obtain ⟨i, rfl, hi1⟩ := one_tup h2
    obtain ⟨j, rfl, hj1⟩ := one_tup g2
    simp only [hφ] at e
    obtain ⟨e1, e2⟩ := app_inj e (by rw [h1.len, g1.len])
    rw [hsim.inj i j (hst i hi1) (hst j hj1) e2, e1]
  · have e1 : ini (l1 ++ [autOf (evs l2) (mkT l2) s]) = ini l1 ++ [0] := by
      unfold ini
      rw [List.length_append, ← List.replicate_append_replicate]
      rfl
    show (ini (l1 ++ [autOf (evs l2) (mkT l2) s])).dropLast ++ stAt s.ts (ini l2) ((ini (l1 ++ [autOf (evs l2) (mkT l2) s])).getLastD 0) = ini (l1 ++ l2)
    rw [e1, hφ, hi.at0]
    unfold ini
    rw [List.replicate_append_replicate, List.length_append]
  · intro t ht
    obtain ⟨t1, t2, rfl, h1, h2⟩ := tup_app ht
    obtain ⟨i, rfl, hi1⟩ := one_tup h2
    rw [hφ, mkT_app _ _ h1.len, mkT_app _ _ h1.len, hi.mk_at (p := mkT l2) (hst i hi1)]
    simp [mkT, mkA]
end
/-- two that stand side by side change places -/
theorem syn_swap {l0 l3 : List Aut} {a b r r' : Aut} {T T' : List (List Int)} (hw : ∀ z ∈ l0 ++ a :: b :: l3, WF z) (hn : noSt (l0 ++ a :: b :: l3) = false) (hr : synR (l0 ++ a :: b :: l3) = some (r, T)) (hr' : synR (l0 ++ b :: a :: l3) = some (r', T')) : r' = r := by
  have hw' : ∀ z ∈ l0 ++ b :: a :: l3, WF z := fun z hz => hw z (by simp only [List.mem_append, List.mem_cons] at hz ⊢; rcases hz with h | h | h | h <;> simp [h])
  have hlen : ∀ {t : List Int}, Tup (l0 ++ a :: b :: l3) t → ∃ t0 x y t3, t = t0 ++ x :: y :: t3 ∧ Tup l0 t0 ∧ Tup (a :: b :: l3) (x :: y :: t3) := fun {t} ht => by
    obtain ⟨t0, t1, rfl, h0, h1⟩ := tup_app ht
    match t1, h1 with
    | x :: y :: t3, h1 => exact ⟨t0, x, y, t3, rfl, h0, h1⟩
  have hφ : ∀ {t0 : List Int} {x y : Int} {t3 : List Int}, t0.length = l0.length → (t0 ++ x :: y :: t3).take l0.length ++ (match (t0 ++ x :: y :: t3).drop l0.length with | x :: y :: t3 => y :: x :: t3 | t => t) = t0 ++ y :: x :: t3 := fun {t0 x y t3} h => by
    rw [List.take_left' h, List.drop_left' h]
  have hst : ∀ (x y : Int) (t3 : List Int) (v : Int), stp (b :: a :: l3) (y :: x :: t3) v = (stp (a :: b :: l3) (x :: y :: t3) v).map (fun t => match t with | x :: y :: t3 => y :: x :: t3 | t => t) := fun x y t3 v => by
    have hb : rfB (b :: a :: l3) (y :: x :: t3) v = rfB (a :: b :: l3) (x :: y :: t3) v := by
      simp only [rfB]
      rw [← Bool.or_assoc, ← Bool.or_assoc, Bool.or_comm (rf b y v)]
    unfold stp
    by_cases h : rfB (a :: b :: l3) (x :: y :: t3) v = true
    · rw [if_pos (hb.trans h), if_pos h]; rfl
    · rw [if_neg (fun k => h (hb.symm.trans k)), if_neg h]; rfl
  refine syn_sim (φ := fun t => t.take l0.length ++ (match t.drop l0.length with | x :: y :: t3 => y :: x :: t3 | t => t)) hw hn ?_ ?_ ⟨?_, ?_, ?_⟩ ?_ ?_ hr hr'
  · rw [← hn]; unfold noSt; simp only [List.any_append, List.any_cons]
    cases l0.any _ <;> cases decide (a.st = 0) <;> cases decide (b.st = 0) <;> rfl
  · refine evs_eq hw' hw fun z => ?_
    constructor <;> (rintro ⟨c, hc, hz⟩; refine ⟨c, ?_, hz⟩; simp only [List.mem_append, List.mem_cons] at hc ⊢; rcases hc with h | h | h | h <;> simp [h])
  · exact fun t v x ht _ hx => stp_tup hw ht hx
  · intro t v ht _
    obtain ⟨t0, x, y, t3, rfl, h0, h1⟩ := hlen ht
    rw [hφ h0.len, stp_app h0.len, stp_app h0.len, hst]
    cases hq : stp l0 t0 v with
    | none => rfl
    | some u =>
      have hu : u.length = l0.length := by
        unfold stp at hq
        split at hq
        · cases hq
        · injection hq with hq
          rw [← hq, mvs_len, h0.len, Nat.min_self]
      cases hq2 : stp (a :: b :: l3) (x :: y :: t3) v with
      | none => rfl
      | some u2 =>
        have : ∃ p q u3, u2 = p :: q :: u3 := by
          unfold stp at hq2
          split at hq2
          · cases hq2
          · injection hq2 with hq2
            exact ⟨_, _, _, hq2.symm⟩
        obtain ⟨p, q, u3, rfl⟩ := this
        simp only [Option.bind_some, Option.map_some]
        rw [hφ hu]
  · intro t u ht hu e
    obtain ⟨t0, x, y, t3, rfl, h0, h1⟩ := hlen ht
    obtain ⟨u0, x', y', u3, rfl, g0, g1⟩ := hlen hu
    simp only [hφ h0.len, hφ g0.len] at e
    obtain ⟨e1, e2⟩ := app_inj e (by rw [h0.len, g0.len])
    injection e2 with e2 e3
    injection e3 with e3 e4
    rw [e1, e2, e3, e4]
  · show (ini (l0 ++ a :: b :: l3)).take l0.length ++ _ = _
    have e1 : ∀ (p q : Aut), ini (l0 ++ p :: q :: l3) = ini l0 ++ 0 :: 0 :: ini l3 := fun p q => by
      unfold ini
      rw [List.length_append, ← List.replicate_append_replicate]
      rfl
    rw [e1, e1, hφ (by unfold ini; simp)]
  · intro t ht
    obtain ⟨t0, x, y, t3, rfl, h0, h1⟩ := hlen ht
    rw [hφ h0.len, mkT_app _ _ h0.len, mkT_app _ _ h0.len]
    simp only [mkT]
    cases mkT l0 t0 <;> cases hasB a.ma x <;> cases hasB b.ma y <;> rfl
end Go.Proofs.YtbdliebjalghmaaDoor
