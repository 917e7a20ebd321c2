/- The state of the law's loop in memory; plain: the steps of a product of two. -/
import Derived.Test.YtioijhpbedmeaaaGreatDoorYc
import Derived.Test.YtioijhpbedmeaaaGreatDoorYd
import Derived.Test.YtioijhpbedmeaaaGreatDoorYa
import Derived.Test.YtioijhpbedmeaaaGreatDoorUv
namespace Go.Proofs.YtioijhpbedmeaaaGreatDoor
open Go.RowKit Go

theorem evs_two {P S : Aut} (wP : WF P) (wS : WF S) (hA : S.al = P.al) : evs [P, S] = P.al := by
 refine inc_unique (evs_inc fun a ha => ?_) wP.inc fun x => ?_
 ·rcases List.mem_cons.1 ha with rfl | ha
  ·exact wP.inc
  ·obtain rfl := List.mem_singleton.1 ha; exact wS.inc
 ·rw [evs_mem]
  constructor
  ·rintro ⟨a, ha, hx⟩
   rcases List.mem_cons.1 ha with rfl | ha
   ·exact hx
   ·obtain rfl := List.mem_singleton.1 ha; rw [← hA]; exact hx
  ·exact fun hx => ⟨P, List.mem_cons_self .., hx⟩
theorem stp_two {P S : Aut} (hA : S.al = P.al) {v x y : Int} (hv : v ∈ P.al) : stp [P, S] [x, y] v = if nxt P x v < 0 ∨ nxt S y v < 0 then none else some [nxt P x v, nxt S y v] := by
 have h1 : hasB P.al v = true := hasB_mem.2 hv
 have h2 : hasB S.al v = true := by rw [hA]; exact h1
 have e1 : rfB [P, S] [x, y] v = (decide (nxt P x v < 0) || decide (nxt S y v < 0)) := by
  simp [rfB, rf, h1, h2]
 have e2 : mvs [P, S] [x, y] v = [nxt P x v, nxt S y v] := by
  simp [mvs, mv, h1, h2]
 unfold stp
 rw [e1, e2]
 by_cases a : nxt P x v < 0
 ·rw [decide_eq_true a, if_pos (by simp), if_pos (.inl a)]
 ·by_cases b : nxt S y v < 0
  ·rw [decide_eq_true b, if_pos (by simp), if_pos (.inr b)]
  ·rw [decide_eq_false a, decide_eq_false b, if_neg (by simp), if_neg (by omega)]
theorem mkT_two {P S : Aut} {x y : Int} : mkT [P, S] [x, y] = (hasB P.ma x && hasB S.ma y) := by simp [mkT]
theorem Prob.few {P S q : Aut} {T : List (List Int)} (hP : Prob P S q T) (hn : noSt [P, S] = false) : ¬ Many 4096 (stp [P, S]) (evs [P, S]) (ini [P, S]) :=
 not_many (box [P, S]) (by rw [box_len]; have := hP.prod; omega) (fun x hx => box_mem.2 (rch_tup hP.two hn hx))
theorem tup_two {P S : Aut} {t : List Int} (h : Tup [P, S] t) : ∃ x y, t = [x, y] ∧ (0 ≤ x ∧ x < P.st) ∧ (0 ≤ y ∧ y < S.st) := by
 have hl : t.length = 2 := by rw [h.len]; rfl
 obtain ⟨x, y, rfl⟩ := two_of hl
 exact ⟨x, y, rfl, h.at_ (k := 0) rfl rfl, h.at_ (k := 1) rfl rfl⟩

/-- push of an element that lies in some block -/
theorem step_pushL {P : Program} (w : World) (us : List Value) {ops : Array Oper} {o : Oper} {a : Act} {K : Act → World → Prop} {Q : Exit → Act → World → Prop} {E : Prop} (hgd : o.guard = none) (s x : Operand) (t : TypeId)
  (ho : o.op = .call { callee := .builtin .append, args := #[s, x], argTypes := #[t, t] })
  (base : Nat) (e : TypeId) (z : Value) (size bytes : Nat) (ht : P.underlying t = some (.slice e)) (hinfo : (P.info? e).map (fun i => (i.zero, i.size, i.bytes)) = some (some z, size, bytes))
  (hz1 : z.cells.size = size) (hsz : 0 < size) (hus : us.length = size) (v : Value) (n : Nat) (xs : List Value) (hs : a.eval s = v) (hown : w.ownsRow base e size v n xs)
  (g : Nat) (tt : TypeId) (hx : a.eval x = .slice (some ⟨g, 0, none⟩) 1 1) (hk : Blk w g tt us) (h1 : ∀ u ∈ us, u.oneCell' = true) (hbytes : (n + 1) * bytes ≤ 140737488355328) (hn : n + 1 ≤ 9223372036854775807) (hbase : base ≤ w.heap.size)
  (h : ∀ A c w', w'.ownsRow base e size (.slice A (n + 1) c) (n + 1) (xs ++ us) → w.grownBy w' v.ownBlock → K (a.put o.dst (.slice A (n + 1) c)) w') :
  if Region.wanted o (yielded ops a.tmps) = true then Oper.wp P o a w K Q else E := by
 obtain ⟨i, hi, hz, hs1, hby⟩ := info_parts hinfo
 refine step_append_lies w hgd s x t ho base e i z size bytes ht hi hz hs1 hby hz1 hsz v n xs hs hown ⟨g, 0, none⟩ 1 1 us hx (by rw [hus, Nat.one_mul]) ?_ h1 (by omega) (by unfold maxLen; omega) hbytes hbase _ rfl ?_
 ·intro j y hj
  rw [add_lit0]
  exact hk.cell hj
 ·intro g cap w' ho' hg _ _
  exact h _ cap w' ho' hg

structure LoS (w0 w : World) (V mv ev pv wv : Value) (km ke nt nw : Nat) (ts : List (List Int)) (ws : List SlV) (es : List Ed) (mk : List Int) : Prop where
 bld : Bld w0 w V (.int .i64 0) mv ev km ke mk es
 own : w.ownsRow (w0.heap.size + 1) 45 2 pv nt (ts.flatMap iv)
 tn : ts.length = nt
 two : ∀ t ∈ ts, t.length = 2
 wow : w.ownsRow (w0.heap.size + 1) 30 1 wv nw (ws.map SlV.v)
 wn : ws.length = nw
 wds : ∀ x ∈ ws, w.ownsRow (w0.heap.size + 1) 3 1 x.v x.l.length (iv x.l) ∧ (x.v.ownBlock = none ∨ x.v.ownBlock ≠ mv.ownBlock)
section
variable {w0 w w' : World} {V mv ev pv wv : Value} {km ke nt nw : Nat} {ts : List (List Int)} {ws : List SlV} {es : List Ed} {mk : List Int}
theorem Bld.away {v1 : Value} (h : Bld w0 w V v1 mv ev km ke mk es) {e : TypeId} {size m : Nat} {v : Value} {xs : List Value} (ho : w.ownsRow (w0.heap.size + 1) e size v m xs) (he1 : e ≠ 3) (he2 : e ≠ 49) (hg : w.grownBy w' v.ownBlock) : Bld w0 w' V v1 mv ev km ke mk es := by
 have r1 : w0.heap.size < w0.heap.size + 1 := Nat.lt_succ_self _
 exact ⟨h.bel.grown hg (Nat.le_of_lt h.lt) (fun j hj => by have := (ho.lt j hj).1; omega), h.blk.kept hg (own_lt_ne ho r1), own_kept_ne h.mrk ho (Ne.symm he1) hg, h.mkl, own_kept_ne h.edg ho (Ne.symm he2) hg, h.edl⟩
theorem LoS.start (w0 : World) (V : Value) : LoS w0 (w0.alloc (.cells #[V, .int .i64 0, .slice none 0 0, .slice none 0 0] 33)) V (.slice none 0 0) (.slice none 0 0) (.slice none 0 0) (.slice none 0 0) 0 0 0 0 [] [] [] [] :=
 ⟨Bld.start w0 V _, World.ownsRow_nil _ _ _ _, rfl, fun x hx => (by cases hx), World.ownsRow_nil _ _ _ _, rfl, fun x hx => (by cases hx)⟩
theorem LoS.quiet (h : LoS w0 w V mv ev pv wv km ke nt nw ts ws es mk) (hb : Below w.heap.size w w') : LoS w0 w' V mv ev pv wv km ke nt nw ts ws es mk :=
 ⟨h.bld.quiet hb, own_below h.own hb, h.tn, h.two, own_below h.wow hb, h.wn, fun x hx => ⟨own_below (h.wds x hx).1 hb, (h.wds x hx).2⟩⟩
theorem LoS.mark (h : LoS w0 w V mv ev pv wv km ke nt nw ts ws es mk) {A : Option Addr} {c : Nat} {i : Int} (ho : w'.ownsRow (w0.heap.size + 1) 3 1 (.slice A (km + 1) c) (km + 1) (iv mk ++ [.int .i64 i])) (hg : w.grownBy w' mv.ownBlock)
  (hl : (Value.slice A (km + 1) c).ownBlock = mv.ownBlock ∨ ∃ g, (Value.slice A (km + 1) c).ownBlock = some g ∧ w.heap.size ≤ g) :
  LoS w0 (w'.setCell ⟨w0.heap.size, 2, none⟩ (.slice A (km + 1) c)) V (.slice A (km + 1) c) ev pv wv (km + 1) ke nt nw ts ws es (mk ++ [i]) := by
 have r1 : w0.heap.size < w0.heap.size + 1 := Nat.lt_succ_self _
 have hs := grown_setCell w' w0.heap.size 2 (.slice A (km + 1) c)
 refine ⟨h.bld.mark ho hg, own_kept_low (own_kept_ne h.own h.bld.mrk (by decide) hg) hs r1, h.tn, h.two, own_kept_low (own_kept_ne h.wow h.bld.mrk (by decide) hg) hs r1, h.wn, fun x hx => ?_⟩
 obtain ⟨h1, h3⟩ := h.wds x hx
 refine ⟨own_kept_low (h1.kept hg h3) hs r1, ?_⟩
 rcases hl with hl | ⟨g, hl, hgs⟩
 ·rw [hl]; exact h3
 ·cases hv : x.v.ownBlock with
  | none => exact .inl rfl
  | some b =>
   right
   rw [hl]
   have := (h1.lt b hv).2
   intro e; injection e with e; omega
theorem LoS.edge (h : LoS w0 w V mv ev pv wv km ke nt nw ts ws es mk) {A : Option Addr} {c : Nat} {x : Ed} (ho : w'.ownsRow (w0.heap.size + 1) 49 3 (.slice A (ke + 1) c) (ke + 1) (es.flatMap edc ++ edc x)) (hg : w.grownBy w' ev.ownBlock) :
  LoS w0 (w'.setCell ⟨w0.heap.size, 3, none⟩ (.slice A (ke + 1) c)) V mv (.slice A (ke + 1) c) pv wv km (ke + 1) nt nw ts ws (es ++ [x]) mk := by
 have r1 : w0.heap.size < w0.heap.size + 1 := Nat.lt_succ_self _
 have hs := grown_setCell w' w0.heap.size 3 (.slice A (ke + 1) c)
 refine ⟨h.bld.edge ho hg, own_kept_low (own_kept_ne h.own h.bld.edg (by decide) hg) hs r1, h.tn, h.two, own_kept_low (own_kept_ne h.wow h.bld.edg (by decide) hg) hs r1, h.wn, fun y hy => ?_⟩
 obtain ⟨h1, h3⟩ := h.wds y hy
 exact ⟨own_kept_low (own_kept_ne h1 h.bld.edg (by decide) hg) hs r1, h3⟩
theorem LoS.pair (h : LoS w0 w V mv ev pv wv km ke nt nw ts ws es mk) {A : Option Addr} {c : Nat} {t : List Int} (ht : t.length = 2) (ho : w'.ownsRow (w0.heap.size + 1) 45 2 (.slice A (nt + 1) c) (nt + 1) (ts.flatMap iv ++ iv t)) (hg : w.grownBy w' pv.ownBlock) :
  LoS w0 w' V mv ev (.slice A (nt + 1) c) wv km ke (nt + 1) nw (ts ++ [t]) ws es mk :=
 ⟨h.bld.away h.own (by decide) (by decide) hg, by simpa using ho, by simp [h.tn], fun x hx => by
  rcases List.mem_append.1 hx with hx | hx
  ·exact h.two x hx
  ·obtain rfl := List.mem_singleton.1 hx; exact ht, own_kept_ne h.wow h.own (by decide) hg, h.wn, fun y hy => ⟨own_kept_ne (h.wds y hy).1 h.own (by decide) hg, (h.wds y hy).2⟩⟩
theorem LoS.word (h : LoS w0 w V mv ev pv wv km ke nt nw ts ws es mk) {A : Option Addr} {c : Nat} {x : SlV} (hx : w.ownsRow (w0.heap.size + 1) 3 1 x.v x.l.length (iv x.l)) (hxo : x.v.ownBlock = none ∨ x.v.ownBlock ≠ mv.ownBlock) (ho : w'.ownsRow (w0.heap.size + 1) 30 1 (.slice A (nw + 1) c) (nw + 1) (ws.map SlV.v ++ [x.v])) (hg : w.grownBy w' wv.ownBlock) :
  LoS w0 w' V mv ev pv (.slice A (nw + 1) c) km ke nt (nw + 1) ts (ws ++ [x]) es mk :=
 ⟨h.bld.away h.wow (by decide) (by decide) hg, own_kept_ne h.own h.wow (by decide) hg, h.tn, h.two, by simpa using ho, by simp [h.wn], fun y hy => by
  rcases List.mem_append.1 hy with hy | hy
  ·exact ⟨own_kept_ne (h.wds y hy).1 h.wow (by decide) hg, (h.wds y hy).2⟩
  ·obtain rfl := List.mem_singleton.1 hy
   exact ⟨own_kept_ne hx h.wow (by decide) hg, hxo⟩⟩
theorem iv_two {ts : List (List Int)} (h : ∀ t ∈ ts, t.length = 2) : ∀ t ∈ ts, (iv t).length = 2 := fun t ht => by rw [iv_length]; exact h t ht
theorem LoS.rp {A : Option Addr} {c : Nat} (h : LoS w0 w V mv ev (.slice A nt c) wv km ke nt nw ts ws es mk) : RdR 2 iv w w.heap.size A ts ∧ nt ≤ c ∧ c ≤ 9223372036854775807 :=
 ⟨RdR.of_own (by omega) (iv_two h.two) h.own, (cap_of_own h.own).1, (cap_of_own h.own).2⟩
theorem LoS.rw_ {A : Option Addr} {c : Nat} (h : LoS w0 w V mv ev pv (.slice A nw c) km ke nt nw ts ws es mk) : RdS w w.heap.size A ws ∧ nw ≤ c ∧ c ≤ 9223372036854775807 :=
 ⟨⟨RdV.of_own h.wow, fun x hx => ⟨RdI.of_own (h.wds x hx).1, (own_cap' (h.wds x hx).1).1, (own_cap' (h.wds x hx).1).2⟩⟩, (cap_of_own h.wow).1, (cap_of_own h.wow).2⟩
end
/-- what the law's loop returns -/
def RetLp (q : Aut) (T : List (List Int)) (w : World) (e : Ending) (w' : World) : Prop :=
 ∃ (x : AV) (B : Option Addr) (nb cb : Nat) (C : Option Addr) (cc : Nat) (ws : List SlV), e = .returned (.tuple #[.agg #[.slice x.A x.na x.ca, .int .i64 x.a.st, .slice x.M x.nm x.cm, .slice x.E x.ne x.ce], .slice B nb cb, .slice C nb cc]) ∧ x.a = q ∧ x.ok w' w'.heap.size ∧ RdR 2 iv w' w'.heap.size B T ∧ T.length = nb ∧ nb ≤ cb ∧ cb ≤ 9223372036854775807 ∧ RdS w' w'.heap.size C ws ∧ ws.map SlV.l = wdsOf nb q.ed ∧ nb ≤ cc ∧ cc ≤ 9223372036854775807 ∧ Below w.heap.size w w'
end Go.Proofs.YtioijhpbedmeaaaGreatDoor
