/- Plain: the words of an automaton as automaton.Words finds them; rows of found words. -/
import Derived.Test.YtcchnibgehonoaaDoorOj
import Derived.Test.YtcchnibgehonoaaDoorDf
namespace Go.Proofs.YtcchnibgehonoaaDoor
open Go.RowKit Go

/-- what a found word leads to -/
def wrow (a : Aut) (x : List Int × Int) : List (List Int × Int) := (outE a x.2).map (fun e => (x.1 ++ [e.e], e.t))
def wgo (a : Aut) (m : Nat) : Nat → Nat → List (List Int × Int) → Option (List (List Int × Int))
 | 0, _, all => some all
 | n + 1, i, all => match all[i]? with
  | none => some all
  | some x => if x.1.length = m then some all else if 1024 < (all ++ wrow a x).length then none else wgo a m n (i + 1) (all ++ wrow a x)
/-- the words; none: too many -/
def wrd (a : Aut) (m : Nat) : Option (List (List Int × Int)) := if a.st = 0 then some [] else wgo a m 1025 0 [([], 0)]
/-- a found word as it lies in memory -/
structure FW where
 s : SlV
 t : Int
def fwc (x : FW) : List Value := [x.s.v, .int .i64 x.t]
def fwp (x : FW) : List Int × Int := (x.s.l, x.t)
/-- the list of found words -/
structure WrdI (w0 w : World) (av : Value) (n : Nat) (fs : List FW) : Prop where
 bel : Below w0.heap.size w0 w
 row : w.ownsRow w0.heap.size 116 2 av n (fs.flatMap fwc)
 len : fs.length = n
 wds : ∀ x ∈ fs, w.ownsRow w0.heap.size 3 1 x.s.v x.s.l.length (iv x.s.l)
section
variable {w0 w w' : World} {av : Value} {n : Nat} {fs : List FW}
theorem WrdI.quiet (h : WrdI w0 w av n fs) (hb : Below w.heap.size w w') : WrdI w0 w' av n fs :=
 ⟨h.bel.trans (hb.mono h.bel.size), own_below h.row hb, h.len, fun x hx => own_below (h.wds x hx) hb⟩
theorem WrdI.push (h : WrdI w0 w av n fs) {A : Option Addr} {c : Nat} {x : FW} (hx : w.ownsRow w0.heap.size 3 1 x.s.v x.s.l.length (iv x.s.l)) (ho : w'.ownsRow w0.heap.size 116 2 (.slice A (n + 1) c) (n + 1) (fs.flatMap fwc ++ fwc x)) (hg : w.grownBy w' av.ownBlock) :
  WrdI w0 w' (.slice A (n + 1) c) (n + 1) (fs ++ [x]) := by
 refine ⟨h.bel.grown hg h.bel.size fun j hj => (h.row.lt j hj).1, by simpa using ho, by simp [h.len], fun y hy => ?_⟩
 have hy : y ∈ fs ∨ y = x := by simpa using hy
 rcases hy with hy | rfl
 ·exact own_kept_ne (h.wds y hy) h.row (by decide) hg
 ·exact own_kept_ne hx h.row (by decide) hg
theorem WrdI.at_ {A : Option Addr} {c : Nat} (h : WrdI w0 w (.slice A n c) n fs) {k : Nat} (hk : k < n) : ∃ ad x, A = some ad ∧ fs[k]? = some x ∧ w.cell? (ad.add (k * 2)) = some x.s.v ∧ w.cell? ⟨(ad.add (k * 2)).block, (ad.add (k * 2)).off + 1, none⟩ = some (.int .i64 x.t) ∧ RdI w w.heap.size x.s.A x.s.l ∧ ad.block < w.heap.size := by
 have hr : RdR 2 fwc w w.heap.size A fs := RdR.of_own (by omega) (fun _ _ => rfl) h.row
 obtain ⟨ad, x, e1, hb, hx, hc⟩ := RdR.get hr (by rw [h.len]; exact hk)
 exact ⟨ad, x, e1, hx, hc 0 _ rfl, st_cells (j := 0) (hc 1 _ rfl), RdI.of_own (h.wds x (List.mem_of_getElem? hx)), hb⟩
end
theorem step_app {P : Program} (w : World) {ops : Array Oper} {o : Oper} {a : Act} {K : Act → World → Prop} {Q : Exit → Act → World → Prop} {E : Prop} (hgd : o.guard = none) (s x : Operand) (t : TypeId)
  (ho : o.op = .call { callee := .builtin .append, args := #[s, x], argTypes := #[t, t] })
  (base : Nat) (e : TypeId) (z : Value) (bytes : Nat) (ht : P.underlying t = some (.slice e)) (hinfo : (P.info? e).map (fun i => (i.zero, i.size, i.bytes)) = some (some z, 1, bytes))
  (hz1 : z.cells.size = 1) (v : Value) (n : Nat) (xs : List Value) (hs : a.eval s = v) (hown : w.ownsRow base e 1 v n xs)
  (B : Nat) (A : Option Addr) (m c : Nat) (news : List Value) (hm : news.length = m) (hx : a.eval x = .slice A m c) (hr : RdV w B A news) (h1 : ∀ u ∈ news, u.oneCell' = true)
  (hn : n + m ≤ 9223372036854775807) (hbytes : (n + m) * bytes ≤ 140737488355328) (hbase : base ≤ w.heap.size)
  (h : ∀ v' w', w'.ownsRow base e 1 v' (n + m) (xs ++ news) → w.grownBy w' v.ownBlock → K (a.put o.dst v') w') :
  if Region.wanted o (yielded ops a.tmps) = true then Oper.wp P o a w K Q else E := by
 have hw : Region.wanted o (yielded ops a.tmps) = true := by simp [Region.wanted, hgd]
 rw [if_pos hw]
 obtain ⟨i, hi, hz, hs1, hby⟩ := info_parts hinfo
 obtain ⟨v', w', hrun, h2, h3, h4⟩ := run_app (P := P) w base t o.type e i z bytes ht hi hz hs1 hby hz1 v n xs hown B A m c news hm hr h1 (by unfold maxLen; omega) hbytes hbase
 unfold Oper.wp execOp
 simp only [ho, resolve, invoke, builtin, Sem.run_bind, Sem.run_pure, Result.andThen_ok, List.map_toArray, List.map_cons, List.map_nil, hs, hx, hrun]
 exact h v' w' h2 h3
theorem wgo_step {a : Aut} {m n i : Nat} {all : List (List Int × Int)} {x : List Int × Int} (h : all[i]? = some x) : wgo a m (n + 1) i all = if x.1.length = m then some all else if 1024 < (all ++ wrow a x).length then none else wgo a m n (i + 1) (all ++ wrow a x) := by
 rw [wgo, h]
theorem wgo_end {a : Aut} {m n i : Nat} {all : List (List Int × Int)} (h : ¬ i < all.length) : wgo a m n i all = some all := by
 cases n with
 | zero => rfl
 | succ n => rw [wgo, List.getElem?_eq_none (by omega)]
theorem wrow_snoc {a : Aut} {x : List Int × Int} {k : Nat} {e : Ed} (h : (outE a x.2)[k]? = some e) : (wrow a x).take (k + 1) = (wrow a x).take k ++ [(x.1 ++ [e.e], e.t)] := by
 unfold wrow
 rw [← List.map_take, take_snoc' h, List.map_append, List.map_take]; rfl
theorem wrow_len (a : Aut) (x : List Int × Int) : (wrow a x).length = (outE a x.2).length := List.length_map ..
theorem found_info : (Tryd.prog.info? 116).map (fun i => (i.zero, i.size, i.bytes)) = some (some (.agg #[.slice none 0 0, .int .i64 0]), 2, 32) := by kernel_rfl
end Go.Proofs.YtcchnibgehonoaaDoor
