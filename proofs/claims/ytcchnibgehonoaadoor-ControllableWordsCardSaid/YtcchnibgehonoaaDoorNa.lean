/- Plain: the words of an automaton as automaton.Words finds them; rows of found words. -/
import Derived.Test.YtcchnibgehonoaaDoorOj
import Derived.Test.YtcchnibgehonoaaDoorDf
namespace Go.Proofs.YtcchnibgehonoaaDoor
open Go.RowKit Go

/-- a found word as it lies in memory -/
structure FW where
 s : SlV
 t : Int
def fwc (x : FW) : List Value := [x.s.v, .int .i64 x.t]
/-- the list of found words -/
structure WrdI (w0 w : World) (av : Value) (n : Nat) (fs : List FW) : Prop where
 bel : Below w0.heap.size w0 w
 row : w.ownsRow w0.heap.size 116 2 av n (fs.flatMap fwc)
 len : fs.length = n
 wds : ∀ x ∈ fs, w.ownsRow w0.heap.size 3 1 x.s.v x.s.l.length (iv x.s.l)
section
variable {w0 w w' : World} {av : Value} {n : Nat} {fs : List FW}
theorem WrdI.quiet (h : WrdI w0 w av n fs) (hb : Below w.heap.size w w') : WrdI w0 w' av n fs :=
 ⟨h.bel.trans (hb.mono h.bel.size), own_below h.row hb, h.len, fun x hx => own_below (h.wds x hx) hb⟩
theorem WrdI.push (h : WrdI w0 w av n fs) {A : Option Addr} {c : Nat} {x : FW} (hx : w.ownsRow w0.heap.size 3 1 x.s.v x.s.l.length (iv x.s.l)) (ho : w'.ownsRow w0.heap.size 116 2 (.slice A (n + 1) c) (n + 1) (fs.flatMap fwc ++ fwc x)) (hg : w.grownBy w' av.ownBlock) :
  WrdI w0 w' (.slice A (n + 1) c) (n + 1) (fs ++ [x]) := by
 refine ⟨h.bel.grown hg h.bel.size fun j hj => (h.row.lt j hj).1, by simpa using ho, by simp [h.len], fun y hy => ?_⟩
 have hy : y ∈ fs ∨ y = x := by simpa using hy
 rcases hy with hy | rfl
 ·exact own_kept_ne (h.wds y hy) h.row (by decide) hg
 ·exact own_kept_ne hx h.row (by decide) hg
theorem WrdI.at_ {A : Option Addr} {c : Nat} (h : WrdI w0 w (.slice A n c) n fs) {k : Nat} (hk : k < n) : ∃ ad x, A = some ad ∧ fs[k]? = some x ∧ w.cell? (ad.add (k * 2)) = some x.s.v ∧ w.cell? ⟨(ad.add (k * 2)).block, (ad.add (k * 2)).off + 1, none⟩ = some (.int .i64 x.t) ∧ RdI w w.heap.size x.s.A x.s.l ∧ ad.block < w.heap.size := by
 have hr : RdR 2 fwc w w.heap.size A fs := RdR.of_own (by omega) (fun _ _ => rfl) h.row
 obtain ⟨ad, x, e1, hb, hx, hc⟩ := RdR.get hr (by rw [h.len]; exact hk)
 exact ⟨ad, x, e1, hx, hc 0 _ rfl, st_cells (j := 0) (hc 1 _ rfl), RdI.of_own (h.wds x (List.mem_of_getElem? hx)), hb⟩
end
end Go.Proofs.YtcchnibgehonoaaDoor
