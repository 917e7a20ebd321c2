/- Walks: the reference's Check of an automaton and of a list; ref01.Contains, ref03.has, ref03.List. -/
import Derived.Test.YtddhaidimadliaaSa
import Derived.Test.YtddhaidimadliaaAa
import Derived.Test.YtddhaidimadliaaQa
import Derived.Test.YtddhaidimadliaaMe
import Derived.Deep.RegionHeld3
import Derived.Deep.AppendLies
namespace Go.Proofs.Ytddhaidimadliaa
open Go.RowKit Go

end Go.Proofs.Ytddhaidimadliaa

/- Walks: ref03.Step, ref06.Next, ref03.index, ref03.Empty; the statements' Set.Events. -/
namespace Go.Proofs.Ytddhaidimadliaa
open Go.RowKit Go

/-- An automaton of the call's own. -/
structure AutO (w : World) (base : Nat) (A : Option Addr) (na ca : Nat) (M : Option Addr) (nm cm : Nat) (E : Option Addr) (ne ce : Nat) (a : Aut) : Prop where
 la : a.al.length = na
 oa : w.ownsRow base 3 1 (.slice A na ca) na (iv a.al)
 lm : a.ma.length = nm
 om : w.ownsRow base 3 1 (.slice M nm cm) nm (iv a.ma)
 le : a.ed.length = ne
 oe : w.ownsRow base 106 3 (.slice E ne ce) ne (a.ed.flatMap edc)
section
variable {w w' : World} {b0 b1 : Nat} {A M E : Option Addr} {na ca nm cm ne ce : Nat} {a : Aut}
theorem AutO.rd (h : AutO w b0 A na ca M nm cm E ne ce a) : AutR w w.heap.size A na ca M nm cm E ne ce a :=
 ⟨h.la, (own_cap' h.oa).1, (own_cap' h.oa).2, RdI.of_own h.oa, h.lm, (own_cap' h.om).1, (own_cap' h.om).2, RdI.of_own h.om, h.le, (own_cap' h.oe).1, (own_cap' h.oe).2, RdR.of_own (by omega) (fun _ _ => rfl) h.oe⟩
theorem AutO.below (h : AutO w b0 A na ca M nm cm E ne ce a) (hb : Below w.heap.size w w') : AutO w' b0 A na ca M nm cm E ne ce a :=
 ⟨h.la, own_below h.oa hb, h.lm, own_below h.om hb, h.le, own_below h.oe hb⟩
theorem AutO.down (h : AutO w b1 A na ca M nm cm E ne ce a) (hB : b0 ≤ b1) : AutO w b0 A na ca M nm cm E ne ce a :=
 ⟨h.la, own_base h.oa hB, h.lm, own_base h.om hB, h.le, own_base h.oe hB⟩
/-- A block below the base changes. -/
theorem AutO.low (h : AutO w b0 A na ca M nm cm E ne ce a) {r : Nat} (hg : w.grownBy w' (some r)) (hr : r < b0) : AutO w' b0 A na ca M nm cm E ne ce a :=
 ⟨h.la, own_kept_low h.oa hg hr, h.lm, own_kept_low h.om hg hr, h.le, own_kept_low h.oe hg hr⟩
end
/-- The post of a call that makes an automaton. -/
def RetA (a : Aut) (w : World) (e : Ending) (w' : World) : Prop :=
 ∃ (A : Option Addr) (na ca : Nat) (M : Option Addr) (nm cm : Nat) (E : Option Addr) (ne ce : Nat), e = .returned (.agg #[.slice A na ca, .int .i64 a.st, .slice M nm cm, .slice E ne ce]) ∧ AutO w' w.heap.size A na ca M nm cm E ne ce a ∧ Below w.heap.size w w'

/-- The post of Empty: the alphabet alone. -/
def RetE (l : List Int) (w : World) (e : Ending) (w' : World) : Prop :=
 ∃ (V : Option Addr) (n c : Nat), e = .returned (.agg #[.slice V n c, .int .i64 0, .slice none 0 0, .slice none 0 0]) ∧ l.length = n ∧ w'.ownsRow w.heap.size 3 1 (.slice V n c) n (iv l) ∧ Below w.heap.size w w'
theorem RetE.ret {l : List Int} {w w' : World} {e : Ending} (h : RetE l w e w') : RetA ⟨l, 0, [], []⟩ w e w' := by
 obtain ⟨V, n, c, rfl, hl, ho, hb⟩ := h
 exact ⟨V, n, c, none, 0, 0, none, 0, 0, rfl, ⟨hl, ho, rfl, World.ownsRow_nil _ _ _ _, rfl, World.ownsRow_nil _ _ _ _⟩, hb⟩
end Go.Proofs.Ytddhaidimadliaa

/- Walks: ref03.Found. -/
namespace Go.Proofs.Ytddhaidimadliaa
open Go.RowKit Go

end Go.Proofs.Ytddhaidimadliaa

/- An automaton under construction in a block of its own; the walk of ref03.Canonical. -/
namespace Go.Proofs.Ytddhaidimadliaa
open Go.RowKit Go

/-- The block w0.heap.size holds an automaton whose marks and edges grow in rows of its own. -/
structure Bld (w0 w : World) (v0 v1 mv ev : Value) (km ke : Nat) (mk : List Int) (es : List Ed) : Prop where
 bel : Below w0.heap.size w0 w
 blk : Blk w w0.heap.size 34 [v0, v1, mv, ev]
 mrk : w.ownsRow (w0.heap.size + 1) 3 1 mv km (iv mk)
 mkl : mk.length = km
 edg : w.ownsRow (w0.heap.size + 1) 106 3 ev ke (es.flatMap edc)
 edl : es.length = ke
theorem below_dr (w : World) : Below w.heap.size w w.drew := ⟨rfl, rfl, rfl, Nat.le_refl _, fun _ _ => rfl⟩
section
variable {w0 w w' : World} {v0 v1 mv ev : Value} {km ke : Nat} {mk : List Int} {es : List Ed}
theorem Bld.start (w0 : World) (v0 v1 : Value) : Bld w0 (w0.alloc (.cells #[v0, v1, .slice none 0 0, .slice none 0 0] 34)) v0 v1 (.slice none 0 0) (.slice none 0 0) 0 0 [] [] :=
 ⟨box_below _ _, Blk.new _ _ _, World.ownsRow_nil _ _ _ _, rfl, World.ownsRow_nil _ _ _ _, rfl⟩
theorem Bld.lt (h : Bld w0 w v0 v1 mv ev km ke mk es) : w0.heap.size < w.heap.size := h.blk.lt
theorem Bld.quiet (h : Bld w0 w v0 v1 mv ev km ke mk es) (hb : Below w.heap.size w w') : Bld w0 w' v0 v1 mv ev km ke mk es :=
 ⟨h.bel.trans (hb.mono (Nat.le_of_lt h.lt)), h.blk.below hb h.lt, own_below h.mrk hb, h.mkl, own_below h.edg hb, h.edl⟩
theorem Bld.mark (h : Bld w0 w v0 v1 mv ev km ke mk es) {A : Option Addr} {c : Nat} {i : Int} (ho : w'.ownsRow (w0.heap.size + 1) 3 1 (.slice A (km + 1) c) (km + 1) (iv mk ++ [.int .i64 i])) (hg : w.grownBy w' mv.ownBlock) :
  Bld w0 (w'.setCell ⟨w0.heap.size, 2, none⟩ (.slice A (km + 1) c)) v0 v1 (.slice A (km + 1) c) ev (km + 1) ke (mk ++ [i]) es := by
 have r1 : w0.heap.size < w0.heap.size + 1 := Nat.lt_succ_self _
 have hs := grown_setCell w' w0.heap.size 2 (.slice A (km + 1) c)
 have hbl := h.blk.kept hg (own_lt_ne h.mrk r1)
 exact ⟨(h.bel.grown hg (Nat.le_of_lt h.lt) (fun j hj => by have := (h.mrk.lt j hj).1; omega)).setCell (Nat.le_refl _) _, hbl.set (by simp) _, own_kept_low (by rw [iv_append]; exact ho) hs r1, by simp [h.mkl], own_kept_low (own_kept_ne h.edg h.mrk (by decide) hg) hs r1, h.edl⟩
/-- What has been built. -/
theorem Bld.fin {V M E : Option Addr} {nv cv cm ce : Nat} {st : Int} {al : List Int} {b : Nat} (h : Bld w0 w (.slice V nv cv) v1 (.slice M km cm) (.slice E ke ce) km ke mk es) (hv : al.length = nv) (ho : w0.ownsRow b 3 1 (.slice V nv cv) nv (iv al)) (hb : b ≤ w0.heap.size + 1) :
  AutO w b V nv cv M km cm E ke ce ⟨al, st, mk, es⟩ :=
 ⟨hv, own_below ho h.bel, h.mkl, own_base h.mrk hb, h.edl, own_base h.edg hb⟩
end
end Go.Proofs.Ytddhaidimadliaa
