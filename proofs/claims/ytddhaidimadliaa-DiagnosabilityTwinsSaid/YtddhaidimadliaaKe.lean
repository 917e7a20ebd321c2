/- Walks: slices.DeleteFunc at ints, with a function that captures one value (as in chapter 45); projection.Alike; steps where there is no state; diagnosability.Model.run. -/
import Derived.Test.YtddhaidimadliaaJy
import Derived.Test.YtddhaidimadliaaNd
import Derived.Lib.SliceRun
import Derived.Deep.Cut
import Derived.BigQuiet
namespace Go.Proofs.Ytddhaidimadliaa
open Go.RowKit Go

/-- the row while it is rewritten: what is kept so far, and what has not been looked at -/
structure DelM (w0 W : World) (g cap n : Nat) (l : List Int) (p : Int → Bool) (i j : Nat) : Prop where
 gr : w0.grownBy W (some g)
 row : ∃ cs : List Value, Blk W g 3 cs ∧ cs.length = cap ∧ cs.take i = iv ((l.take j).filter fun x => !p x) ∧ ∀ k, j ≤ k → k < n → cs[k]? = (iv l)[k]?
 len : i = ((l.take j).filter fun x => !p x).length
theorem take_snocD {l : List Int} {j : Nat} {x : Int} (h : l[j]? = some x) : l.take (j + 1) = l.take j ++ [x] := by
 rw [List.take_add_one, h]; rfl
theorem DelM.skip {w0 W : World} {g cap n : Nat} {l : List Int} {p : Int → Bool} {i j : Nat} {x : Int} (h : DelM w0 W g cap n l p i j) (hx : l[j]? = some x) (hp : p x = true) : DelM w0 W g cap n l p i (j + 1) := by
 have e : (l.take (j + 1)).filter (fun x => !p x) = (l.take j).filter fun x => !p x := by
  rw [take_snocD hx, List.filter_append, List.filter_cons_of_neg (by simp [hp])]; simp
 obtain ⟨cs, h1, h2, h3, h4⟩ := h.row
 exact ⟨h.gr, ⟨cs, h1, h2, by rw [e]; exact h3, fun k hk hn => h4 k (by omega) hn⟩, by rw [e]; exact h.len⟩
theorem DelM.keep {w0 W : World} {g cap n : Nat} {l : List Int} {p : Int → Bool} {i j : Nat} {x : Int} (h : DelM w0 W g cap n l p i j) (hx : l[j]? = some x) (hp : p x = false) (hij : i ≤ j) (hc : j < cap) : DelM w0 (W.setCell ⟨g, i, none⟩ (.int .i64 x)) g cap n l p (i + 1) (j + 1) := by
 have e : (l.take (j + 1)).filter (fun x => !p x) = (l.take j).filter (fun x => !p x) ++ [x] := by
  rw [take_snocD hx, List.filter_append, List.filter_cons_of_pos (by simp [hp])]; rfl
 obtain ⟨cs, h1, h2, h3, h4⟩ := h.row
 have hi : i < cs.length := by omega
 refine ⟨⟨h.gr.os, h.gr.tape, h.gr.output, by simpa [World.setCell] using h.gr.size, fun k hk hne => ?_⟩, ⟨cs.set i (.int .i64 x), h1.set hi _, by rw [List.length_set]; exact h2, ?_, fun k hk hn => ?_⟩, by rw [e, List.length_append, ← h.len]; rfl⟩
 ·have hs := h.gr.size
  rw [← h.gr.block k hk hne]
  exact (grown_setCell W g i (.int .i64 x)).block k (by omega) hne
 ·rw [e, iv_append, ← h3, List.take_add_one, List.take_set, List.getElem?_set_self hi]
  rw [List.set_eq_of_length_le (by rw [List.length_take]; omega)]
  rfl
 ·rw [List.getElem?_set_ne (by omega)]
  exact h4 k (by omega) hn
theorem DelM.cell {w0 W : World} {g cap n : Nat} {l : List Int} {p : Int → Bool} {i j : Nat} {x : Int} (h : DelM w0 W g cap n l p i j) (hx : l[j]? = some x) (hn : j < n) : W.cell? ⟨g, j, none⟩ = some (.int .i64 x) := by
 obtain ⟨cs, h1, _, _, h4⟩ := h.row
 refine h1.cell ?_
 rw [h4 j (Nat.le_refl _) hn, iv_get, hx]
 rfl
end Go.Proofs.Ytddhaidimadliaa

/- Walks: projection.Alike; Model.step where there is no state; diagnosability.Model.run. -/
namespace Go.Proofs.Ytddhaidimadliaa
open Go.RowKit Go

end Go.Proofs.Ytddhaidimadliaa

/- Walk: diagnosability.Verify. -/
namespace Go.Proofs.Ytddhaidimadliaa
open Go.RowKit Go

def C5 (W : World) (b : Nat) (v0 v1 v2 v3 v4 : Value) : Prop := W.cell? ⟨b, 0, none⟩ = some v0 ∧ W.cell? ⟨b, 1, none⟩ = some v1 ∧ W.cell? ⟨b, 2, none⟩ = some v2 ∧ W.cell? ⟨b, 3, none⟩ = some v3 ∧ W.cell? ⟨b, 4, none⟩ = some v4
theorem Blk.c5 {w : World} {b : Nat} {t : TypeId} {v0 v1 v2 v3 v4 : Value} {vs : List Value} (h : Blk w b t (v0 :: v1 :: v2 :: v3 :: v4 :: vs)) : C5 w b v0 v1 v2 v3 v4 := ⟨h.cell (j := 0) rfl, h.cell (j := 1) rfl, h.cell (j := 2) rfl, h.cell (j := 3) rfl, h.cell (j := 4) rfl⟩
/-- a list of ints as a value -/
structure IV where
 A : Option Addr
 n : Nat
 c : Nat
 l : List Int
abbrev IV.v (x : IV) : Value := .slice x.A x.n x.c
structure IV.ok (w : World) (B : Nat) (x : IV) : Prop where
 la : x.l.length = x.n
 ac : x.n ≤ x.c
 cA : x.c ≤ 9223372036854775807
 ra : RdI w B x.A x.l
theorem IV.ok.below {w w' : World} {B : Nat} {x : IV} (h : x.ok w B) (hb : Below B w w') : x.ok w' B := ⟨h.la, h.ac, h.cA, h.ra.below hb⟩
theorem IV.ok.more {w : World} {B B' : Nat} {x : IV} (h : x.ok w B) (hB : B ≤ B') : x.ok w B' := ⟨h.la, h.ac, h.cA, h.ra.more hB⟩
end Go.Proofs.Ytddhaidimadliaa
