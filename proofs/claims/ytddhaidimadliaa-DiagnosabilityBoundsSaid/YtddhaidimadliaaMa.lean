/- Words on the product's machine: tables of edges; the machine's value. -/
import Derived.Test.YtddhaidimadliaaSa
import Derived.Test.YtddhaidimadliaaAa
import Derived.DeepKeys4
import Derived.MapViews
import Derived.ProofKit
import Derived.Test.YtddhaidimadliaaQa
namespace Go.Proofs.Ytddhaidimadliaa
open Go.RowKit Go Go.Maps

theorem laidOut : laidOutB Try.prog = true := by kernel_rfl
theorem intCells : Try.prog.cellsOf 3 = 1 := by kernel_rfl
def kP (p : Int × Int) : Value := .agg #[.int .i64 p.1, .int .i64 p.2]
theorem zeroInt (w : World) : (zeroValue 3).run Try.prog w = .ok (.int .i64 0) w := by kernel_rfl
/-- Block b is a map that says the edges. -/
def TabE (w : World) (b n : Nat) (l : List Ed) : Prop := TabI Try.prog 114 3 kP w b n (fun p => lkE p.1 p.2 l)
/-- A slice of such maps. -/
def RdG (w : World) (B : Nat) (A : Option Addr) (l : List Aut) : Prop :=
 ∀ k a, l[k]? = some a → ∃ ad b m, A = some ad ∧ ad.block < B ∧ b < B ∧ w.cell? (ad.add k) = some (.map (some b)) ∧ TabE w b m a.ed
theorem RdG.below {w w' : World} {B : Nat} {A : Option Addr} {l : List Aut} (h : RdG w B A l) (hb : Below B w w') : RdG w' B A l := fun k a ha => by
 obtain ⟨ad, b, m, e, h1, h2, h3, h4⟩ := h k a ha
 exact ⟨ad, b, m, e, h1, h2, (hb.cell (by rw [block_of_add]; exact h1)).trans h3, TabI.below h4 hb h2⟩
theorem RdG.more {w : World} {B B' : Nat} {A : Option Addr} {l : List Aut} (h : RdG w B A l) (hB : B ≤ B') : RdG w B' A l := fun k a ha => by
 obtain ⟨ad, b, m, e, h1, h2, h3, h4⟩ := h k a ha
 exact ⟨ad, b, m, e, by omega, by omega, h3, h4⟩
theorem RdG.after {w w' : World} {B B' : Nat} {A : Option Addr} {l : List Aut} (h : RdG w B A l) (hb : Below B' w w') (hB : B ≤ B') : RdG w' B A l := h.below (hb.mono hB)
/-- The machine's three slices. -/
structure MachR (w : World) (B : Nat) (L : Option Addr) (n c : Nat) (V : Option Addr) (nv cv : Nat) (G : Option Addr) (cg : Nat) (xs : List AV) : Prop where
 ll : xs.length = n
 lc : n ≤ c
 cL : c ≤ 9223372036854775807
 rl : RdL w B L xs
 lv : (evs (xs.map AV.a)).length = nv
 vc : nv ≤ cv
 cV : cv ≤ 9223372036854775807
 rv : RdI w B V (evs (xs.map AV.a))
 gc : n ≤ cg
 cG : cg ≤ 9223372036854775807
 rg : RdG w B G (xs.map AV.a)
section
variable {w w' : World} {B B' : Nat} {L V G : Option Addr} {n c nv cv cg : Nat} {xs : List AV}
theorem MachR.below (h : MachR w B L n c V nv cv G cg xs) (hb : Below B w w') : MachR w' B L n c V nv cv G cg xs :=
 ⟨h.ll, h.lc, h.cL, h.rl.below hb, h.lv, h.vc, h.cV, h.rv.below hb, h.gc, h.cG, h.rg.below hb⟩
theorem MachR.more (h : MachR w B L n c V nv cv G cg xs) (hB : B ≤ B') : MachR w B' L n c V nv cv G cg xs :=
 ⟨h.ll, h.lc, h.cL, h.rl.more hB, h.lv, h.vc, h.cV, h.rv.more hB, h.gc, h.cG, h.rg.more hB⟩
theorem MachR.after (h : MachR w B L n c V nv cv G cg xs) (hb : Below B' w w') (hB : B ≤ B') : MachR w' B L n c V nv cv G cg xs := h.below (hb.mono hB)
end
/-- The same, its own rows all above block r, the arguments below it. -/
def RdGF (w : World) (r B : Nat) (A : Option Addr) (l : List Aut) : Prop :=
 ∀ k a, l[k]? = some a → ∃ ad b m, A = some ad ∧ r < ad.block ∧ ad.block < B ∧ r < b ∧ b < B ∧ w.cell? (ad.add k) = some (.map (some b)) ∧ TabE w b m a.ed
structure MachF (w : World) (r B : Nat) (L : Option Addr) (n c : Nat) (V : Option Addr) (nv cv : Nat) (G : Option Addr) (cg : Nat) (xs : List AV) : Prop where
 ll : xs.length = n
 lc : n ≤ c
 cL : c ≤ 9223372036854775807
 rl : RdL w r L xs
 lv : (evs (xs.map AV.a)).length = nv
 vc : nv ≤ cv
 cV : cv ≤ 9223372036854775807
 rv : RdI w B V (evs (xs.map AV.a))
 fv : ∀ ad, V = some ad → r < ad.block
 gc : n ≤ cg
 cG : cg ≤ 9223372036854775807
 rg : RdGF w r B G (xs.map AV.a)
section
variable {w w' : World} {r B B' : Nat} {L V G : Option Addr} {n c nv cv cg : Nat} {xs : List AV}
theorem MachF.keep (h : MachF w r B L n c V nv cv G cg xs) (hr : r ≤ B) (hk : ∀ k, k < B → k ≠ r → w'.heap[k]? = w.heap[k]?) : MachF w' r B L n c V nv cv G cg xs := by
 refine ⟨h.ll, h.lc, h.cL, h.rl.keep fun p hp => World.cell?_of_block (hk _ (by omega) (by omega)), h.lv, h.vc, h.cV, ?_, h.fv, h.gc, h.cG, fun k a ha => ?_⟩
 ·intro k u hu
  obtain ⟨ad, e, hb, hc⟩ := h.rv k u hu
  have := h.fv ad e
  exact ⟨ad, e, hb, (World.cell?_of_block (hk _ (by rw [block_of_add]; exact hb) (by rw [block_of_add]; omega))).trans hc⟩
 ·obtain ⟨ad, b, m, e, h1, h2, h3, h4, h5, h6⟩ := h.rg k a ha
  exact ⟨ad, b, m, e, h1, h2, h3, h4, (World.cell?_of_block (hk _ (by rw [block_of_add]; exact h2) (by rw [block_of_add]; omega))).trans h5, TabI.block h6 (hk b h4 (by omega))⟩
theorem MachF.more (h : MachF w r B L n c V nv cv G cg xs) (hB : B ≤ B') : MachF w r B' L n c V nv cv G cg xs :=
 ⟨h.ll, h.lc, h.cL, h.rl, h.lv, h.vc, h.cV, h.rv.more hB, h.fv, h.gc, h.cG, fun k a ha => by
  obtain ⟨ad, b, m, e, h1, h2, h3, h4, h5, h6⟩ := h.rg k a ha
  exact ⟨ad, b, m, e, h1, by omega, h3, by omega, h5, h6⟩⟩
end
end Go.Proofs.Ytddhaidimadliaa

/- Walks: product.open. -/
namespace Go.Proofs.Ytddhaidimadliaa
open Go.RowKit Go Go.Maps

/-- the maps made so far -/
def MapsR (w : World) (B : Nat) (gl : List Nat) (l : List Aut) : Prop := gl.length = l.length ∧ ∀ (j b : Nat) (a : Aut), gl[j]? = some b → l[j]? = some a → B ≤ b ∧ ∃ m, TabE w b m a.ed
theorem MapsR.step {w w' : World} {B bm m : Nat} {gl : List Nat} {l : List Aut} {a : Aut} (h : MapsR w B gl l) (hk : ∀ b n ed, TabE w b n ed → B ≤ b → TabE w' b n ed) (hB : B ≤ bm) (ht : TabE w' bm m a.ed) : MapsR w' B (gl ++ [bm]) (l ++ [a]) := by
 refine ⟨by simp [h.1], fun j b x hb hx => ?_⟩
 rcases Nat.lt_or_ge j gl.length with hj | hj
 ·rw [List.getElem?_append_left hj] at hb
  rw [List.getElem?_append_left (by rw [← h.1]; exact hj)] at hx
  obtain ⟨h1, n, h2⟩ := h.2 j b x hb hx
  exact ⟨h1, n, hk b n _ h2 h1⟩
 ·rw [List.getElem?_append_right hj] at hb
  rw [List.getElem?_append_right (by rw [← h.1]; exact hj)] at hx
  have hj0 : j - gl.length = 0 := by
   rcases Nat.eq_zero_or_pos (j - gl.length) with h0 | h0
   ·exact h0
   ·rw [List.getElem?_eq_none (by simp; omega)] at hb; cases hb
  rw [hj0] at hb
  rw [← h.1, hj0] at hx
  simp at hb hx
  subst hb hx
  exact ⟨hB, m, ht⟩
theorem own_shape {w : World} {base : Nat} {e : TypeId} {size n : Nat} {v : Value} {xs : List Value} (h : w.ownsRow base e size v n xs) : ∃ A c, v = .slice A n c := by
 rcases h.2 with ⟨rfl, rfl⟩ | ⟨g, cap, cur, rfl, _⟩
 ·exact ⟨_, _, rfl⟩
 ·exact ⟨_, _, rfl⟩
theorem own_cap' {w : World} {base : Nat} {e : TypeId} {size n cap : Nat} {A : Option Addr} {xs : List Value} (h : w.ownsRow base e size (.slice A n cap) n xs) : n ≤ cap ∧ cap ≤ 9223372036854775807 := by
 rcases h.2 with ⟨h', h0⟩ | ⟨g', cap', cur, h', _, _, hnc, hcm, _⟩
 ·injection h' with _ _ h'
  subst h' h0; exact ⟨Nat.le_refl _, by omega⟩
 ·injection h' with _ _ h'
  subst h'
  exact ⟨hnc, by simpa [maxLen] using hcm⟩
theorem MapsR.kept {w w' : World} {B r : Nat} {gl : List Nat} {l : List Aut} (h : MapsR w B gl l) (hg : w.grownBy w' (some r)) (hr : r < B) : MapsR w' B gl l := ⟨h.1, fun j b a hb ha => by
 obtain ⟨h1, m, h2⟩ := h.2 j b a hb ha
 exact ⟨h1, m, TabI.kept h2 hg (fun e => by injection e with e; omega)⟩⟩
theorem own_kept_low {w w' : World} {base r : Nat} {e : TypeId} {size n : Nat} {v : Value} {xs : List Value} (h : w.ownsRow base e size v n xs) (hg : w.grownBy w' (some r)) (hb : r < base) : w'.ownsRow base e size v n xs := by
 refine h.kept hg ?_
 cases hv : v.ownBlock with
 | none => exact .inl rfl
 | some g =>
  right
  have := (h.lt g hv).1
  intro e; injection e with e; omega
end Go.Proofs.Ytddhaidimadliaa

/- Walks: alphabet.Intersect, Minus, Subset, CheckSet; controllable.steps. -/
namespace Go.Proofs.Ytddhaidimadliaa
open Go.RowKit Go Go.Maps

set_option maxHeartbeats 400000 in
theorem alphabet_CheckSet (A : Option Addr) (c : Nat) (l : List Int) (n : Int) (w : World) (h : RdI w w.heap.size A l) (hlc : l.length ≤ c) (hc : c ≤ 9223372036854775807) :
  Calls Try.prog 76 #[.slice A l.length c, .int .i64 n] w fun e w' => e = .returned (.int .i64 (setErr l n)) ∧ w = w' := by
 go_enter Try.func76, Try.ntmps76
 go_wp2
 go_loop [9] (fun i => ∃ k : Nat, k ≤ l.length ∧ i = .int .i64 k ∧ Hid (setErr l n = setErrG n (l.take k).getLast? (l.drop k))) (fun i => l.length - (intOf i).toNat)
 case atStart => exact ⟨0, Nat.zero_le _, rfl, Lib.hid rfl⟩
 case round =>
  obtain ⟨k, hk, rfl, HX⟩ := hrel
  by_cases hlt : k < l.length
  ·obtain ⟨ad, y, rfl, hb, hy, hcell⟩ := h.at_ hlt
   have HY := Lib.hid hy; clear hy
   by_cases h1 : y < 0
   ·go_wp2
    go_ret
    exact ⟨ret_int (by rw [HX.out, setErrG_range HY.out (.inl h1)]), rfl⟩
   by_cases h2 : n ≤ y
   ·go_wp2
    go_ret
    exact ⟨ret_int (by rw [HX.out, setErrG_range HY.out (.inr h2)]), rfl⟩
   have e1 : decide (y < 0) = false := by simpa using h1
   have e2 : decide (n ≤ y) = false := by simpa using h2
   cases k with
   | zero =>
    have hcell' := cell_zero hcell
    go_wp2
    go_round
    case rel => exact ⟨1, by omega, by go_num, Lib.hid (by rw [HX.out, take_snoc' HY.out, List.getLast?_concat]; exact setErrG_first HY.out (by omega))⟩
    case measure => simp [intOf]; omega
   | succ j =>
    obtain ⟨ad', q, e, _, hq, hcq⟩ := h.at_ (k := j) (by omega)
    obtain rfl : ad = ad' := by injection e
    have hcell' := cell_succ hcell
    have HQ := Lib.hid hq; clear hq
    by_cases h3 : y ≤ q
    ·go_wp2
     go_ret
     exact ⟨ret_int (by rw [HX.out, take_snoc' HQ.out, List.getLast?_concat, setErrG_order HY.out (by omega) h3]), rfl⟩
    ·go_wp2
     go_round
     case rel => exact ⟨j + 1 + 1, by omega, by go_num, Lib.hid (by rw [HX.out, take_snoc' HQ.out, List.getLast?_concat, setErrG_next HY.out (by omega) (by omega), take_snoc' HY.out, List.getLast?_concat])⟩
     case measure => simp [intOf]; omega
  ·go_wp2
   go_ret
   exact ⟨ret_int (by rw [HX.out, setErrG_end hlt]), rfl⟩


theorem alphabet_CheckSet_n (A : Option Addr) (c n : Nat) (l : List Int) (m r : Int) (w : World) (hl : l.length = n) (hr : setErr l m = r) (h : RdI w w.heap.size A l) (hlc : n ≤ c) (hc : c ≤ 9223372036854775807) :
  Calls Try.prog 76 #[.slice A n c, .int .i64 m] w fun e w' => e = .returned (.int .i64 r) ∧ w = w' := by
 subst hl hr; exact alphabet_CheckSet A c l m w h hlc hc
end Go.Proofs.Ytddhaidimadliaa

/- Walks: the machine's initial tuple, its marked tuples. -/
namespace Go.Proofs.Ytddhaidimadliaa
open Go.RowKit Go Go.Maps

end Go.Proofs.Ytddhaidimadliaa


namespace Go.Proofs.Ytddhaidimadliaa
open Go.RowKit Go Go.Maps

/-- flags as cells -/
def bvl (N : List Bool) : List Value := N.map Value.bool
theorem bvl_length (N : List Bool) : (bvl N).length = N.length := by simp [bvl]
theorem bvl_get (N : List Bool) (k : Nat) : (bvl N)[k]? = N[k]?.map Value.bool := by simp [bvl]
theorem bvl_set (N : List Bool) (k : Nat) (q : Bool) : (bvl N).set k (.bool q) = bvl (N.set k q) := by simp [bvl, List.map_set]
theorem bool_info : (Try.prog.info? 4).map (fun i => (i.zero, i.size, i.bytes)) = some (some (.bool false), 1, 1) := by kernel_rfl
theorem made_bools (n : Nat) : madeCells #[.bool false] n = (bvl (List.replicate n false)).toArray := by
 apply Array.ext
 ·simp [madeCells, bvl]
 ·intro i h1 h2
  simp [madeCells, bvl, Nat.mod_one]
end Go.Proofs.Ytddhaidimadliaa

/- Walks: the machine's step. -/
namespace Go.Proofs.Ytddhaidimadliaa
open Go.RowKit Go Go.Maps

theorem TabI.drewN {α : Type} {P : Program} {K E : TypeId} {key : α → Value} {w : World} {b n : Nat} {g : α → Option Int} (h : TabI P K E key w b n g) (p : Nat) : TabI P K E key (w.drewN p) b n g := h.block rfl
theorem iv_set (l : List Int) (k : Nat) (y : Int) : (iv l).set k (.int .i64 y) = iv (l.set k y) := by
 unfold iv; rw [List.map_set]


end Go.Proofs.Ytddhaidimadliaa
