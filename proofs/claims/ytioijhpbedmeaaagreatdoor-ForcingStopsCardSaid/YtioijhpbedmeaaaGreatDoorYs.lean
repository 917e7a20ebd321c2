/- The sketch's cells; the system under construction in memory. -/
import Derived.Test.YtioijhpbedmeaaaGreatDoorYp
import Derived.Test.YtioijhpbedmeaaaGreatDoorGe
namespace Go.Proofs.YtioijhpbedmeaaaGreatDoor
open Go.RowKit Go Go.Maps

def skcells (x : Sk) : List Value := .int .u8 x.ev :: (gcells x.pl ++ (gcells x.su ++ [.int .u8 x.un, .int .u8 x.fo, .int .u8 x.ti]))
theorem gcells_len {g : Gr} (h : g.ok) : (gcells g).length = 27 := by simp [gcells, bv, h.len]
theorem skcells_at {x : Sk} (h : x.ok) : (skcells x)[0]? = some (.int .u8 x.ev) ∧ (∀ j v, (gcells x.pl)[j]? = some v → (skcells x)[1 + j]? = some v) ∧ (∀ j v, (gcells x.su)[j]? = some v → (skcells x)[28 + j]? = some v) ∧ (skcells x)[55]? = some (.int .u8 x.un) ∧ (skcells x)[56]? = some (.int .u8 x.fo) ∧ (skcells x)[57]? = some (.int .u8 x.ti) := by
 have h1 := gcells_len h.pl
 have h2 := gcells_len h.su
 have key : ∀ k, (skcells x)[28 + k]? = (gcells x.su ++ [.int .u8 x.un, .int .u8 x.fo, .int .u8 x.ti])[k]? := fun k => by
  unfold skcells
  rw [show 28 + k = (27 + k) + 1 by omega, List.getElem?_cons_succ, List.getElem?_append_right (by omega), h1]
  congr 1; omega
 refine ⟨rfl, fun j v hj => ?_, fun j v hj => ?_, ?_, ?_, ?_⟩
 ·have hj2 := (List.getElem?_eq_some_iff.1 hj).1
  unfold skcells
  rw [Nat.add_comm, List.getElem?_cons_succ, List.getElem?_append_left hj2]
  exact hj
 ·have hj2 := (List.getElem?_eq_some_iff.1 hj).1
  rw [key, List.getElem?_append_left hj2]; exact hj
 ·rw [show 55 = 28 + 27 by rfl, key, List.getElem?_append_right (by omega), h2]; rfl
 ·rw [show 56 = 28 + 28 by rfl, key, List.getElem?_append_right (by omega), h2]; rfl
 ·rw [show 57 = 28 + 29 by rfl, key, List.getElem?_append_right (by omega), h2]; rfl
theorem skcells_len {x : Sk} (h : x.ok) : (skcells x).length = 58 := by simp [skcells, gcells_len h.pl, gcells_len h.su]
/-- what Make reads of its argument -/
def SkA (W : World) (b : Nat) (x : Sk) : Prop := W.cell? ⟨b, 0, none⟩ = some (.int .u8 x.ev) ∧ W.rangeAt b 1 (gcells x.pl) ∧ W.rangeAt b 28 (gcells x.su) ∧ W.cell? ⟨b, 55, none⟩ = some (.int .u8 x.un) ∧ W.cell? ⟨b, 56, none⟩ = some (.int .u8 x.fo) ∧ W.cell? ⟨b, 57, none⟩ = some (.int .u8 x.ti)
theorem SkA.of {W : World} {b : Nat} {x : Sk} {t : TypeId} (h : Blk W b t (skcells x)) (hp : x.ok) : SkA W b x := by
 obtain ⟨h1, h2, h3, h4, h5, h6⟩ := skcells_at hp
 exact ⟨h.cell h1, fun j v hj => h.cell (h2 j v hj), fun j v hj => h.cell (h3 j v hj), h.cell h4, h.cell h5, h.cell h6⟩

/-- an automaton that is the call's own, in blocks below N -/
structure FarA (W : World) (b0 N : Nat) (x : AV) : Prop where
 o : AutO W b0 x.A x.na x.ca x.M x.nm x.cm x.E x.ne x.ce x.a
 la : ∀ g, (Value.slice x.A x.na x.ca).ownBlock = some g → g < N
 lm : ∀ g, (Value.slice x.M x.nm x.cm).ownBlock = some g → g < N
 le : ∀ g, (Value.slice x.E x.ne x.ce).ownBlock = some g → g < N
section
variable {W W' : World} {b0 N b : Nat} {x : AV} {t : TypeId} {vs : List Value}
theorem FarA.new (h : AutO W b0 x.A x.na x.ca x.M x.nm x.cm x.E x.ne x.ce x.a) : FarA W b0 W.heap.size x := ⟨h, fun g hg => (h.oa.lt g hg).2, fun g hg => (h.om.lt g hg).2, fun g hg => (h.oe.lt g hg).2⟩
theorem FarA.quiet (h : FarA W b0 N x) (hb : Below W.heap.size W W') : FarA W' b0 N x := ⟨h.o.below hb, h.la, h.lm, h.le⟩
theorem FarA.cell (h : FarA W b0 N x) (hk : Blk W b t vs) (h1 : 3 ≠ t) (h2 : 49 ≠ t) (hg : W.grownBy W' (some b)) : FarA W' b0 N x :=
 ⟨⟨h.o.la, h.o.oa.kept hg (own_ne_blk h.o.oa hk h1), h.o.lm, h.o.om.kept hg (own_ne_blk h.o.om hk h1), h.o.le, h.o.oe.kept hg (own_ne_blk h.o.oe hk h2)⟩, h.la, h.lm, h.le⟩
theorem FarA.low (h : FarA W b0 N x) {r : Nat} (hg : W.grownBy W' (some r)) (hr : r < b0) : FarA W' b0 N x := ⟨h.o.low hg hr, h.la, h.lm, h.le⟩
theorem own_before {base : Nat} {e : TypeId} {size n : Nat} {v v' : Value} {xs : List Value} (h : W.ownsRow base e size v n xs) (hl : ∀ g, v.ownBlock = some g → g < N) (hg : W.grownBy W' v'.ownBlock) (hv : ∀ g, v'.ownBlock = some g → N ≤ g) : W'.ownsRow base e size v n xs :=
 own_far h hg fun g h1 h2 => by have := hl g h1; have := hv g h2; omega
theorem FarA.push (h : FarA W b0 N x) {v' : Value} (hg : W.grownBy W' v'.ownBlock) (hv : ∀ g, v'.ownBlock = some g → N ≤ g) : FarA W' b0 N x :=
 ⟨⟨h.o.la, own_before h.o.oa h.la hg hv, h.o.lm, own_before h.o.om h.lm hg hv, h.o.le, own_before h.o.oe h.le hg hv⟩, h.la, h.lm, h.le⟩
theorem FarA.ok (h : FarA W b0 N x) : x.ok W W.heap.size := h.o.rd
end
def sysv (x y : AV) (uv fv : Value) (tick : Int) : List Value := [.slice x.A x.na x.ca, .int .i64 x.a.st, .slice x.M x.nm x.cm, .slice x.E x.ne x.ce, .slice y.A y.na y.ca, .int .i64 y.a.st, .slice y.M y.nm y.cm, .slice y.E y.ne y.ce, uv, fv, .int .i64 tick]
/-- the system while its lists grow -/
structure MkL (b0 bs : Nat) (wx W : World) (x y : AV) (tick : Int) (uv fv : Value) (ku kf : Nat) (ul fl : List Int) : Prop where
 bel : Below bs wx W
 siz : wx.heap.size ≤ W.heap.size
 blk : Blk W bs 35 (sysv x y uv fv tick)
 lo : b0 ≤ bs
 hi : bs < wx.heap.size
 p : FarA W b0 wx.heap.size x
 s : FarA W b0 wx.heap.size y
 o1 : W.ownsRow wx.heap.size 3 1 uv ku (iv ul)
 o2 : W.ownsRow wx.heap.size 3 1 fv kf (iv fl)
 e1 : ul.length = ku
 e2 : fl.length = kf
 apt : ∀ g, uv.ownBlock = some g → fv.ownBlock ≠ some g
section
variable {b0 bs : Nat} {wx W W' : World} {x y : AV} {tick : Int} {uv fv : Value} {ku kf : Nat} {ul fl : List Int}
theorem MkL.quiet (h : MkL b0 bs wx W x y tick uv fv ku kf ul fl) (hb : Below W.heap.size W W') : MkL b0 bs wx W' x y tick uv fv ku kf ul fl :=
 ⟨h.bel.trans (hb.mono (Nat.le_trans (Nat.le_of_lt h.hi) h.siz)), Nat.le_trans h.siz hb.size, h.blk.below hb h.blk.lt, h.lo, h.hi, h.p.quiet hb, h.s.quiet hb, own_below h.o1 hb, own_below h.o2 hb, h.e1, h.e2, h.apt⟩
theorem MkL.pushU (h : MkL b0 bs wx W x y tick uv fv ku kf ul fl) {A : Option Addr} {c : Nat} {i : Int} (ho : W'.ownsRow wx.heap.size 3 1 (.slice A (ku + 1) c) (ku + 1) (iv ul ++ [.int .i64 i])) (hg : W.grownBy W' uv.ownBlock)
  (hl : (Value.slice A (ku + 1) c).ownBlock = uv.ownBlock ∨ ∃ g, (Value.slice A (ku + 1) c).ownBlock = some g ∧ W.heap.size ≤ g) : MkL b0 bs wx (W'.setCell ⟨bs, 8, none⟩ (.slice A (ku + 1) c)) x y tick (.slice A (ku + 1) c) fv (ku + 1) kf (ul ++ [i]) fl := by
 have hv : ∀ g, uv.ownBlock = some g → wx.heap.size ≤ g := fun g hg => (h.o1.lt g hg).1
 have k1 : Blk W' bs 35 (sysv x y uv fv tick) := h.blk.kept hg (blk_ne_own h.o1 h.blk (by decide))
 have hs := grown_setCell W' bs 8 (.slice A (ku + 1) c)
 refine ⟨(h.bel.grown hg (Nat.le_trans (Nat.le_of_lt h.hi) h.siz) (fun j hj => Nat.le_trans (Nat.le_of_lt h.hi) (hv j hj))).setCell (p := ⟨bs, 8, none⟩) (Nat.le_refl _) _, Nat.le_trans (Nat.le_trans h.siz hg.size) hs.size, k1.set (j := 8) (by simp [sysv]) _, h.lo, h.hi,
  (h.p.push hg hv).cell k1 (by decide) (by decide) hs, (h.s.push hg hv).cell k1 (by decide) (by decide) hs, ?_, (own_far h.o2 hg (fun g a b => h.apt g b a)).kept hs (own_ne_blk (own_far h.o2 hg (fun g a b => h.apt g b a)) k1 (by decide)), by simp [h.e1], h.e2, fun g h1 h2 => ?_⟩
 ·rw [iv_append]
  exact ho.kept hs (own_ne_blk ho k1 (by decide))
 ·rcases hl with hl | ⟨g', hl, hle⟩
  ·rw [hl] at h1; exact h.apt g h1 h2
  ·rw [hl] at h1; injection h1 with h1
   have := (h.o2.lt g h2).2
   omega
theorem MkL.pushF (h : MkL b0 bs wx W x y tick uv fv ku kf ul fl) {A : Option Addr} {c : Nat} {i : Int} (ho : W'.ownsRow wx.heap.size 3 1 (.slice A (kf + 1) c) (kf + 1) (iv fl ++ [.int .i64 i])) (hg : W.grownBy W' fv.ownBlock)
  (hl : (Value.slice A (kf + 1) c).ownBlock = fv.ownBlock ∨ ∃ g, (Value.slice A (kf + 1) c).ownBlock = some g ∧ W.heap.size ≤ g) : MkL b0 bs wx (W'.setCell ⟨bs, 9, none⟩ (.slice A (kf + 1) c)) x y tick uv (.slice A (kf + 1) c) ku (kf + 1) ul (fl ++ [i]) := by
 have hv : ∀ g, fv.ownBlock = some g → wx.heap.size ≤ g := fun g hg => (h.o2.lt g hg).1
 have k1 : Blk W' bs 35 (sysv x y uv fv tick) := h.blk.kept hg (blk_ne_own h.o2 h.blk (by decide))
 have hs := grown_setCell W' bs 9 (.slice A (kf + 1) c)
 refine ⟨(h.bel.grown hg (Nat.le_trans (Nat.le_of_lt h.hi) h.siz) (fun j hj => Nat.le_trans (Nat.le_of_lt h.hi) (hv j hj))).setCell (p := ⟨bs, 9, none⟩) (Nat.le_refl _) _, Nat.le_trans (Nat.le_trans h.siz hg.size) hs.size, k1.set (j := 9) (by simp [sysv]) _, h.lo, h.hi,
  (h.p.push hg hv).cell k1 (by decide) (by decide) hs, (h.s.push hg hv).cell k1 (by decide) (by decide) hs, (own_far h.o1 hg (fun g a b => h.apt g a b)).kept hs (own_ne_blk (own_far h.o1 hg (fun g a b => h.apt g a b)) k1 (by decide)), ?_, h.e1, by simp [h.e2], fun g h1 h2 => ?_⟩
 ·rw [iv_append]
  exact ho.kept hs (own_ne_blk ho k1 (by decide))
 ·rcases hl with hl | ⟨g', hl, hle⟩
  ·rw [hl] at h2; exact h.apt g h1 h2
  ·rw [hl] at h2; injection h2 with h2
   have := (h.o1.lt g h1).2
   omega
end
/-- a system as a value -/
def RetSV (P S : Aut) (u f : List Int) (tick : Int) (w : World) (e : Ending) (w' : World) : Prop :=
 ∃ z : SV, e = .returned (.agg (svc z).toArray) ∧ z.p.a = P ∧ z.s.a = S ∧ z.u = u ∧ z.f = f ∧ z.tick = tick ∧ z.ok w' w'.heap.size ∧ Below w.heap.size w w'
/-- a list of ints to be read -/
structure RdU (w : World) (U : Option Addr) (nu cu : Nat) (u : List Int) : Prop where
 len : u.length = nu
 rd : RdI w w.heap.size U u
 c1 : nu ≤ cu
 c2 : cu ≤ 9223372036854775807
theorem RdU.below {w w' : World} {U : Option Addr} {nu cu : Nat} {u : List Int} (h : RdU w U nu cu u) (hb : Below w.heap.size w w') : RdU w' U nu cu u := ⟨h.len, (h.rd.below hb).more hb.size, h.c1, h.c2⟩
theorem RdU.own {w : World} {base : Nat} {U : Option Addr} {nu cu : Nat} {u : List Int} (h : w.ownsRow base 3 1 (.slice U nu cu) nu (iv u)) (hl : u.length = nu) : RdU w U nu cu u := ⟨hl, RdI.of_own h, (own_cap' h).1, (own_cap' h).2⟩
theorem RdU.lit {w : World} {b n : Nat} {u : List Int} (h : Blk w b 3 (iv u)) (hl : u.length = n) (hn : n ≤ 9223372036854775807) : RdU w (some ⟨b, 0, none⟩) n n u := ⟨hl, Blk.rdi h, Nat.le_refl _, hn⟩
end Go.Proofs.YtioijhpbedmeaaaGreatDoor
