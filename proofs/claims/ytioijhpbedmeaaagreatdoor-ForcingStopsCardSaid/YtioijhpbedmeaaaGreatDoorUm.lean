/- Walks: forcing.Loop, forcing.open; two rows that grow apart; tuples of two do not lie in a zero automaton's block. -/
import Derived.Test.YtioijhpbedmeaaaGreatDoorUl
import Derived.Test.YtioijhpbedmeaaaGreatDoorMh
namespace Go.Proofs.YtioijhpbedmeaaaGreatDoor
open Go.RowKit Go Go.Maps

theorem own_far {w w' : World} {base : Nat} {e : TypeId} {size n : Nat} {v v' : Value} {xs : List Value} (h : w.ownsRow base e size v n xs) (hg : w.grownBy w' v'.ownBlock) (hne : ∀ g, v.ownBlock = some g → v'.ownBlock ≠ some g) : w'.ownsRow base e size v n xs :=
 h.kept hg (by
  cases hv : v.ownBlock with
  | none => exact .inl rfl
  | some g => exact .inr (fun e => hne g hv e.symm))
/-- two rows of ints that grow apart from each other -/
structure TwoR (B : Nat) (w0 w : World) (v1 v2 : Value) (n1 n2 : Nat) (l1 l2 : List Int) : Prop where
 bel : Below B w0 w
 siz : B ≤ w.heap.size
 o1 : w.ownsRow B 3 1 v1 n1 (iv l1)
 o2 : w.ownsRow B 3 1 v2 n2 (iv l2)
 e1 : l1.length = n1
 e2 : l2.length = n2
 apt : ∀ g, v1.ownBlock = some g → v2.ownBlock ≠ some g
theorem Blk.inv {W : World} {q : Nat} {t : TypeId} {vs : List Value} (h : Blk W q t vs) {p : Addr} {u : Value} (hp : p.block = q) (hc : W.cell? p = some u) : p.spot = none ∧ vs[p.off]? = some u := by
 unfold World.cell? at hc
 rw [hp, show W.heap[q]? = some (.cells vs.toArray t (0, 0)) from h] at hc
 simp only at hc
 cases hs : p.spot with
 | none => rw [hs] at hc; exact ⟨rfl, by simpa using hc⟩
 | some z => rw [hs] at hc; simp at hc
def zAut : List Value := [.slice none 0 0, .int .i64 0, .slice none 0 0, .slice none 0 0]
theorem zAut_slice {o : Nat} {A : Option Addr} {n c : Nat} (h : zAut[o]? = some (.slice A n c)) : n = 0 := by
 unfold zAut at h
 match o, h with
 | 0, h => simp at h; exact h.2.1.symm
 | 1, h => simp at h
 | 2, h => simp at h; exact h.2.1.symm
 | 3, h => simp at h; exact h.2.1.symm
 | o + 4, h => simp at h
theorem zAut_int {o : Nat} {x : Int} (h : zAut[o]? = some (.int .i64 x)) : o = 1 := by
 unfold zAut at h
 match o, h with
 | 0, h => simp at h
 | 1, _ => rfl
 | 2, h => simp at h
 | 3, h => simp at h
 | o + 4, h => simp at h
/-- tuples of two lie elsewhere -/
theorem rds_apart {W W' : World} {q : Nat} {t : TypeId} {B : Option Addr} {ts : List SlV} (h : RdS W W.heap.size B ts) (hk : Blk W q t zAut) (hl : ∀ x ∈ ts, x.l.length = 2) (hg : W.grownBy W' (some q)) : RdS W' W'.heap.size B ts := by
 refine RdS.more (B := W.heap.size) ⟨fun k u hu => ?_, fun x hx => ⟨fun k u hu => ?_, (h.2 x hx).2⟩⟩ hg.size
 ·obtain ⟨ad, e, hb, hc⟩ := h.1 k u hu
  refine ⟨ad, e, hb, (World.cell?_of_block (hg.block _ (by rw [block_of_add]; exact hb) ?_)).trans hc⟩
  intro e2
  injection e2 with e2
  obtain ⟨_, h2⟩ := hk.inv e2 hc
  rw [List.getElem?_map] at hu
  obtain ⟨x, hx, rfl⟩ := Option.map_eq_some_iff.1 hu
  have h3 := zAut_slice h2
  have h4 := hl x (List.mem_of_getElem? hx)
  omega
 ·obtain ⟨ad, e, hb, hc⟩ := (h.2 x hx).1 k u hu
  refine ⟨ad, e, hb, (World.cell?_of_block (hg.block _ (by rw [block_of_add]; exact hb) ?_)).trans hc⟩
  intro e2
  injection e2 with e2
  rw [block_of_add] at e2
  obtain ⟨a0, y0, e0, _, hy0, d0⟩ := (h.2 x hx).1.at_ (k := 0) (by have := hl x hx; omega)
  obtain ⟨a1, y1, e1, _, hy1, d1⟩ := (h.2 x hx).1.at_ (k := 1) (by have := hl x hx; omega)
  rw [e] at e0 e1
  injection e0 with e0; subst e0
  injection e1 with e1; subst e1
  obtain ⟨s0, i0⟩ := hk.inv (p := ad.add 0) (by rw [block_of_add]; exact e2) d0
  obtain ⟨_, i1⟩ := hk.inv (p := ad.add 1) (by rw [block_of_add]; exact e2) d1
  have j0 := zAut_int i0
  have j1 := zAut_int i1
  rcases ad with ⟨b, o, sp⟩
  cases sp with
  | none =>
   have r0 : (Addr.add ⟨b, o, none⟩ 0).off = o := rfl
   have r1 : (Addr.add ⟨b, o, none⟩ 1).off = o + 1 := rfl
   omega
  | some z => unfold Addr.add at s0; simp at s0
section
variable {B : Nat} {w0 w w' : World} {v1 v2 : Value} {n1 n2 : Nat} {l1 l2 : List Int}
theorem TwoR.swap (h : TwoR B w0 w v1 v2 n1 n2 l1 l2) : TwoR B w0 w v2 v1 n2 n1 l2 l1 := ⟨h.bel, h.siz, h.o2, h.o1, h.e2, h.e1, fun g h1 h2 => h.apt g h2 h1⟩
theorem TwoR.quiet (h : TwoR B w0 w v1 v2 n1 n2 l1 l2) (hb : Below w.heap.size w w') : TwoR B w0 w' v1 v2 n1 n2 l1 l2 :=
 ⟨h.bel.trans (hb.mono h.siz), Nat.le_trans h.siz hb.size, own_below h.o1 hb, own_below h.o2 hb, h.e1, h.e2, h.apt⟩
theorem TwoR.push (h : TwoR B w0 w v1 v2 n1 n2 l1 l2) {A : Option Addr} {c : Nat} {i : Int} (ho : w'.ownsRow B 3 1 (.slice A (n1 + 1) c) (n1 + 1) (iv l1 ++ [.int .i64 i])) (hg : w.grownBy w' v1.ownBlock)
  (hl : (Value.slice A (n1 + 1) c).ownBlock = v1.ownBlock ∨ ∃ g, (Value.slice A (n1 + 1) c).ownBlock = some g ∧ w.heap.size ≤ g) : TwoR B w0 w' (.slice A (n1 + 1) c) v2 (n1 + 1) n2 (l1 ++ [i]) l2 := by
 refine ⟨h.bel.grown hg h.siz (fun j hj => (h.o1.lt j hj).1), Nat.le_trans h.siz hg.size, by rw [iv_append]; exact ho, own_far h.o2 hg (fun g e1 e2 => h.apt g e2 e1), by simp [h.e1], h.e2, fun g hg1 hg2 => ?_⟩
 rcases hl with hl | ⟨g', hl, hle⟩
 ·rw [hl] at hg1; exact h.apt g hg1 hg2
 ·rw [hl] at hg1; injection hg1 with hg1
  have := (h.o2.lt g hg2).2
  omega
theorem TwoR.start (w : World) : TwoR w.heap.size w w (.slice none 0 0) (.slice none 0 0) 0 0 [] [] :=
 ⟨Below.refl _ _, Nat.le_refl _, World.ownsRow_nil _ _ _ _, World.ownsRow_nil _ _ _ _, rfl, rfl, fun g hg => by simp [Value.ownBlock] at hg⟩
end
theorem Fr3.mono {r r' : Nat} {A M E : Option Addr} (h : Fr3 r A M E) (hr : r' ≤ r) : Fr3 r' A M E :=
 ⟨fun ad e => Nat.lt_of_le_of_lt hr (h.1 ad e), fun ad e => Nat.lt_of_le_of_lt hr (h.2.1 ad e), fun ad e => Nat.lt_of_le_of_lt hr (h.2.2 ad e)⟩
theorem RdI.keepF {w w' : World} {B r : Nat} {A : Option Addr} {l : List Int} (h : RdI w B A l) (hf : ∀ ad, A = some ad → r < ad.block) (hk : ∀ p : Addr, p.block < B → r < p.block → w'.cell? p = w.cell? p) : RdI w' B A l := fun k u hu => by
 obtain ⟨ad, e1, hb, hc⟩ := h k u hu
 exact ⟨ad, e1, hb, (hk _ (by rw [block_of_add]; exact hb) (by rw [block_of_add]; exact hf ad e1)).trans hc⟩
theorem RdX.keepF {w w' : World} {B r : Nat} {A : Option Addr} {l : List Ed} (h : RdX w B A l) (hf : ∀ ad, A = some ad → r < ad.block) (hk : ∀ p : Addr, p.block < B → r < p.block → w'.cell? p = w.cell? p) : RdX w' B A l := fun k e hu => by
 obtain ⟨ad, e1, hb, hc⟩ := h k e hu
 exact ⟨ad, e1, hb, fun j u hj => (hk _ (by rw [block_of_add]; exact hb) (by rw [block_of_add]; exact hf ad e1)).trans (hc j u hj)⟩
theorem AutR.keepF {w w' : World} {B r : Nat} {A M E : Option Addr} {na ca nm cm ne ce : Nat} {a : Aut} (h : AutR w B A na ca M nm cm E ne ce a) (hf : Fr3 r A M E) (hk : ∀ p : Addr, p.block < B → r < p.block → w'.cell? p = w.cell? p) : AutR w' B A na ca M nm cm E ne ce a :=
 ⟨h.la, h.ac, h.cA, h.ra.keepF hf.1 hk, h.lm, h.mc, h.cM, h.rm.keepF hf.2.1 hk, h.le, h.ec, h.cE, h.re.keepF hf.2.2 hk⟩

/-- a variable that holds an automaton -/
structure VarA (w : World) (b : Nat) (x : AV) : Prop where
 blk : Blk w b 33 (avc x)
 ok : x.ok w w.heap.size
theorem VarA.new {w : World} {x : AV} (h : x.ok w w.heap.size) : VarA (w.alloc (.cells #[.slice x.A x.na x.ca, .int .i64 x.a.st, .slice x.M x.nm x.cm, .slice x.E x.ne x.ce] 33)) w.heap.size x :=
 ⟨Blk.new _ _ (avc x), AutR.more (AutR.below h (box_below _ _)) (box_below _ _).size⟩
theorem VarA.below {w w' : World} {b : Nat} {x : AV} (h : VarA w b x) (hb : Below w.heap.size w w') : VarA w' b x :=
 ⟨h.blk.below hb h.blk.lt, AutR.more (AutR.below h.ok hb) hb.size⟩
theorem VarA.put {w : World} {b q : Nat} {v0 v1 v2 v3 : Value} {x : AV} (hk : Blk w b 33 [v0, v1, v2, v3]) (hx : x.ok w w.heap.size) (hf : Fr3 q x.A x.M x.E) (hq : b ≤ q) :
  VarA ((((w.setCell ⟨b, 0, none⟩ (.slice x.A x.na x.ca)).setCell ⟨b, 1, none⟩ (.int .i64 x.a.st)).setCell ⟨b, 2, none⟩ (.slice x.M x.nm x.cm)).setCell ⟨b, 3, none⟩ (.slice x.E x.ne x.ce)) b x := by
 have hg : w.grownBy ((((w.setCell ⟨b, 0, none⟩ (.slice x.A x.na x.ca)).setCell ⟨b, 1, none⟩ (.int .i64 x.a.st)).setCell ⟨b, 2, none⟩ (.slice x.M x.nm x.cm)).setCell ⟨b, 3, none⟩ (.slice x.E x.ne x.ce)) (some b) := (((grown_setCell _ _ _ _).trans (grown_setCell _ _ _ _)).trans (grown_setCell _ _ _ _)).trans (grown_setCell _ _ _ _)
 exact ⟨(((hk.set (j := 0) (by simp) _).set (j := 1) (by simp) _).set (j := 2) (by simp) _).set (j := 3) (by simp) _, (AutR.keepF (r := b) hx (Fr3.mono hf hq) fun p h1 h2 => World.cell?_of_block (hg.block _ h1 (by intro e; injection e with e; omega))).more hg.size⟩
theorem put_below {w0 w : World} {b B : Nat} {v0 v1 v2 v3 : Value} (h : Below B w0 w) (hb : B ≤ b) : Below B w0 ((((w.setCell ⟨b, 0, none⟩ v0).setCell ⟨b, 1, none⟩ v1).setCell ⟨b, 2, none⟩ v2).setCell ⟨b, 3, none⟩ v3) :=
 (((h.setCell (p := ⟨b, 0, none⟩) hb _).setCell (p := ⟨b, 1, none⟩) hb _).setCell (p := ⟨b, 2, none⟩) hb _).setCell (p := ⟨b, 3, none⟩) hb _
theorem arr2 (ad : Addr) (c : Nat) (W : World) : (Instr.arrayAt 45 (.slice (some ad) 2 c)).run Tryz.prog W = .ok (.pointer (some ad)) W := by
 simp [Instr.arrayAt, run_underlying Tryz.underlying45, go_sem]
theorem p2_info : (Tryz.prog.info? 45).map (fun i => (i.zero, i.size, i.bytes)) = some (some (.agg #[.int .i64 0, .int .i64 0]), 2, 16) := by kernel_rfl
/-- what Loop returns -/
def RetLoop (p : Aut) (T : List (List Int)) (w : World) (e : Ending) (w' : World) : Prop :=
 ∃ (x : AV) (B : Option Addr) (nb cb : Nat), e = .returned (.tuple #[.agg #[.slice x.A x.na x.ca, .int .i64 x.a.st, .slice x.M x.nm x.cm, .slice x.E x.ne x.ce], .slice B nb cb, .int .i64 0]) ∧ x.a = p ∧ x.ok w' w'.heap.size ∧ RdR 2 iv w' w'.heap.size B T ∧ T.length = nb ∧ nb ≤ cb ∧ cb ≤ 9223372036854775807 ∧ Below w.heap.size w w'
set_option maxRecDepth 100000 in
set_option maxHeartbeats 3200000 in
theorem loop_ok (z : SV) (p : Aut) (T : List (List Int)) (w : World) (h : z.ok w w.heap.size) (hP : Prob z.p.a z.s.a p T) (hc : chkF z.p.a z.s.a z.u z.f z.tick = 0) :
  Calls Tryz.prog 12 #[.agg (svc z).toArray] w (RetLoop p T w) := by
 obtain ⟨⟨A, na, ca, M, nm, cm, E, ne, ce, P⟩, ⟨A', na', ca', M', nm', cm', E', ne', ce', S⟩, U, nu, cu, u, F, nf, cf, f, tick⟩ := z
 dsimp only at hc hP
 obtain ⟨sp, hsp⟩ : ∃ s, P.st = s := ⟨_, rfl⟩
 obtain ⟨ss, hss⟩ : ∃ s, S.st = s := ⟨_, rfl⟩
 have hb0 := box_below w (.cells #[.slice A na ca, .int .i64 P.st, .slice M nm cm, .slice E ne ce, .slice A' na' ca', .int .i64 S.st, .slice M' nm' cm', .slice E' ne' ce', .slice U nu cu, .slice F nf cf, .int .i64 tick] 35)
 have hb1 := hb0.alloc hb0.size (.cells #[.slice none 0 0, .int .i64 0, .slice none 0 0, .slice none 0 0] 33)
 obtain ⟨w1, hw9⟩ : ∃ w1, w1 = (w.alloc (.cells #[.slice A na ca, .int .i64 P.st, .slice M nm cm, .slice E ne ce, .slice A' na' ca', .int .i64 S.st, .slice M' nm' cm', .slice E' ne' ce', .slice U nu cu, .slice F nf cf, .int .i64 tick] 35)).alloc (.cells #[.slice none 0 0, .int .i64 0, .slice none 0 0, .slice none 0 0] 33) := ⟨_, rfl⟩
 have kx : Blk w1 w.heap.size 35 [.slice A na ca, .int .i64 P.st, .slice M nm cm, .slice E ne ce, .slice A' na' ca', .int .i64 S.st, .slice M' nm' cm', .slice E' ne' ce', .slice U nu cu, .slice F nf cf, .int .i64 tick] := by rw [hw9]; exact (Blk.new _ _ [_, _, _, _, _, _, _, _, _, _, _]).al _
 have kz : Blk w1 (w.heap.size + 1) 33 zAut := by rw [hw9]; exact Blk.at_ _ _ [_, _, _, _] (by simp)
 have sz1 : w1.heap.size = w.heap.size + 2 := by rw [hw9]; simp
 rw [← hw9] at hb1
 have HG0 := Lib.hid (fun (W : World) (hb : Below w1.heap.size w1 W) => (show C11 W w.heap.size [.slice A na ca, .int .i64 P.st, .slice M nm cm, .slice E ne ce, .slice A' na' ca', .int .i64 S.st, .slice M' nm' cm', .slice E' ne' ce', .slice U nu cu, .slice F nf cf, .int .i64 tick] from fun j u hj => (kx.below hb kx.lt).cell hj))
 have HOK := Lib.hid (fun (W : World) (hb : Below w1.heap.size w1 W) => (h.below (hb1.trans (hb.mono hb1.size))).more (hb1.trans (hb.mono hb1.size)).size)
 have HCK := Lib.hid (forcing_Check ⟨⟨A, na, ca, M, nm, cm, E, ne, ce, P⟩, ⟨A', na', ca', M', nm', cm', E', ne', ce', S⟩, U, nu, cu, u, F, nf, cf, f, tick⟩ 0 w1 (HOK.out w1 (Below.refl _ _)) hc)
 unfold svc at HCK ⊢
 dsimp only at HCK ⊢
 rw [hsp] at hw9 HG0 HCK ⊢
 rw [hss] at hw9 HG0 HCK ⊢
 have HW9 := Lib.hid hw9; clear hw9
 have HB1 := Lib.hid hb1; clear hb1
 have KZ := Lib.hid kz; clear kz
 have HSP := Lib.hid hsp; clear hsp
 have HSS := Lib.hid hss; clear hss
 have SZ1 := Lib.hid sz1; clear sz1
 have lx := kx.lt
 clear h kx hb0
 have HBD := Lib.hid (fun (W : World) (hb : Below w1.heap.size w1 W) => HB1.out.trans (hb.mono HB1.out.size))
 have HS0 := Lib.hid (Below.refl w1.heap.size w1)
 go_enter Tryz.func12, Tryz.ntmps12
 go_upto_region 1 with fail
 rw [← HW9.out]
 have a0 := HG0.out w1 HS0.out 0 _ rfl
 have a1 := HG0.out w1 HS0.out 1 _ rfl
 have a2 := HG0.out w1 HS0.out 2 _ rfl
 have a3 := HG0.out w1 HS0.out 3 _ rfl
 have a4 := HG0.out w1 HS0.out 4 _ rfl
 have a5 := HG0.out w1 HS0.out 5 _ rfl
 have a6 := HG0.out w1 HS0.out 6 _ rfl
 have a7 := HG0.out w1 HS0.out 7 _ rfl
 have a8 := HG0.out w1 HS0.out 8 _ rfl
 have a9 := HG0.out w1 HS0.out 9 _ rfl
 have a10 := HG0.out w1 HS0.out 10 _ rfl
 go_wp2_with fail
 clear a0 a1 a2 a3 a4 a5 a6 a7 a8 a9 a10
 refine HCK.out.mono ?_
 rintro e w2 ⟨rfl, hb2⟩
 have HB2 := Lib.hid hb2; clear hb2
 clear HCK
 have a0 := HG0.out w2 HB2.out 0 _ rfl
 have a1 := HG0.out w2 HB2.out 1 _ rfl
 have a2 := HG0.out w2 HB2.out 2 _ rfl
 have a3 := HG0.out w2 HB2.out 3 _ rfl
 have a4 := HG0.out w2 HB2.out 4 _ rfl
 have a5 := HG0.out w2 HB2.out 5 _ rfl
 have a6 := HG0.out w2 HB2.out 6 _ rfl
 have a7 := HG0.out w2 HB2.out 7 _ rfl
 have hb7 := box_below w2 (.cells #[.slice A na ca, .int .i64 sp, .slice M nm cm, .slice E ne ce, .slice A' na' ca', .int .i64 ss, .slice M' nm' cm', .slice E' ne' ce'] 33)
 have hB7 := HB2.out.trans (hb7.mono HB2.out.size)
 have kL7 : Blk (w2.alloc (.cells #[.slice A na ca, .int .i64 sp, .slice M nm cm, .slice E ne ce, .slice A' na' ca', .int .i64 ss, .slice M' nm' cm', .slice E' ne' ce'] 33)) w2.heap.size 33 [.slice A na ca, .int .i64 sp, .slice M nm cm, .slice E ne ce, .slice A' na' ca', .int .i64 ss, .slice M' nm' cm', .slice E' ne' ce'] := Blk.new _ _ _
 have hRL := two_rdl (x := ⟨A, na, ca, M, nm, cm, E, ne, ce, P⟩) (y := ⟨A', na', ca', M', nm', cm', E', ne', ce', S⟩) (by unfold avc; rw [HSP.out, HSS.out]; exact kL7) (HOK.out _ hB7).p (HOK.out _ hB7).s
 have hlz : chkL [P, S] = 0 := chkL_mk (by simp) hP.two
 have hst : ∀ a ∈ [P, S], a.st ≤ 100 := fun a ha => by
  have := hP.sp
  have := hP.sr
  simp at ha
  rcases ha with rfl | rfl <;> omega
 have HC := Lib.hid (product_Synchronous _ 2 2 _ _ rfl hRL (Nat.le_refl _) (by omega) hlz hst)
 rw [show List.map AV.a [⟨A, na, ca, M, nm, cm, E, ne, ce, P⟩, ⟨A', na', ca', M', nm', cm', E', ne', ce', S⟩] = [P, S] from rfl, hP.syn] at HC
 have HPR := Lib.hid hP
 have hw7 : w.heap.size + 1 ≤ w2.heap.size + 1 := by have := HB2.out.size; have := SZ1.out; omega
 clear hb7 kL7 hRL hlz hst hP
 have HB7 := Lib.hid hB7; clear hB7
 have HW7 := Lib.hid hw7; clear hw7
 go_wp2_with fail
 clear a0 a1 a2 a3 a4 a5 a6 a7
 refine HC.out.mono ?_
 rintro e w8 ⟨hb8, A2, na2, ca2, M2, nm2, cm2, E2, ne2, ce2, B2, nb2, cb2, ts, rfl, ha2, hts, htl, htc, htc2, htt, hfr⟩
 have hB8 := HB7.out.trans (hb8.mono HB7.out.size)
 have hkz := KZ.out.below hB8 KZ.out.lt
 have htl2 : ∀ x ∈ ts, x.l.length = 2 := fun x hx => by
  have h1 : x.l ∈ T := by rw [← htt]; exact List.mem_map.2 ⟨x, hx, rfl⟩
  have h2 := (HPR.out.tups.2 _ h1).len
  simpa using h2
 have hg4 : w8.grownBy ((((w8.setCell ⟨w.heap.size + 1, 0, none⟩ (.slice A2 na2 ca2)).setCell ⟨w.heap.size + 1, 1, none⟩ (.int .i64 p.st)).setCell ⟨w.heap.size + 1, 2, none⟩ (.slice M2 nm2 cm2)).setCell ⟨w.heap.size + 1, 3, none⟩ (.slice E2 ne2 ce2)) (some (w.heap.size + 1)) := (((grown_setCell _ _ _ _).trans (grown_setCell _ _ _ _)).trans (grown_setCell _ _ _ _)).trans (grown_setCell _ _ _ _)
 have hts3 := rds_apart hts hkz htl2 hg4
 unfold zAut at hkz
 have hv := VarA.put (x := ⟨A2, na2, ca2, M2, nm2, cm2, E2, ne2, ce2, p⟩) hkz ha2 hfr (by rw [World.size_alloc]; exact HW7.out)
 have hBF := put_below (b := w.heap.size + 1) (v0 := .slice A2 na2 ca2) (v1 := .int .i64 p.st) (v2 := .slice M2 nm2 cm2) (v3 := .slice E2 ne2 ce2) (HBD.out _ hB8) (by omega)
 have f0 := hkz.free 0
 have f1 := hkz.free 1
 have f2 := hkz.free 2
 have f3 := hkz.free 3
 have e0 := hkz.cell (j := 0) rfl
 have e1 := hkz.cell (j := 1) rfl
 have e2 := hkz.cell (j := 2) rfl
 have e3 := hkz.cell (j := 3) rfl
 have l9 := hkz.lt
 have HTL2 := Lib.hid htl2
 have HFR := Lib.hid hfr
 go_upto_region 5 with fail
 clear HC ha2 hts hb8 hB8 hkz f0 f1 f2 f3 e0 e1 e2 e3 l9 htl2 hfr
 have hBZ := (hg4.size)
 generalize ((((w8.setCell ⟨w.heap.size + 1, 0, none⟩ (.slice A2 na2 ca2)).setCell ⟨w.heap.size + 1, 1, none⟩ (.int .i64 p.st)).setCell ⟨w.heap.size + 1, 2, none⟩ (.slice M2 nm2 cm2)).setCell ⟨w.heap.size + 1, 3, none⟩ (.slice E2 ne2 ce2)) = wz at hv hts3 hBF hg4 hBZ ⊢
 have hlb : w.heap.size + 1 < wz.heap.size := hv.blk.lt
 have HNB := Lib.hid (show nb2 ≤ 4096 by have := HPR.out.len; rw [← htt, List.length_map, htl] at this; omega)
 have hw8b : w.heap.size + 1 ≤ (w2.alloc (.cells #[.slice A na ca, .int .i64 sp, .slice M nm cm, .slice E ne ce, .slice A' na' ca', .int .i64 ss, .slice M' nm' cm', .slice E' ne' ce'] 33)).heap.size := by rw [World.size_alloc]; exact HW7.out
 have HV := Lib.hid hv; clear hv
 have HTS := Lib.hid hts3; clear hts3
 have HBF := Lib.hid hBF; clear hBF
 have HTT := Lib.hid htt; clear htt
 have HTL := Lib.hid htl; clear htl
 have HQW := Lib.hid hw8b; clear hw8b
 clear hg4 hBZ HW9 HG0 HOK HSP HSS KZ HB7 HW7 HB2 HBD HB1 SZ1 HS0
 have HO0 := Lib.hid (World.ownsRow_nil wz wz.heap.size 45 2)
 have HBZ := Lib.hid (Below.refl wz.heap.size wz)
 go_wp2
 go_loopw [3, 8, 27] (fun s3 s8 s27 wr => ∃ (k : Nat) (v3 v8 : Value), s3 = v3 ∧ s8 = v8 ∧ s27 = .int .i64 k ∧ k ≤ nb2 ∧ Hid (wr.ownsRow wz.heap.size 45 2 v3 k ((T.take k).flatMap iv)) ∧ Hid (Below wz.heap.size wz wr)) (fun _ _ s27 _ => nb2 - (intOf s27).toNat)
 case atStart => exact ⟨0, _, _, rfl, rfl, rfl, Nat.zero_le _, HO0, HBZ⟩
 case round =>
  clear HO0 HBZ
  obtain ⟨k, v3, v8, rfl, rfl, rfl, hk, HO, HB⟩ := hrel
  by_cases hlt : k < nb2
  ·have b1 : (k : Int) < (nb2 : Int) := by omega
   obtain ⟨ta, sl, rfl, htb, hsl, hct, hsr, _, _⟩ := ((HTS.out.below HB.out)).at_ (k := k) (by have := HTL.out; omega)
   have htk : T[k]? = some sl.l := by rw [← HTT.out, List.getElem?_map, hsl]; rfl
   obtain ⟨s, r, hsr2, _, _⟩ := HPR.out.tup htk
   obtain ⟨Asl, c5, lsl⟩ := sl
   dsimp only at htk hct hsr hsr2
   subst hsr2
   obtain ⟨a5, y0, rfl, _, hy0, d0⟩ := hsr.at_ (k := 0) (by simp)
   obtain ⟨a6, y1, ea6, _, hy1, d1⟩ := hsr.at_ (k := 1) (by simp)
   injection ea6 with ea6
   subst ea6
   obtain rfl : s = y0 := by simpa using hy0
   obtain rfl : r = y1 := by simpa using hy1
   have hct : wr.cell? (ta.add k) = some (.slice (some a5) 2 c5) := hct
   have d0 := cell_zero d0
   have d1 := cell_succ d1
   have hto := fun W => arr2 a5 c5 W
   have HTK := Lib.hid (take_snoc' htk)
   have hsz : wz.heap.size ≤ wr.heap.size := HB.out.size
   have hnb := HNB.out
   clear hsl hsr hy0 hy1 htk
   go_wp2_with (first | (at_builtin; go_loud (refine wpList_pushN wr [.int .i64 s, .int .i64 r] rfl (.tmp 31) (.tmp 35) 37 rfl wz.heap.size 45 (.agg #[.int .i64 0, .int .i64 0]) 2 16 Tryz.underlying37 p2_info rfl (by decide) rfl u3 k _ rfl HO.out rfl (fun u hu => by simp at hu; rcases hu with rfl | rfl <;> rfl) (by omega) (by omega) hsz ?_); intro v' w' ho' hg' hb1) | fail)
   have HO2 := Lib.hid (show w'.ownsRow wz.heap.size 45 2 v' (k + 1) ((T.take (k + 1)).flatMap iv) from by rw [HTK.out, List.flatMap_append]; exact ho')
   have HB2 := Lib.hid (HB.out.trans hb1)
   clear ho' hg' hb1 hct d0 d1 hto
   go_wp2
   go_roundw
   case rel => exact ⟨k + 1, _, _, rfl, rfl, by go_num, by omega, HO2, HB2⟩
   case measure => simp [intOf]; omega
  ·obtain rfl : k = nb2 := by omega
   have b1 : ¬ (k : Int) < (k : Int) := by omega
   have htn : T.length = k := by rw [← HTT.out, List.length_map, HTL.out]
   rw [List.take_of_length_le (by omega)] at HO
   have hv := HV.out.below HB.out
   have hk4 : Blk wr (w.heap.size + 1) 33 [.slice A2 na2 ca2, .int .i64 p.st, .slice M2 nm2 cm2, .slice E2 ne2 ce2] := hv.blk
   have f0 := hk4.free 0
   have f1 := hk4.free 1
   have f2 := hk4.free 2
   have f3 := hk4.free 3
   have e0 := hk4.cell (j := 0) rfl
   have e1 := hk4.cell (j := 1) rfl
   have e2 := hk4.cell (j := 2) rfl
   have e3 := hk4.cell (j := 3) rfl
   have l9 := hk4.lt
   have hg4 : wr.grownBy ((((wr.setCell ⟨w.heap.size + 1, 0, none⟩ (.slice A2 na2 ca2)).setCell ⟨w.heap.size + 1, 1, none⟩ (.int .i64 p.st)).setCell ⟨w.heap.size + 1, 2, none⟩ (.slice M2 nm2 cm2)).setCell ⟨w.heap.size + 1, 3, none⟩ (.slice E2 ne2 ce2)) (some (w.heap.size + 1)) := (((grown_setCell _ _ _ _).trans (grown_setCell _ _ _ _)).trans (grown_setCell _ _ _ _)).trans (grown_setCell _ _ _ _)
   have HVF := Lib.hid (VarA.put (x := ⟨A2, na2, ca2, M2, nm2, cm2, E2, ne2, ce2, p⟩) hk4 hv.ok HFR.out HQW.out)
   have HOF := Lib.hid (own_kept_low HO.out hg4 hlb)
   have HBE := Lib.hid (put_below (b := w.heap.size + 1) (v0 := .slice A2 na2 ca2) (v1 := .int .i64 p.st) (v2 := .slice M2 nm2 cm2) (v3 := .slice E2 ne2 ce2) (HBF.out.trans (HB.out.mono HBF.out.size)) (by omega))
   have HTN := Lib.hid htn
   clear hv hk4 hg4 htn
   go_wp2
   have z0 := HVF.out.blk.cell (j := 0) rfl
   have z1 := HVF.out.blk.cell (j := 1) rfl
   have z2 := HVF.out.blk.cell (j := 2) rfl
   have z3 := HVF.out.blk.cell (j := 3) rfl
   obtain ⟨B9, c9, rfl⟩ := own_shape HOF.out
   dsimp only at z0 z1 z2 z3
   refine bodyPost_ret (v := .tuple #[.agg #[.slice A2 na2 ca2, .int .i64 p.st, .slice M2 nm2 cm2, .slice E2 ne2 ce2], .slice B9 k c9, .int .i64 0]) (by simp [results, Tryz.results12, go_sem, z0, z1, z2, z3]) rfl ?_
   obtain ⟨q1, q2⟩ := own_cap' HOF.out
   exact ⟨⟨A2, na2, ca2, M2, nm2, cm2, E2, ne2, ce2, p⟩, B9, k, c9, rfl, rfl, HVF.out.ok, RdR.of_own (by omega) (fun x hx => by have := (HPR.out.tups.2 x hx).len; simpa [iv] using this) HOF.out, HTN.out, q1, q2, HBE.out⟩

end Go.Proofs.YtioijhpbedmeaaaGreatDoor
