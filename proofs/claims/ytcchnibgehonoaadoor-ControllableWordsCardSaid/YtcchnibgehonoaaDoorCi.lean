/- Walks: automaton.Canonical. -/
import Derived.Test.YtcchnibgehonoaaDoorCf
import Derived.Test.YtcchnibgehonoaaDoorOj
import Derived.Deep.AppendLies
namespace Go.Proofs.YtcchnibgehonoaaDoor
open Go.RowKit Go Go.Maps

/-- an automaton of the call's own, without an error -/
def RetAE (a : Aut) (w : World) (e : Ending) (w' : World) : Prop :=
 ∃ (A : Option Addr) (na ca : Nat) (M : Option Addr) (nm cm : Nat) (E : Option Addr) (ne ce : Nat), e = .returned (.tuple #[.agg #[.slice A na ca, .int .i64 a.st, .slice M nm cm, .slice E ne ce], .int .i64 0]) ∧ AutO w' w.heap.size A na ca M nm cm E ne ce a ∧ Below w.heap.size w w'


set_option maxRecDepth 100000 in
set_option maxHeartbeats 3200000 in
theorem automaton_Canonical (A : Option Addr) (na ca : Nat) (M : Option Addr) (nm cm : Nat) (E : Option Addr) (ne ce : Nat) (a : Aut) (w : World) (h : AutR w w.heap.size A na ca M nm cm E ne ce a) (hw : WF a) :
  Calls Tryd.prog 71 #[.agg #[.slice A na ca, .int .i64 a.st, .slice M nm cm, .slice E ne ce]] w (RetAE (canA a) w) := by
 obtain ⟨st, hst⟩ : ∃ st, a.st = st := ⟨_, rfl⟩
 rw [hst]
 have hb1 := (box_below w (.cells #[.slice A na ca, .int .i64 st, .slice M nm cm, .slice E ne ce] 25)).alloc (by simp) (.cells #[.slice none 0 0, .int .i64 0, .slice none 0 0, .slice none 0 0] 25)
 obtain ⟨w1, hw1⟩ : ∃ w1, w1 = (w.alloc (.cells #[.slice A na ca, .int .i64 st, .slice M nm cm, .slice E ne ce] 25)).alloc (.cells #[.slice none 0 0, .int .i64 0, .slice none 0 0, .slice none 0 0] 25) := ⟨_, rfl⟩
 have k3 : Blk w1 w.heap.size 25 [.slice A na ca, .int .i64 st, .slice M nm cm, .slice E ne ce] := by rw [hw1]; exact (Blk.new _ _ [_, _, _, _]).al _
 have kR : Blk w1 (w.heap.size + 1) 25 [.slice none 0 0, .int .i64 0, .slice none 0 0, .slice none 0 0] := by rw [hw1]; exact Blk.at_ _ _ [_, _, _, _] (by simp)
 rw [← hw1] at hb1
 have h1 := (h.below hb1).more hb1.size
 have HC := Lib.hid (automaton_Check A na ca M nm cm E ne ce a w1 h1)
 rw [hw.chk, hst] at HC
 have HW1 := Lib.hid hw1; clear hw1
 have HST := Lib.hid hst; clear hst
 have HW := Lib.hid hw; clear hw
 have HB1 := Lib.hid hb1; clear hb1
 have HH := Lib.hid h1; clear h1
 have K3 := Lib.hid k3; clear k3
 have KR := Lib.hid kR; clear kR
 clear h
 go_enter Tryd.func71, Tryd.ntmps71
 go_wp2_with fail
 rw [← HW1.out]
 refine HC.out.mono ?_
 rintro e w2 ⟨rfl, hb2⟩
 have HCA := Lib.hid (automaton_canonical A na ca M nm cm E ne ce a w2 ((HH.out.below hb2).more hb2.size) HW.out)
 rw [HST.out] at HCA
 have k4 := K3.out.below hb2 K3.out.lt
 have c0 := k4.cell (j := 0) rfl
 have c1 := k4.cell (j := 1) rfl
 have c2 := k4.cell (j := 2) rfl
 have c3 := k4.cell (j := 3) rfl
 have HB2 := Lib.hid (HB1.out.trans (hb2.mono HB1.out.size))
 have KR2 := Lib.hid (KR.out.below hb2 KR.out.lt)
 clear k4 hb2
 go_wp2_with fail
 refine HCA.out.mono ?_
 rintro e w9 ⟨A9, na9, ca9, M9, nm9, cm9, E9, ne9, ce9, rfl, ho9, hb9⟩
 have kR9 := KR2.out.below hb9 KR2.out.lt
 have hB9 := HB2.out.trans (hb9.mono HB2.out.size)
 have l2 : w.heap.size + 1 < w2.heap.size := KR2.out.lt
 obtain ⟨s9, hs9⟩ : ∃ s, (canA a).st = s := ⟨_, rfl⟩
 rw [hs9]
 have HS9 := Lib.hid hs9; clear hs9
 have HO9 := Lib.hid ho9; clear ho9
 clear c0 c1 c2 c3 hb9
 have f0 := kR9.free 0
 have f1 := kR9.free 1
 have f2 := kR9.free 2
 have f3 := kR9.free 3
 have e0 := kR9.cell (j := 0) rfl
 have e1 := kR9.cell (j := 1) rfl
 have e2 := kR9.cell (j := 2) rfl
 have e3 := kR9.cell (j := 3) rfl
 have l9 : w.heap.size + 1 < w9.heap.size := kR9.lt
 go_wp2
 have hb4 := (((kR9.set (j := 0) (by simp) (.slice A9 na9 ca9)).set (j := 1) (by simp) (.int .i64 s9)).set (j := 2) (by simp) (.slice M9 nm9 cm9)).set (j := 3) (by simp) (.slice E9 ne9 ce9)
 have z0 := hb4.cell (j := 0) rfl
 have z1 := hb4.cell (j := 1) rfl
 have z2 := hb4.cell (j := 2) rfl
 have z3 := hb4.cell (j := 3) rfl
 have hq : ∀ k : Nat, w.heap.size ≤ (⟨w.heap.size + 1, k, none⟩ : Addr).block := fun k => by show w.heap.size ≤ w.heap.size + 1; omega
 have F := (((hB9.setCell (p := ⟨w.heap.size + 1, 0, none⟩) (hq 0) (.slice A9 na9 ca9)).setCell (p := ⟨w.heap.size + 1, 1, none⟩) (hq 1) (.int .i64 s9)).setCell (p := ⟨w.heap.size + 1, 2, none⟩) (hq 2) (.slice M9 nm9 cm9)).setCell (p := ⟨w.heap.size + 1, 3, none⟩) (hq 3) (.slice E9 ne9 ce9)
 have hg : w9.grownBy ((((w9.setCell ⟨w.heap.size + 1, 0, none⟩ (.slice A9 na9 ca9)).setCell ⟨w.heap.size + 1, 1, none⟩ (.int .i64 s9)).setCell ⟨w.heap.size + 1, 2, none⟩ (.slice M9 nm9 cm9)).setCell ⟨w.heap.size + 1, 3, none⟩ (.slice E9 ne9 ce9)) (some (w.heap.size + 1)) := (((grown_setCell _ _ _ _).trans (grown_setCell _ _ _ _)).trans (grown_setCell _ _ _ _)).trans (grown_setCell _ _ _ _)
 refine bodyPost_ret (v := .tuple #[.agg #[.slice A9 na9 ca9, .int .i64 s9, .slice M9 nm9 cm9, .slice E9 ne9 ce9], .int .i64 0]) (by simp [results, Tryd.results71, go_sem, z0, z1, z2, z3]) rfl ?_
 exact ⟨A9, na9, ca9, M9, nm9, cm9, E9, ne9, ce9, by rw [HS9.out], (HO9.out.low hg (by omega)).down (by omega), F⟩
end Go.Proofs.YtcchnibgehonoaaDoor

/- Walks: controllable.within. -/
namespace Go.Proofs.YtcchnibgehonoaaDoor
open Go.RowKit Go Go.Maps

/-- an automaton restricted to a set of states -/
def inE (set : List Int) (x : Ed) : Bool := hasB set x.f && hasB set x.t
def rstA (a : Aut) (set : List Int) : Aut := ⟨a.al, a.st, intS a.ma set, a.ed.filter (inE set)⟩
theorem rst_wf {a : Aut} {set : List Int} (h : WF a) : WF (rstA a set) :=
 ⟨h.inc, h.rng, h.st0, h.st1, List.Pairwise.filter _ h.minc, fun x hx => h.mrng x (List.mem_filter.1 hx).1, List.Pairwise.filter _ h.einc, fun x hx => h.erng x (List.mem_filter.1 hx).1⟩
/-- within's answer -/
def witA (a : Aut) (set : List Int) : Aut := if hasB set 0 = true then canA (rstA a set) else ⟨a.al, 0, [], []⟩
theorem filter_snoc {g : Ed → Bool} {l : List Ed} {k : Nat} {x : Ed} (h : l[k]? = some x) : (l.take (k + 1)).filter g = (l.take k).filter g ++ (if g x = true then [x] else []) := by
 rw [take_snoc' h, List.filter_append]
 congr 1
 simp only [List.filter_cons, List.filter_nil]

/-- within's memory -/
structure WitM (p b : Nat) (w0 w : World) (bx : List Value) (V : Option Addr) (nv cv : Nat) (al : List Int) (sv mv ev : Value) (nm ne : Nat) (mk : List Int) (es : List Ed) : Prop where
 sz : w0.heap.size = p
 pb : p + 1 < b
 bel : Below p w0 w
 box : Blk w p 25 bx
 res : Blk w (p + 1) 25 [.slice none 0 0, .int .i64 0, .slice none 0 0, .slice none 0 0]
 out : Blk w b 25 [.slice V nv cv, sv, mv, ev]
 alo : w.ownsRow (p + 2) 3 1 (.slice V nv cv) nv (iv al)
 all : al.length = nv
 vlt : ∀ g, (Value.slice V nv cv).ownBlock = some g → g < b
 mrk : w.ownsRow (b + 1) 3 1 mv nm (iv mk)
 mkl : mk.length = nm
 edg : w.ownsRow (b + 1) 83 3 ev ne (es.flatMap edc)
 edl : es.length = ne
section
variable {p b : Nat} {w0 w w' : World} {bx : List Value} {V : Option Addr} {nv cv : Nat} {al : List Int} {sv mv ev : Value} {nm ne : Nat} {mk : List Int} {es : List Ed}
theorem WitM.lt (h : WitM p b w0 w bx V nv cv al sv mv ev nm ne mk es) : b < w.heap.size := h.out.lt
theorem WitM.quiet (h : WitM p b w0 w bx V nv cv al sv mv ev nm ne mk es) (hb : Below w.heap.size w w') : WitM p b w0 w' bx V nv cv al sv mv ev nm ne mk es :=
 ⟨h.sz, h.pb, h.bel.trans (hb.mono (by have := h.lt; have := h.pb; omega)), h.box.below hb h.box.lt, h.res.below hb h.res.lt, h.out.below hb h.lt, own_below h.alo hb, h.all, h.vlt, own_below h.mrk hb, h.mkl, own_below h.edg hb, h.edl⟩
theorem WitM.low (h : WitM p b w0 w bx V nv cv al sv mv ev nm ne mk es) (j : Nat) (u : Value) :
  Below p w0 (w.setCell ⟨b, j, none⟩ u) ∧ Blk (w.setCell ⟨b, j, none⟩ u) p 25 bx ∧ Blk (w.setCell ⟨b, j, none⟩ u) (p + 1) 25 [.slice none 0 0, .int .i64 0, .slice none 0 0, .slice none 0 0] ∧ (w.setCell ⟨b, j, none⟩ u).ownsRow (p + 2) 3 1 (.slice V nv cv) nv (iv al) ∧ (w.setCell ⟨b, j, none⟩ u).ownsRow (b + 1) 3 1 mv nm (iv mk) ∧ (w.setCell ⟨b, j, none⟩ u).ownsRow (b + 1) 83 3 ev ne (es.flatMap edc) := by
 have hs := grown_setCell w b j u
 have hp := h.pb
 refine ⟨h.bel.setCell (by show p ≤ b; omega) _, h.box.kept hs (by intro e; injection e with e; omega), h.res.kept hs (by intro e; injection e with e; omega), h.alo.kept hs ?_, own_kept_low h.mrk hs (Nat.lt_succ_self _), own_kept_low h.edg hs (Nat.lt_succ_self _)⟩
 cases hv : (Value.slice V nv cv).ownBlock with
 | none => exact .inl rfl
 | some g => exact .inr (fun e => by injection e with e; have := h.vlt g hv; omega)
theorem WitM.set1 (h : WitM p b w0 w bx V nv cv al sv mv ev nm ne mk es) (u : Value) : WitM p b w0 (w.setCell ⟨b, 1, none⟩ u) bx V nv cv al u mv ev nm ne mk es := by
 obtain ⟨h1, h2, h3, h4, h5, h6⟩ := h.low 1 u
 exact ⟨h.sz, h.pb, h1, h2, h3, h.out.set (by simp) _, h4, h.all, h.vlt, h5, h.mkl, h6, h.edl⟩
theorem WitM.set2 (h : WitM p b w0 w bx V nv cv al sv mv ev nm ne mk es) {u : Value} {nu : Nat} {mu : List Int} (hu : w.ownsRow (b + 1) 3 1 u nu (iv mu)) (hl : mu.length = nu) : WitM p b w0 (w.setCell ⟨b, 2, none⟩ u) bx V nv cv al sv u ev nu ne mu es := by
 obtain ⟨h1, h2, h3, h4, h5, h6⟩ := h.low 2 u
 exact ⟨h.sz, h.pb, h1, h2, h3, h.out.set (by simp) _, h4, h.all, h.vlt, own_kept_low hu (grown_setCell w b 2 u) (Nat.lt_succ_self _), hl, h6, h.edl⟩
theorem WitM.edge (h : WitM p b w0 w bx V nv cv al sv mv ev nm ne mk es) {A : Option Addr} {c : Nat} {x : Ed} (ho : w'.ownsRow (b + 1) 83 3 (.slice A (ne + 1) c) (ne + 1) (es.flatMap edc ++ edc x)) (hg : w.grownBy w' ev.ownBlock) :
  WitM p b w0 (w'.setCell ⟨b, 3, none⟩ (.slice A (ne + 1) c)) bx V nv cv al sv mv (.slice A (ne + 1) c) nm (ne + 1) mk (es ++ [x]) := by
 have hp := h.pb
 have hlt := h.lt
 have h1 : Below p w0 w' := h.bel.grown hg (by omega) (fun j hj => by have := (h.edg.lt j hj).1; omega)
 have hs := grown_setCell w' b 3 (.slice A (ne + 1) c)
 have ha : w'.ownsRow (p + 2) 3 1 (.slice V nv cv) nv (iv al) := own_kept_ne h.alo h.edg (by decide) hg
 refine ⟨h.sz, h.pb, h1.setCell (by show p ≤ b; omega) _, (h.box.kept hg (own_lt_ne h.edg (by omega))).kept hs (by intro e; injection e with e; omega), (h.res.kept hg (own_lt_ne h.edg (by omega))).kept hs (by intro e; injection e with e; omega), (h.out.kept hg (own_lt_ne h.edg (by omega))).set (by simp) _, ha.kept hs ?_, h.all, h.vlt, own_kept_low (own_kept_ne h.mrk h.edg (by decide) hg) hs (Nat.lt_succ_self _), h.mkl, own_kept_low (by simpa using ho) hs (Nat.lt_succ_self _), by simp [h.edl]⟩
 cases hv : (Value.slice V nv cv).ownBlock with
 | none => exact .inl rfl
 | some g => exact .inr (fun e => by injection e with e; have := h.vlt g hv; omega)
theorem WitM.rd {st : Int} {M E : Option Addr} {cm ce : Nat} (h : WitM p b w0 w bx V nv cv al sv (.slice M nm cm) (.slice E ne ce) nm ne mk es) : AutR w w.heap.size V nv cv M nm cm E ne ce ⟨al, st, mk, es⟩ :=
 ⟨h.all, (own_cap' h.alo).1, (own_cap' h.alo).2, RdI.of_own h.alo, h.mkl, (own_cap' h.mrk).1, (own_cap' h.mrk).2, RdI.of_own h.mrk, h.edl, (own_cap' h.edg).1, (own_cap' h.edg).2, RdR.of_own (by omega) (fun _ _ => rfl) h.edg⟩
end

set_option maxRecDepth 100000 in
set_option maxHeartbeats 3200000 in
theorem ctl_within (A M E : Option Addr) (na ca nm cm ne ce : Nat) (a : Aut) (S : Option Addr) (cs ns : Nat) (set : List Int) (w : World) (h : AutR w w.heap.size A na ca M nm cm E ne ce a) (hw : WF a)
  (hsl : set.length = ns) (hS : RdI w w.heap.size S set) (hs1 : ns ≤ cs) (hs2 : cs ≤ 9223372036854775807) (hs3 : ns ≤ 4096) (hsi : Inc set) :
  Calls Tryd.prog 52 #[.agg #[.slice A na ca, .int .i64 a.st, .slice M nm cm, .slice E ne ce], .slice S ns cs] w (RetA (witA a set) w) := by
 obtain ⟨st, hst⟩ : ∃ st, a.st = st := ⟨_, rfl⟩
 rw [hst]
 have hb1 := (box_below w (.cells #[.slice A na ca, .int .i64 st, .slice M nm cm, .slice E ne ce] 25)).alloc (by simp) (.cells #[.slice none 0 0, .int .i64 0, .slice none 0 0, .slice none 0 0] 25)
 obtain ⟨w1, hw1⟩ : ∃ w1, w1 = (w.alloc (.cells #[.slice A na ca, .int .i64 st, .slice M nm cm, .slice E ne ce] 25)).alloc (.cells #[.slice none 0 0, .int .i64 0, .slice none 0 0, .slice none 0 0] 25) := ⟨_, rfl⟩
 have k3 : Blk w1 w.heap.size 25 [.slice A na ca, .int .i64 st, .slice M nm cm, .slice E ne ce] := by rw [hw1]; exact (Blk.new _ _ [_, _, _, _]).al _
 have kR : Blk w1 (w.heap.size + 1) 25 [.slice none 0 0, .int .i64 0, .slice none 0 0, .slice none 0 0] := by rw [hw1]; exact Blk.at_ _ _ [_, _, _, _] (by simp)
 have hs9 : w1.heap.size = w.heap.size + 2 := by rw [hw1]; simp
 have c0 : ((w.alloc (.cells #[.slice A na ca, .int .i64 st, .slice M nm cm, .slice E ne ce] 25)).alloc (.cells #[.slice none 0 0, .int .i64 0, .slice none 0 0, .slice none 0 0] 25)).cell? ⟨w.heap.size, 0, none⟩ = some (.slice A na ca) := by rw [← hw1]; exact k3.cell (j := 0) rfl
 rw [← hw1] at hb1
 have hal := hw.al_le
 have hml : a.ma.length ≤ 4096 := inc_len (n := 4096) hw.minc (fun x hx => by have := hw.mrng x hx; have := hw.st1; omega)
 rw [h.la] at hal
 rw [h.lm] at hml
 have HCL := Lib.hid (slices_Clone_n A ca na a.al w1 h.la ((h.ra.below hb1).more hb1.size) (by omega))
 have HW1 := Lib.hid hw1; clear hw1
 have HST := Lib.hid hst; clear hst
 have HW := Lib.hid hw; clear hw
 have HB1 := Lib.hid hb1; clear hb1
 have HH := Lib.hid h; clear h
 have K3 := Lib.hid k3; clear k3
 have KR := Lib.hid kR; clear kR
 have HS9 := Lib.hid hs9; clear hs9
 have HSL := Lib.hid hsl; clear hsl
 have HSS := Lib.hid hS; clear hS
 have HSI := Lib.hid hsi; clear hsi
 go_enter Tryd.func52, Tryd.ntmps52
 go_wp2_with fail
 rw [← HW1.out]
 refine HCL.out.mono ?_
 rintro e w2 ⟨v, rfl, ho2, hb2⟩
 obtain ⟨V, cv, rfl⟩ := own_shape ho2
 have hla := HH.out.la
 rw [hla] at ho2
 have h2 : w.heap.size + 2 ≤ w2.heap.size := by have := hb2.size; have := HS9.out; omega
 have hb3 := box_below w2 (.cells #[.slice V na cv, .int .i64 0, .slice none 0 0, .slice none 0 0] 25)
 have HM := Lib.hid (show WitM w.heap.size w2.heap.size w (w2.alloc (.cells #[.slice V na cv, .int .i64 0, .slice none 0 0, .slice none 0 0] 25)) [.slice A na ca, .int .i64 st, .slice M nm cm, .slice E ne ce] V na cv a.al (.int .i64 0) (.slice none 0 0) (.slice none 0 0) 0 0 [] [] from
  ⟨rfl, by omega, (HB1.out.trans (hb2.mono HB1.out.size)).trans (hb3.mono (by omega)), (K3.out.below hb2 K3.out.lt).below hb3 (K3.out.below hb2 K3.out.lt).lt, (KR.out.below hb2 KR.out.lt).below hb3 (KR.out.below hb2 KR.out.lt).lt, Blk.new _ _ [_, _, _, _], own_base (own_below ho2 hb3) (by have := HS9.out; omega), hla, fun g hg => (ho2.lt g hg).2, World.ownsRow_nil _ _ _ _, rfl, World.ownsRow_nil _ _ _ _, rfl⟩)
 have H2 := Lib.hid h2; clear h2
 rw [hla]
 clear c0 ho2 hb2 hb3 HCL
 generalize hw3 : w2.alloc (.cells #[.slice V na cv, .int .i64 0, .slice none 0 0, .slice none 0 0] 25) = w3 at HM
 have HW3 := Lib.hid hw3; clear hw3
 obtain ⟨b, hb⟩ : ∃ b, w2.heap.size = b := ⟨_, rfl⟩
 rw [hb] at HM H2
 have HBB := Lib.hid hb; clear hb
 cases hz : hasB set 0 with
 | false =>
  have hwit : witA a set = ⟨a.al, 0, [], []⟩ := by unfold witA; rw [hz]; rfl
  have HCZ := Lib.hid (alphabet_Contains_n S cs ns set 0 false w3 HSL.out hz ((HSS.out.below HM.out.bel).more HM.out.bel.size) (by omega) HSI.out)
  have HWIT := Lib.hid hwit; clear hwit
  clear hz
  go_wp2_with fail
  rw [HW3.out, HBB.out]
  refine HCZ.out.mono ?_
  rintro e w9 ⟨rfl, rfl⟩
  have kR9 := HM.out.res
  have hB9 := HM.out.bel
  have f0 := kR9.free 0
  have f1 := kR9.free 1
  have f2 := kR9.free 2
  have f3 := kR9.free 3
  have e0 := kR9.cell (j := 0) rfl
  have e1 := kR9.cell (j := 1) rfl
  have e2 := kR9.cell (j := 2) rfl
  have e3 := kR9.cell (j := 3) rfl
  have l9 : w.heap.size + 1 < w3.heap.size := kR9.lt
  have o0 := HM.out.out.cell (j := 0) rfl
  have o1 := HM.out.out.cell (j := 1) rfl
  have o2 := HM.out.out.cell (j := 2) rfl
  have o3 := HM.out.out.cell (j := 3) rfl
  go_wp2
  have hb4 := (((kR9.set (j := 0) (by simp) (.slice V na cv)).set (j := 1) (by simp) (.int .i64 0)).set (j := 2) (by simp) (.slice none 0 0)).set (j := 3) (by simp) (.slice none 0 0)
  have z0 := hb4.cell (j := 0) rfl
  have z1 := hb4.cell (j := 1) rfl
  have z2 := hb4.cell (j := 2) rfl
  have z3 := hb4.cell (j := 3) rfl
  have hq : ∀ k : Nat, w.heap.size ≤ (⟨w.heap.size + 1, k, none⟩ : Addr).block := fun k => by show w.heap.size ≤ w.heap.size + 1; omega
  have F := (((hB9.setCell (p := ⟨w.heap.size + 1, 0, none⟩) (hq 0) (.slice V na cv)).setCell (p := ⟨w.heap.size + 1, 1, none⟩) (hq 1) (.int .i64 0)).setCell (p := ⟨w.heap.size + 1, 2, none⟩) (hq 2) (.slice none 0 0)).setCell (p := ⟨w.heap.size + 1, 3, none⟩) (hq 3) (.slice none 0 0)
  have hg : w3.grownBy ((((w3.setCell ⟨w.heap.size + 1, 0, none⟩ (.slice V na cv)).setCell ⟨w.heap.size + 1, 1, none⟩ (.int .i64 0)).setCell ⟨w.heap.size + 1, 2, none⟩ (.slice none 0 0)).setCell ⟨w.heap.size + 1, 3, none⟩ (.slice none 0 0)) (some (w.heap.size + 1)) := (((grown_setCell _ _ _ _).trans (grown_setCell _ _ _ _)).trans (grown_setCell _ _ _ _)).trans (grown_setCell _ _ _ _)
  refine bodyPost_ret (v := .agg #[.slice V na cv, .int .i64 0, .slice none 0 0, .slice none 0 0]) (by simp [results, Tryd.results52, go_sem, z0, z1, z2, z3]) rfl ?_
  rw [HWIT.out]
  exact ⟨V, na, cv, none, 0, 0, none, 0, 0, rfl, ⟨HM.out.all, own_base (own_kept_low HM.out.alo hg (by omega)) (by omega), rfl, World.ownsRow_nil _ _ _ _, rfl, World.ownsRow_nil _ _ _ _⟩, F⟩
 | true =>
  have hwit : witA a set = canA (rstA a set) := by unfold witA; rw [hz]; rfl
  have HCZ := Lib.hid (alphabet_Contains_n S cs ns set 0 true w3 HSL.out hz ((HSS.out.below HM.out.bel).more HM.out.bel.size) (by omega) HSI.out)
  have HWIT := Lib.hid hwit; clear hwit
  clear hz
  go_wp2_with fail
  rw [HW3.out, HBB.out]
  refine HCZ.out.mono ?_
  rintro e w9 ⟨rfl, rfl⟩
  go_upto_region 4 with fail
  refine wp_region_U (fun W => W.cell? ⟨w.heap.size, 1, none⟩ = some (.int .i64 st) ∧ W.cell? ⟨w.heap.size, 2, none⟩ = some (.slice M nm cm)) (fun _ => True) 9 (by kernel_rfl) ?_
  change anyU _ _ _ _ _ _ _ 10 _ _ _
  have hB0 : True := trivial
  have HMD := Lib.hid (HM.out.quiet (below_dr w3))
  generalize w3.drew = wd at HMD ⊢
  have hA0 : wd.cell? ⟨w.heap.size, 1, none⟩ = some (.int .i64 st) ∧ wd.cell? ⟨w.heap.size, 2, none⟩ = some (.slice M nm cm) := ⟨HMD.out.box.cell (j := 1) rfl, HMD.out.box.cell (j := 2) rfl⟩
  have HIN := Lib.hid (alphabet_Intersect M S nm ns cm cs a.ma set wd HH.out.lm ((HH.out.rm.below HMD.out.bel).more HMD.out.bel.size) HH.out.mc HH.out.cM HSL.out ((HSS.out.below HMD.out.bel).more HMD.out.bel.size) hs1 hs2 (by omega) HW.out.minc HSI.out)
  (refine uA 0 ?_ rfl hA0 hB0 (fun W hA => ?_) ?_; rotate_left; (· (go_simp; try with_reducible rfl)); refine uA 1 ?_ rfl hA0 hB0 (fun W hA => ?_) ?_; rotate_left; (· (go_simp; try with_reducible rfl)); refine uA 2 ?_ rfl hA0 hB0 (fun W hA => ?_) ?_; rotate_left; (· (go_simp; try with_reducible rfl)); refine uA 3 ?_ rfl hA0 hB0 (fun W hA => ?_) ?_; rotate_left; (· (go_simp; try with_reducible rfl)); refine uA 4 ?_ rfl hA0 hB0 (fun W hA => ?_) ?_; rotate_left; (· (go_simp; try with_reducible rfl)); refine uA 6 ?_ rfl hA0 hB0 (fun W hA => ?_) ?_; rotate_left; (· (go_simp; try with_reducible rfl)); (try simp only [Act.put, List.setIfInBounds_toArray, List.set_cons_zero, List.set_cons_succ]))
  refine uOne (i := 5) rfl (by kernel_rfl) (fun K hK => ?_)
  go_simp
  go_at_call 63
  refine HIN.out.mono ?_
  rintro e w5 ⟨v2, rfl, ho5, hb5⟩
  obtain ⟨M2, cm2, rfl⟩ := own_shape ho5
  have HM5 := Lib.hid (HMD.out.quiet hb5)
  have hA5 : w5.cell? ⟨w.heap.size, 1, none⟩ = some (.int .i64 st) ∧ w5.cell? ⟨w.heap.size, 2, none⟩ = some (.slice M nm cm) := ⟨HM5.out.box.cell (j := 1) rfl, HM5.out.box.cell (j := 2) rfl⟩
  have ho5 := own_base (base := b + 1) ho5 HMD.out.lt
  obtain ⟨nq, hnq⟩ : ∃ n, (intS a.ma set).length = n := ⟨_, rfl⟩
  rw [hnq] at ho5 ⊢
  (refine hK _ _ ⟨hA5, fun _ => hB0⟩ ?_; clear hK K; (try simp only [Act.put, List.setIfInBounds_toArray, List.set_cons_zero, List.set_cons_succ]))
  have f1 : w5.frozen? ⟨b, 1, none⟩ = false := HM5.out.out.free 1
  have e1 : w5.cell? ⟨b, 1, none⟩ = some (.int .i64 0) := HM5.out.out.cell (j := 1) rfl
  have l5 : b < w5.heap.size := HM5.out.lt
  have HM6 := Lib.hid (HM5.out.set1 (.int .i64 st))
  have ho6 := own_kept_low ho5 (grown_setCell w5 b 1 (.int .i64 st)) (Nat.lt_succ_self _)
  have hA6 : (w5.setCell ⟨b, 1, none⟩ (.int .i64 st)).cell? ⟨w.heap.size, 1, none⟩ = some (.int .i64 st) ∧ (w5.setCell ⟨b, 1, none⟩ (.int .i64 st)).cell? ⟨w.heap.size, 2, none⟩ = some (.slice M nm cm) := ⟨HM6.out.box.cell (j := 1) rfl, HM6.out.box.cell (j := 2) rfl⟩
  clear ho5 hb5 HIN
  refine uOne (i := 7) rfl (by kernel_rfl) (fun K hK => ?_)
  go_simp
  (refine hK _ _ ⟨hA6, fun _ => hB0⟩ ?_; clear hK K; (try simp only [Act.put, List.setIfInBounds_toArray, List.set_cons_zero, List.set_cons_succ]))
  clear f1 e1 l5
  have f2 : (w5.setCell ⟨b, 1, none⟩ (.int .i64 st)).frozen? ⟨b, 2, none⟩ = false := HM6.out.out.free 2
  have e2 : (w5.setCell ⟨b, 1, none⟩ (.int .i64 st)).cell? ⟨b, 2, none⟩ = some (.slice none 0 0) := HM6.out.out.cell (j := 2) rfl
  have l6 : b < (w5.setCell ⟨b, 1, none⟩ (.int .i64 st)).heap.size := HM6.out.lt
  have HM7 := Lib.hid (HM6.out.set2 ho6 hnq)
  generalize w5.setCell ⟨b, 1, none⟩ (.int .i64 st) = w6 at *
  have hA7 : (w6.setCell ⟨b, 2, none⟩ (.slice M2 nq cm2)).cell? ⟨w.heap.size, 1, none⟩ = some (.int .i64 st) ∧ (w6.setCell ⟨b, 2, none⟩ (.slice M2 nq cm2)).cell? ⟨w.heap.size, 2, none⟩ = some (.slice M nm cm) := ⟨HM7.out.box.cell (j := 1) rfl, HM7.out.box.cell (j := 2) rfl⟩
  clear hA0
  have hA0 := hA6
  (refine uA 8 ?_ rfl hA0 hB0 (fun W hA => ?_) ?_; rotate_left; (· (go_simp; try with_reducible rfl)); (try simp only [Act.put, List.setIfInBounds_toArray, List.set_cons_zero, List.set_cons_succ]))
  refine uOne (i := 9) rfl (by kernel_rfl) (fun K hK => ?_)
  go_simp
  (refine hK _ _ ⟨hA7, fun h => absurd (h.symm.trans (by kernel_rfl : _ = true)) Bool.false_ne_true⟩ ?_; clear hK K; (try simp only [Act.put, List.setIfInBounds_toArray, List.set_cons_zero, List.set_cons_succ]))
  refine anyU_done (by kernel_rfl) ?_ _
  clear hA0 hA5 hA6 hA7 f2 e2 l6 ho6
  have HNQ := Lib.hid hnq; clear hnq
  generalize w6.setCell ⟨b, 2, none⟩ (.slice M2 nq cm2) = w7 at HM7 ⊢
  clear HM6 HM5 HMD HM
  have b3 := HM7.out.box.cell (j := 3) rfl
  go_wp2
  clear b3
  have hedl := HW.out.ed_le
  rw [HH.out.le] at hedl
  go_loopw [27] (fun s27 wr => ∃ (k ke : Nat) (EA : Option Addr) (ec : Nat), s27 = .int .i64 k ∧ k ≤ ne ∧ ke ≤ k ∧ Hid (WitM w.heap.size b w wr [.slice A na ca, .int .i64 st, .slice M nm cm, .slice E ne ce] V na cv a.al (.int .i64 st) (.slice M2 nq cm2) (.slice EA ke ec) nq ke (intS a.ma set) ((a.ed.take k).filter (inE set)))) (fun s27 _ => ne - (intOf s27).toNat)
  case atStart => exact ⟨0, 0, none, 0, rfl, Nat.zero_le _, Nat.le_refl _, HM7⟩
  case round =>
   clear HM7
   obtain ⟨k, ke, EA, ec, rfl, hk, hke, HM⟩ := hrel
   by_cases hkn : k < ne
   ·obtain ⟨ad, x, rfl, hbb, hx, hcell⟩ := (HH.out.re.below HM.out.bel).get (k := k) (by have := HH.out.le; omega)
    have b1 : (k : Int) < (ne : Int) := by omega
    have q0 : wr.cell? (ad.add (k * 3)) = some (.int .i64 x.f) := hcell 0 _ rfl
    have q1 : wr.cell? ⟨(ad.add (k * 3)).block, (ad.add (k * 3)).off + 1, none⟩ = some (.int .i64 x.e) := st_cells (j := 0) (hcell 1 _ rfl)
    have q2 : wr.cell? ⟨(ad.add (k * 3)).block, (ad.add (k * 3)).off + 2, none⟩ = some (.int .i64 x.t) := st_cells (j := 1) (hcell 2 _ rfl)
    have kx : Blk (wr.alloc (.cells #[.int .i64 x.f, .int .i64 x.e, .int .i64 x.t] 83)) wr.heap.size 83 [.int .i64 x.f, .int .i64 x.e, .int .i64 x.t] := Blk.new _ _ _
    have x0 := kx.cell (j := 0) rfl
    have x1 := kx.cell (j := 1) rfl
    have x2 := kx.cell (j := 2) rfl
    have HMX := Lib.hid (HM.out.quiet (box_below wr (.cells #[.int .i64 x.f, .int .i64 x.e, .int .i64 x.t] 83)))
    have HX := Lib.hid hx; clear hx
    clear hcell kx HM
    cases hf : hasB set x.f with
    | false =>
     have HCF := Lib.hid (alphabet_Contains_n S cs ns set x.f false _ HSL.out hf ((HSS.out.below HMX.out.bel).more HMX.out.bel.size) (by omega) HSI.out)
     have HMN := HMX.out
     rw [show (a.ed.take k).filter (inE set) = (a.ed.take (k + 1)).filter (inE set) by rw [filter_snoc HX.out, show inE set x = false by unfold inE; rw [hf]; rfl]; simp] at HMN
     have HMN2 := Lib.hid HMN; clear HMN
     clear hf
     go_wp2_with fail
     refine HCF.out.mono ?_
     rintro e w9 ⟨rfl, rfl⟩
     go_wp2
     go_roundw
     case rel => exact ⟨k + 1, ke, EA, ec, by go_num, by omega, by omega, HMN2⟩
     case measure => simp [intOf]; omega
    | true =>
     have HCF := Lib.hid (alphabet_Contains_n S cs ns set x.f true _ HSL.out hf ((HSS.out.below HMX.out.bel).more HMX.out.bel.size) (by omega) HSI.out)
     cases ht : hasB set x.t with
     | false =>
      have HCT := Lib.hid (alphabet_Contains_n S cs ns set x.t false _ HSL.out ht ((HSS.out.below HMX.out.bel).more HMX.out.bel.size) (by omega) HSI.out)
      have HMN := HMX.out
      rw [show (a.ed.take k).filter (inE set) = (a.ed.take (k + 1)).filter (inE set) by rw [filter_snoc HX.out, show inE set x = false by unfold inE; rw [hf, ht]; rfl]; simp] at HMN
      have HMN2 := Lib.hid HMN; clear HMN
      clear hf ht
      go_wp2_with fail
      refine HCF.out.mono ?_
      rintro e w9 ⟨rfl, rfl⟩
      go_wp2_with fail
      refine HCT.out.mono ?_
      rintro e w9 ⟨rfl, rfl⟩
      go_wp2
      go_roundw
      case rel => exact ⟨k + 1, ke, EA, ec, by go_num, by omega, by omega, HMN2⟩
      case measure => simp [intOf]; omega
     | true =>
      have HCT := Lib.hid (alphabet_Contains_n S cs ns set x.t true _ HSL.out ht ((HSS.out.below HMX.out.bel).more HMX.out.bel.size) (by omega) HSI.out)
      have HEQ := Lib.hid (show (a.ed.take (k + 1)).filter (inE set) = (a.ed.take k).filter (inE set) ++ [x] by rw [filter_snoc HX.out, show inE set x = true by unfold inE; rw [hf, ht]; rfl]; rfl)
      have o3 := HMX.out.out.cell (j := 3) rfl
      have hbs : b + 1 ≤ (wr.alloc (.cells #[.int .i64 x.f, .int .i64 x.e, .int .i64 x.t] 83)).heap.size := HMX.out.lt
      have HSX := Lib.hid (show (wr.alloc (.cells #[.int .i64 x.f, .int .i64 x.e, .int .i64 x.t] 83)).heap.size = wr.heap.size + 1 from World.size_alloc _ _)
      clear hf ht
      go_wp2_with fail
      refine HCF.out.mono ?_
      rintro e w9 ⟨rfl, rfl⟩
      go_wp2_with fail
      refine HCT.out.mono ?_
      rintro e w9 ⟨rfl, rfl⟩
      go_wp2_with (at_builtin; go_loud (refine wpList_pushA (wr.alloc (.cells #[.int .i64 x.f, .int .i64 x.e, .int .i64 x.t] 83)) [.int .i64 x.f, .int .i64 x.e, .int .i64 x.t] rfl (.tmp 42) (.tmp 44) 23 rfl (b + 1) 83 (.agg #[.int .i64 0, .int .i64 0, .int .i64 0]) 3 24 Tryd.underlying23 edge_info rfl (by decide) rfl (.slice EA ke ec) ke _ rfl HMX.out.edg (by rw [HSX.out]; rfl) (fun q hq => by simp at hq; rcases hq with rfl | rfl | rfl <;> rfl) (by omega) (by omega) hbs ?_; intro A8 c8 w8 ho8 hg8 hl8; have B8 := HMX.out.out.kept hg8 (own_lt_ne HMX.out.edg (Nat.lt_succ_self _)); have e8 := B8.cell (j := 3) rfl; have f8 := B8.free 3; have l8 := B8.lt; have HM8 := Lib.hid (HMX.out.edge (x := x) ho8 hg8); clear B8 ho8 hg8 hl8))
      have HM9 := HM8.out
      rw [← HEQ.out] at HM9
      have HM10 := Lib.hid HM9; clear HM9
      go_roundw
      case rel => exact ⟨k + 1, ke + 1, A8, c8, by go_num, by omega, by omega, HM10⟩
      case measure => simp [intOf]; omega
   ·obtain rfl : k = ne := by omega
    have HMN := HM.out
    rw [List.take_of_length_le (by rw [HH.out.le]; exact Nat.le_refl _)] at HMN
    have HCA := Lib.hid (automaton_Canonical V na cv M2 nq cm2 EA ke ec (rstA a set) wr (HMN.rd (st := a.st)) (rst_wf HW.out))
    rw [show (rstA a set).st = st from HST.out] at HCA
    have HMF := Lib.hid HMN; clear HMN
    have o0 := HMF.out.out.cell (j := 0) rfl
    have o1 := HMF.out.out.cell (j := 1) rfl
    have o2 := HMF.out.out.cell (j := 2) rfl
    have o3 := HMF.out.out.cell (j := 3) rfl
    clear HM
    go_wp2_with fail
    refine HCA.out.mono ?_
    rintro e w8 ⟨A9, na9, ca9, M9, nm9, cm9, E9, ne9, ce9, rfl, ho9, hb9⟩
    obtain ⟨s9, hs9⟩ : ∃ s, (canA (rstA a set)).st = s := ⟨_, rfl⟩
    rw [hs9]
    have HS10 := Lib.hid hs9; clear hs9
    have HM8 := Lib.hid (HMF.out.quiet hb9)
    have p0 := HM8.out.out.cell (j := 0) rfl
    have p1 := HM8.out.out.cell (j := 1) rfl
    have p2 := HM8.out.out.cell (j := 2) rfl
    have p3 := HM8.out.out.cell (j := 3) rfl
    have f0 := HM8.out.out.free 0
    have f1 := HM8.out.out.free 1
    have f2 := HM8.out.out.free 2
    have f3 := HM8.out.out.free 3
    have l8 : b < w8.heap.size := HM8.out.lt
    clear o0 o1 o2 o3 hb9
    go_upto_region 12 with fail
    have hpb := HM8.out.pb
    have hB4 := (((HM8.out.bel.setCell (p := ⟨b, 0, none⟩) (by show w.heap.size ≤ b; omega) (.slice A9 na9 ca9)).setCell (p := ⟨b, 1, none⟩) (by show w.heap.size ≤ b; omega) (.int .i64 s9)).setCell (p := ⟨b, 2, none⟩) (by show w.heap.size ≤ b; omega) (.slice M9 nm9 cm9)).setCell (p := ⟨b, 3, none⟩) (by show w.heap.size ≤ b; omega) (.slice E9 ne9 ce9)
    have hg4 : w8.grownBy ((((w8.setCell ⟨b, 0, none⟩ (.slice A9 na9 ca9)).setCell ⟨b, 1, none⟩ (.int .i64 s9)).setCell ⟨b, 2, none⟩ (.slice M9 nm9 cm9)).setCell ⟨b, 3, none⟩ (.slice E9 ne9 ce9)) (some b) := (((grown_setCell _ _ _ _).trans (grown_setCell _ _ _ _)).trans (grown_setCell _ _ _ _)).trans (grown_setCell _ _ _ _)
    have hbo := (((HM8.out.out.set (j := 0) (by simp) (.slice A9 na9 ca9)).set (j := 1) (by simp) (.int .i64 s9)).set (j := 2) (by simp) (.slice M9 nm9 cm9)).set (j := 3) (by simp) (.slice E9 ne9 ce9)
    have kR9 := HM8.out.res.kept hg4 (by intro e; injection e with e; omega)
    have hwb : b < wr.heap.size := HMF.out.lt
    have ho10 := ho9.low hg4 hwb
    have hB9 := hB4
    clear p0 p1 p2 p3 f0 f1 f2 f3 l8 hB4 ho9
    generalize (((w8.setCell ⟨b, 0, none⟩ (.slice A9 na9 ca9)).setCell ⟨b, 1, none⟩ (.int .i64 s9)).setCell ⟨b, 2, none⟩ (.slice M9 nm9 cm9)).setCell ⟨b, 3, none⟩ (.slice E9 ne9 ce9) = w3 at hbo kR9 ho10 hB9 ⊢
    have o0 := hbo.cell (j := 0) rfl
    have o1 := hbo.cell (j := 1) rfl
    have o2 := hbo.cell (j := 2) rfl
    have o3 := hbo.cell (j := 3) rfl
    have f0 := kR9.free 0
    have f1 := kR9.free 1
    have f2 := kR9.free 2
    have f3 := kR9.free 3
    have e0 := kR9.cell (j := 0) rfl
    have e1 := kR9.cell (j := 1) rfl
    have e2 := kR9.cell (j := 2) rfl
    have e3 := kR9.cell (j := 3) rfl
    have l9 : w.heap.size + 1 < w3.heap.size := kR9.lt
    have HO10 := Lib.hid ho10; clear ho10
    clear hg4
    go_wp2
    have hb4 := (((kR9.set (j := 0) (by simp) (.slice A9 na9 ca9)).set (j := 1) (by simp) (.int .i64 s9)).set (j := 2) (by simp) (.slice M9 nm9 cm9)).set (j := 3) (by simp) (.slice E9 ne9 ce9)
    have z0 := hb4.cell (j := 0) rfl
    have z1 := hb4.cell (j := 1) rfl
    have z2 := hb4.cell (j := 2) rfl
    have z3 := hb4.cell (j := 3) rfl
    have hq : ∀ k : Nat, w.heap.size ≤ (⟨w.heap.size + 1, k, none⟩ : Addr).block := fun k => by show w.heap.size ≤ w.heap.size + 1; omega
    have F := (((hB9.setCell (p := ⟨w.heap.size + 1, 0, none⟩) (hq 0) (.slice A9 na9 ca9)).setCell (p := ⟨w.heap.size + 1, 1, none⟩) (hq 1) (.int .i64 s9)).setCell (p := ⟨w.heap.size + 1, 2, none⟩) (hq 2) (.slice M9 nm9 cm9)).setCell (p := ⟨w.heap.size + 1, 3, none⟩) (hq 3) (.slice E9 ne9 ce9)
    have hg : w3.grownBy ((((w3.setCell ⟨w.heap.size + 1, 0, none⟩ (.slice A9 na9 ca9)).setCell ⟨w.heap.size + 1, 1, none⟩ (.int .i64 s9)).setCell ⟨w.heap.size + 1, 2, none⟩ (.slice M9 nm9 cm9)).setCell ⟨w.heap.size + 1, 3, none⟩ (.slice E9 ne9 ce9)) (some (w.heap.size + 1)) := (((grown_setCell _ _ _ _).trans (grown_setCell _ _ _ _)).trans (grown_setCell _ _ _ _)).trans (grown_setCell _ _ _ _)
    refine bodyPost_ret (v := .agg #[.slice A9 na9 ca9, .int .i64 s9, .slice M9 nm9 cm9, .slice E9 ne9 ce9]) (by simp [results, Tryd.results52, go_sem, z0, z1, z2, z3]) rfl ?_
    rw [HWIT.out]
    exact ⟨A9, na9, ca9, M9, nm9, cm9, E9, ne9, ce9, by rw [HS10.out], (HO10.out.low hg (by omega)).down (by omega), F⟩
end Go.Proofs.YtcchnibgehonoaaDoor

/- Walks: controllable.Within, all. -/
namespace Go.Proofs.YtcchnibgehonoaaDoor
open Go.RowKit Go Go.Maps

end Go.Proofs.YtcchnibgehonoaaDoor

/- Walks: controllable.all. -/
namespace Go.Proofs.YtcchnibgehonoaaDoor
open Go.RowKit Go Go.Maps

/-- numbers so far, then zeros -/
def allN (n k : Nat) : List Int := rngI (k : Int) ++ List.replicate (n - k) 0
theorem rngI_lenN (k : Nat) : (rngI (k : Int)).length = k := by unfold rngI; simp
theorem allN_len {n k : Nat} (h : k ≤ n) : (allN n k).length = n := by unfold allN; rw [List.length_append, rngI_lenN, List.length_replicate]; omega
theorem allN_set {n k : Nat} (h : k < n) : (allN n k).set k (k : Int) = allN n (k + 1) := by
 unfold allN
 rw [List.set_append, if_neg (by rw [rngI_lenN]; omega), rngI_lenN, Nat.sub_self, show n - k = (n - (k + 1)) + 1 by omega, List.replicate_succ, List.set_cons_zero]
 have e : rngI ((k + 1 : Nat) : Int) = rngI (k : Int) ++ [(k : Int)] := by
  unfold rngI
  rw [show (((k + 1 : Nat) : Int)).toNat = k + 1 by omega, show (k : Int).toNat = k by omega, List.range_succ, List.map_append]; rfl
 rw [e, List.append_assoc]; rfl
theorem allN_end (n : Nat) : allN n n = rngI (n : Int) := by unfold allN; simp
theorem own_blk {w : World} {g base : Nat} {e : TypeId} {l : List Int} {n : Nat} (h : Blk w g e (iv l)) (hl : l.length = n) (hb : base ≤ g) (hn : n ≤ maxLen) : w.ownsRow base e 1 (.slice (some ⟨g, 0, none⟩) n n) n (iv l) :=
 ⟨by rw [iv_length, hl]; omega, .inr ⟨g, n, (iv l).toArray, rfl, hb, h, Nat.le_refl _, hn, by simp [iv_length, hl], by rw [List.take_of_length_le (by simp [iv_length, hl])]⟩⟩

set_option maxHeartbeats 1600000 in
theorem ctl_all (n : Nat) (w : World) (hn : n ≤ 4096) : Calls Tryd.prog 54 #[.int .i64 n] w (RetO 3 (rngI (n : Int)) w) := by
 have hm : ∀ W : World, (Instr.makeSlice 22 (.int .i64 (n : Int)) (.int .i64 (n : Int))).run Tryd.prog W = .ok (.slice (some ⟨W.heap.size, 0, none⟩) n n) (W.alloc (.cells (madeCells #[.int .i64 0] n) 3)) := fun W => run_make_row' 22 3 (.int .i64 0) 8 Tryd.underlying22 int_info rfl .i64 .i64 n (by omega) (by omega) W
 have hb0 := box_below w (.cells (madeCells #[.int .i64 0] n) 3)
 have hk0 : Blk (w.alloc (.cells (madeCells #[.int .i64 0] n) 3)) w.heap.size 3 (iv (allN n 0)) := by
  have := Blk.new w 3 (iv (List.replicate n 0))
  rw [← made_ints] at this
  unfold allN
  exact this
 have HK0 := Lib.hid hk0; clear hk0
 have HB0 := Lib.hid hb0; clear hb0
 go_enter Tryd.func54, Tryd.ntmps54
 go_wp2
 clear hm
 go_loopw [9] (fun s9 wr => ∃ k : Nat, s9 = .int .i64 k ∧ k ≤ n ∧ Hid (Blk wr w.heap.size 3 (iv (allN n k))) ∧ Hid (Below w.heap.size w wr)) (fun s9 _ => n - (intOf s9).toNat)
 case atStart => exact ⟨0, rfl, Nat.zero_le _, HK0, HB0⟩
 case round =>
  clear HK0 HB0
  obtain ⟨k, rfl, hk, HK, HB⟩ := hrel
  by_cases hlt : k < n
  ·have b1 : (k : Int) < (n : Int) := by omega
   have hlen := allN_len hk
   obtain ⟨y, hy⟩ : ∃ y, (allN n k)[k]? = some y := ⟨_, List.getElem?_eq_getElem (by rw [hlen]; exact hlt)⟩
   have g1 : wr.cell? ⟨w.heap.size, k, none⟩ = some (.int .i64 y) := HK.out.cell (by rw [iv_get, hy]; rfl)
   have g2 : wr.frozen? ⟨w.heap.size, k, none⟩ = false := HK.out.free k
   have g3 : w.heap.size < wr.heap.size := HK.out.lt
   have hk2 := HK.out.set (j := k) (by rw [iv_length, hlen]; exact hlt) (.int .i64 (k : Int))
   rw [iv_set, allN_set hlt] at hk2
   have HB2 := Lib.hid (HB.out.setCell (p := ⟨w.heap.size, k, none⟩) (Nat.le_refl _) (.int .i64 (k : Int)))
   have HK2 := Lib.hid hk2; clear hk2
   clear hy hlen
   go_wp2
   go_roundw
   case rel => exact ⟨k + 1, by go_num, by omega, HK2, HB2⟩
   case measure => simp [intOf]; omega
  ·obtain rfl : k = n := by omega
   have ho := own_blk (base := w.heap.size) HK.out (allN_len (Nat.le_refl k)) (Nat.le_refl _) (by unfold maxLen; omega)
   rw [allN_end] at ho
   have HO := Lib.hid ho; clear ho
   go_wp2
   go_ret
   exact ⟨_, rfl, by rw [rngI_lenN]; exact HO.out, HB.out⟩
end Go.Proofs.YtcchnibgehonoaaDoor

/- controllable.open as one; the refused states (plain). -/
namespace Go.Proofs.YtcchnibgehonoaaDoor
open Go.RowKit Go Go.Maps

/-- a right problem -/
structure Prob (P R : Aut) (u : List Int) (p : Aut) (T : List (List Int)) : Prop where
 wp : WF P
 wr : WF R
 ui : Inc u
 ur : ∀ x ∈ u, 0 ≤ x ∧ x < 32
 err : prbE P R u = 0
 sp : P.st ≤ 60
 sr : R.st ≤ 60
 syn : synR [P, R] = some (p, T)
theorem prbE_zero {P R : Aut} {u : List Int} (h : prbE P R u = 0) : chkA P = 0 ∧ chkA R = 0 ∧ setErr u 32 = 0 ∧ (minS R.al P.al).length = 0 := by
 unfold prbE at h
 by_cases h1 : chkA P = 0
 ·rw [if_neg (by simp [h1])] at h
  by_cases h2 : chkA R = 0
  ·rw [if_neg (by simp [h2])] at h
   by_cases h3 : setErr u 32 = 0
   ·rw [if_neg (by simp [h3])] at h
    by_cases h4 : (minS R.al P.al).length = 0
    ·exact ⟨h1, h2, h3, h4⟩
    ·rw [if_neg h4] at h; cases h
   ·rw [if_pos h3] at h; exact absurd h h3
  ·rw [if_pos h2] at h; exact absurd h h2
 ·rw [if_pos h1] at h; exact absurd h h1
theorem ctl_open_ok (A M E A' M' E' : Option Addr) (na ca nm cm ne ce na' ca' nm' cm' ne' ce' : Nat) (P R : Aut) (U : Option Addr) (cu nu : Nat) (u : List Int) (w : World) (hx : AutR w w.heap.size A na ca M nm cm E ne ce P) (hy : AutR w w.heap.size A' na' ca' M' nm' cm' E' ne' ce' R)
  (hul : u.length = nu) (hu : RdI w w.heap.size U u) (hu1 : nu ≤ cu) (hu2 : cu ≤ 9223372036854775807) (p : Aut) (T : List (List Int)) (hp : Prob P R u p T) :
  Calls Tryd.prog 46 #[.agg #[.slice A na ca, .int .i64 P.st, .slice M nm cm, .slice E ne ce], .agg #[.slice A' na' ca', .int .i64 R.st, .slice M' nm' cm', .slice E' ne' ce'], .slice U nu cu] w fun e w' => ∃ b v, e = .returned (.tuple #[.pointer (some ⟨b, 0, none⟩), .int .i64 0]) ∧ w.heap.size ≤ b ∧ PrbR w' b v P R (intS u P.al) p T ∧ Below w.heap.size w w' := by
 obtain ⟨h1, h2, h3, h4⟩ := prbE_zero hp.err
 exact open_ok A M E A' M' E' na ca nm cm ne ce na' ca' nm' cm' ne' ce' P R U cu nu u w hx hy hul hu hu1 hu2 h1 h2 h3 (by simpa using h4) (fun a ha => by
  have := hp.sp; have := hp.sr
  rcases List.mem_cons.1 ha with rfl | ha
  ·omega
  ·obtain rfl := List.mem_singleton.1 ha; omega) p T hp.syn

/-- the event that is refused at a tuple -/
def refT (P R : Aut) (U : List Int) (t : List Int) : Int := refF P R (t.getD 0 0) (t.getD 1 0) U
/-- the states below k in which an event is refused, and these events -/
def badI (P R : Aut) (U : List Int) (T : List (List Int)) (k : Nat) : List Int := (rngI (k : Int)).filter (fun i => decide (0 ≤ refT P R U (T.getD i.toNat [])))
theorem rngI_succ (k : Nat) : rngI ((k + 1 : Nat) : Int) = rngI (k : Int) ++ [(k : Int)] := by
 unfold rngI
 rw [show (((k + 1 : Nat) : Int)).toNat = k + 1 by omega, show (k : Int).toNat = k by omega, List.range_succ, List.map_append]; rfl
theorem badI_snoc (P R : Aut) (U : List Int) (T : List (List Int)) {k : Nat} {t : List Int} (h : T[k]? = some t) : badI P R U T (k + 1) = badI P R U T k ++ (if 0 ≤ refT P R U t then [(k : Int)] else []) := by
 unfold badI
 rw [rngI_succ, List.filter_append]
 congr 1
 have e : T.getD ((k : Int)).toNat [] = t := by rw [show (k : Int).toNat = k by omega, List.getD_eq_getElem?_getD, h]; rfl
 rw [List.filter_cons, e, List.filter_nil]
 by_cases hq : 0 ≤ refT P R U t <;> simp [hq]
theorem badI_rng {P R : Aut} {U : List Int} {T : List (List Int)} {k : Nat} : ∀ s ∈ badI P R U T k, 0 ≤ s ∧ s < (k : Int) := fun _ hs => rngI_mem.1 (List.mem_filter.1 hs).1
section
variable {P R p : Aut} {u : List Int} {T : List (List Int)}
theorem Prob.two (h : Prob P R u p T) : ∀ a ∈ [P, R], WF a := fun a ha => by
 rcases List.mem_cons.1 ha with rfl | ha
 ·exact h.wp
 ·obtain rfl := List.mem_singleton.1 ha; exact h.wr
theorem Prob.prod (h : Prob P R u p T) : prodN [P, R] ≤ 3600 := by
 show P.st.toNat * (R.st.toNat * 1) ≤ 3600
 have h1 := h.sp; have h2 := h.sr
 have := Nat.mul_le_mul (show P.st.toNat ≤ 60 by omega) (show R.st.toNat * 1 ≤ 60 by omega)
 omega
theorem Prob.pwf (h : Prob P R u p T) : WF p := syn_wf h.two (Nat.le_trans h.prod (by omega)) h.syn
theorem Prob.tups (h : Prob P R u p T) : p.st = (T.length : Int) ∧ ∀ t ∈ T, Tup [P, R] t := by
 have hs := h.syn
 have hp := Nat.le_trans h.prod (show 3600 ≤ 4096 by omega)
 cases hn : noSt [P, R] with
 | true =>
  unfold synR at hs
  rw [if_pos hn] at hs
  simp only [Option.some.injEq, Prod.mk.injEq] at hs
  obtain ⟨rfl, rfl⟩ := hs
  exact ⟨rfl, fun t ht => by cases ht⟩
 | false =>
  unfold synR at hs
  rw [if_neg (by rw [hn]; decide)] at hs
  cases hq : synS [P, R] with
  | none => rw [hq] at hs; cases hs
  | some s =>
   rw [hq] at hs
   simp only [Option.map_some, Option.some.injEq, Prod.mk.injEq] at hs
   obtain ⟨rfl, rfl⟩ := hs
   have hi := syn_inv h.two hq hn hp
   exact ⟨rfl, fun t ht => rch_tup h.two hn (hi.rch t ht)⟩
theorem Prob.tup (h : Prob P R u p T) {k : Nat} {t : List Int} (hk : T[k]? = some t) : ∃ s r, t = [s, r] ∧ (0 ≤ s ∧ s ≤ 4096) ∧ (0 ≤ r ∧ r ≤ 4096) := by
 have ht := h.tups.2 t (List.mem_of_getElem? hk)
 have h1 := h.sp; have h2 := h.sr
 match t, ht with
 | [s, r], ht => exact ⟨s, r, rfl, ⟨ht.1, by have := ht.2.1; omega⟩, ⟨ht.2.2.1, by have := ht.2.2.2.1; omega⟩⟩
theorem Prob.len (h : Prob P R u p T) : T.length ≤ 3600 := by
 have h1 := syn_st h.two (Nat.le_trans h.prod (by omega)) h.syn
 have h2 := h.prod
 have h3 := h.tups.1
 omega
end
/-- (*problem).refused at a state -/
theorem refused_at {P R p : Aut} {u : List Int} {T : List (List Int)} (hq : Prob P R u p T) (b : Nat) (v : PV) (k : Nat) (t : List Int) (w : World) (h : PrbR w b v P R (intS u P.al) p T) (hk : T[k]? = some t) (r : Int) (hr : refT P R (intS u P.al) t = r) :
  Calls Tryd.prog 47 #[.pointer (some ⟨b, 0, none⟩), .int .i64 k] w fun e w' => e = .returned (.int .i64 r) ∧ Below w.heap.size w w' := by
 obtain ⟨s, q, rfl, hs, hq'⟩ := hq.tup hk
 subst hr
 exact problem_refused b v P R p (intS u P.al) T k s q w h hq.wr hk hs hq' (fun x hx => hq.ur x (List.mem_filter.1 hx).1)
end Go.Proofs.YtcchnibgehonoaaDoor
