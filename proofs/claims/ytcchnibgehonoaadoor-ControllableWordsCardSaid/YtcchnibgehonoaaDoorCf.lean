/- Walks: controllable.checkSet, Forward, Backward. -/
import Derived.Test.YtcchnibgehonoaaDoorCc
namespace Go.Proofs.YtcchnibgehonoaaDoor
open Go.RowKit Go Go.Maps

/-- the flags of a set -/
def inF (n : Nat) (set : List Int) : List Bool := set.foldl fset (List.replicate n false)
theorem inF_len (n : Nat) (set : List Int) : (inF n set).length = n := by
 unfold inF
 have : ∀ (l : List Int) (N : List Bool), (l.foldl fset N).length = N.length := by
  intro l
  induction l with
  | nil => intro N; rfl
  | cons s l ih => intro N; rw [List.foldl_cons, ih, fset_len]
 rw [this, List.length_replicate]
theorem fl_rep (n : Nat) (s : Int) : fl (List.replicate n false) s = false := by
 unfold fl
 rw [List.getD_eq_getElem?_getD, List.getElem?_replicate]
 split <;> rfl
theorem inF_fl {n : Nat} {set : List Int} (hs : ∀ s ∈ set, 0 ≤ s ∧ s < (n : Int)) {t : Int} (ht : 0 ≤ t) : fl (inF n set) t = true ↔ t ∈ set := by
 have key : ∀ (l : List Int) (N : List Bool), N.length = n → (∀ s ∈ l, 0 ≤ s ∧ s < (n : Int)) → (fl (l.foldl fset N) t = true ↔ t ∈ l ∨ fl N t = true) := by
  intro l
  induction l with
  | nil => intro N _ _; simp
  | cons s l ih =>
   intro N hN hl
   have h1 := hl s (List.mem_cons_self ..)
   rw [List.foldl_cons, ih _ (by rw [fset_len]; exact hN) (fun z hz => hl z (List.mem_cons_of_mem _ hz)), fl_set (by rw [hN]; exact h1) ht, Bool.or_eq_true, decide_eq_true_eq, List.mem_cons]
   constructor
   ·rintro (h | h | h) <;> simp [h]
   ·rintro ((h | h) | h) <;> simp [h]
 unfold inF
 rw [key set _ (by rw [List.length_replicate]) hs, fl_rep]
 simp
theorem inF_Fl {ed : List Ed} {V set : List Int} {back : Bool} {n : Nat} (hs : ∀ s ∈ set, 0 ≤ s ∧ s < (n : Int)) : Fl ed V back set n (inF n set) :=
 ⟨inF_len n set, fun s h => (inF_fl hs (hs s h).1).2 h, fun _ h0 h => .base ((inF_fl hs h0).1 h)⟩
/-- the set of states that the law's rounds give -/
def clS (ed : List Ed) (V : List Int) (back : Bool) (n : Nat) (set : List Int) : List Int := onF (itF V back ed n (inF n set))
theorem clS_eq {ed : List Ed} {V set : List Int} {back : Bool} {n : Nat} {N : List Bool} (hs : ∀ s ∈ set, 0 ≤ s ∧ s < (n : Int)) (he : EdIn n ed) (h : Fl ed V back set n N) (hc : Clo V back ed N) : onF N = clS ed V back n set :=
 onF_eq h hc (itF_fl (inF_Fl hs) (fun s h => (hs s h).1) he n) (itF_clo (inF_len n set) he)
theorem ctl_closureS (back : Bool) (A M E : Option Addr) (na ca nm cm ne ce : Nat) (a : Aut) (S : Option Addr) (cs ns : Nat) (set : List Int) (V : Option Addr) (cv nv : Nat) (ev : List Int) (n : Nat) (w : World) (h : AutR w w.heap.size A na ca M nm cm E ne ce a) (hw : WF a) (hn : a.st = (n : Int))
  (hsl : set.length = ns) (hS : RdI w w.heap.size S set) (hset : ∀ s ∈ set, 0 ≤ s ∧ s < (n : Int)) (hs1 : ns ≤ cs) (hs2 : cs ≤ 9223372036854775807) (hvl : ev.length = nv) (hV : RdI w w.heap.size V ev) (hvi : Inc ev) (hv1 : nv ≤ 4611686018427387903) :
  Calls Tryd.prog 51 #[.agg #[.slice A na ca, .int .i64 a.st, .slice M nm cm, .slice E ne ce], .slice S ns cs, .slice V nv cv, .bool back] w (RetO 3 (clS a.ed ev back n set) w) := by
 refine (ctl_closure back A M E na ca nm cm ne ce a S cs ns set V cv nv ev n w h hw hn hsl hS hset hs1 hs2 hvl hV hvi hv1).mono ?_
 rintro e w' ⟨v, N, rfl, ho, hF, hb⟩
 rw [clS_eq hset (EdIn.of hw hn) hF.out.1 hF.out.2] at ho
 exact ⟨v, rfl, ho, hb⟩

/-- checkSet's answer -/
def ckS (a : Aut) (set ev : List Int) : Int := if chkA a ≠ 0 then chkA a else if setErr set a.st ≠ 0 then setErr set a.st else setErr ev 32

set_option maxRecDepth 100000 in
set_option maxHeartbeats 3200000 in
theorem ctl_checkSet (A M E : Option Addr) (na ca nm cm ne ce : Nat) (a : Aut) (S : Option Addr) (cs ns : Nat) (set : List Int) (V : Option Addr) (cv nv : Nat) (ev : List Int) (w : World) (h : AutR w w.heap.size A na ca M nm cm E ne ce a)
  (hsl : set.length = ns) (hS : RdI w w.heap.size S set) (hs1 : ns ≤ cs) (hs2 : cs ≤ 9223372036854775807) (hvl : ev.length = nv) (hV : RdI w w.heap.size V ev) (hv1 : nv ≤ cv) (hv2 : cv ≤ 9223372036854775807) (r : Int) (hr : ckS a set ev = r) :
  Calls Tryd.prog 59 #[.agg #[.slice A na ca, .int .i64 a.st, .slice M nm cm, .slice E ne ce], .slice S ns cs, .slice V nv cv] w fun e w' => e = .returned (.int .i64 r) ∧ Below w.heap.size w w' := by
 obtain ⟨sp, hsp⟩ : ∃ s, a.st = s := ⟨_, rfl⟩
 have hb1 := box_below w (.cells #[.slice A na ca, .int .i64 a.st, .slice M nm cm, .slice E ne ce] 25)
 have k3 : Blk (w.alloc (.cells #[.slice A na ca, .int .i64 a.st, .slice M nm cm, .slice E ne ce] 25)) w.heap.size 25 [.slice A na ca, .int .i64 a.st, .slice M nm cm, .slice E ne ce] := Blk.new _ _ _
 generalize hw1 : w.alloc (.cells #[.slice A na ca, .int .i64 a.st, .slice M nm cm, .slice E ne ce] 25) = w1 at hb1 k3
 have HC := Lib.hid (automaton_Check A na ca M nm cm E ne ce a w1 ((h.below hb1).more hb1.size))
 have hS1 := (hS.below hb1).more hb1.size
 have hV1 := (hV.below hb1).more hb1.size
 rw [hsp] at HC k3 hw1 ⊢
 obtain ⟨q1, hq1⟩ : ∃ q, chkA a = q := ⟨_, rfl⟩
 obtain ⟨q2, hq2⟩ : ∃ q, setErr set sp = q := ⟨_, rfl⟩
 obtain ⟨q3, hq3⟩ : ∃ q, setErr ev 32 = q := ⟨_, rfl⟩
 rw [hq1] at HC
 have hr' : r = if q1 ≠ 0 then q1 else if q2 ≠ 0 then q2 else q3 := by rw [← hr]; unfold ckS; rw [hsp, hq1, hq2, hq3]
 have HR := Lib.hid hr'
 have c0 := k3.cell (j := 0) rfl
 have c1 := k3.cell (j := 1) rfl
 have c2 := k3.cell (j := 2) rfl
 have c3 := k3.cell (j := 3) rfl
 have HW1 := Lib.hid hw1; clear hw1
 have HS1 := Lib.hid hS1; clear hS1
 have HV1 := Lib.hid hV1; clear hV1
 have HQ2 := Lib.hid hq2; clear hq2
 have HQ3 := Lib.hid hq3; clear hq3
 have HB1 := Lib.hid hb1; clear hb1
 have K3 := Lib.hid k3; clear k3
 have HSL := Lib.hid hsl; clear hsl
 have HVL := Lib.hid hvl; clear hvl
 clear hr hr' hsp hq1 h hS hV
 go_enter Tryd.func59, Tryd.ntmps59
 go_wp2_with fail
 rw [HW1.out]
 refine HC.out.mono ?_
 rintro e w2 ⟨rfl, hb2⟩
 have HB2 := Lib.hid (HB1.out.trans (hb2.mono HB1.out.size))
 have k4 := K3.out.below hb2 K3.out.lt
 have d1 := k4.cell (j := 1) rfl
 have HCA := Lib.hid (alphabet_CheckSet_n S cs ns set sp q2 w2 HSL.out HQ2.out ((HS1.out.below hb2).more hb2.size) hs1 hs2)
 have HCB := Lib.hid (alphabet_CheckSet_n V cv nv ev 32 q3 w2 HVL.out HQ3.out ((HV1.out.below hb2).more hb2.size) hv1 hv2)
 clear c0 c1 c2 c3 HC hb2 k4
 by_cases h1 : q1 = 0
 ·subst h1
  by_cases h2 : q2 = 0
  ·subst h2
   have HR := Lib.hid (show r = q3 by rw [HR.out]; simp)
   go_wp2_with fail
   refine HCA.out.mono ?_
   rintro e w3 ⟨rfl, rfl⟩
   go_wp2_with fail
   refine HCB.out.mono ?_
   rintro e w3 ⟨rfl, rfl⟩
   go_wp2
   go_ret
   exact ⟨congrArg (fun z => Ending.returned (.int .i64 z)) HR.out.symm, HB2.out⟩
  ·have HR := Lib.hid (show r = q2 by rw [HR.out]; simp [h2])
   have e2 : (q2 != 0) = true := by simpa using h2
   clear h2
   go_wp2_with fail
   refine HCA.out.mono ?_
   rintro e w3 ⟨rfl, rfl⟩
   go_wp2
   go_ret
   exact ⟨congrArg (fun z => Ending.returned (.int .i64 z)) HR.out.symm, HB2.out⟩
 ·have HR := Lib.hid (show r = q1 by rw [HR.out]; simp [h1])
  have e2 : (q1 != 0) = true := by simpa using h1
  clear h1
  go_wp2
  go_ret
  exact ⟨congrArg (fun z => Ending.returned (.int .i64 z)) HR.out.symm, HB2.out⟩

/-- a list of the call's own, without an error -/
def RetOE (I : TypeId) (l : List Int) (w : World) (e : Ending) (w' : World) : Prop := ∃ v, e = .returned (.tuple #[v, .int .i64 0]) ∧ w'.ownsRow w.heap.size I 1 v l.length (iv l) ∧ Below w.heap.size w w'

set_option maxRecDepth 100000 in
set_option maxHeartbeats 3200000 in
theorem backward_ok (A M E : Option Addr) (na ca nm cm ne ce : Nat) (a : Aut) (S : Option Addr) (cs ns : Nat) (set : List Int) (V : Option Addr) (cv nv : Nat) (ev : List Int) (n : Nat) (w : World) (h : AutR w w.heap.size A na ca M nm cm E ne ce a) (hn : a.st = (n : Int))
  (hsl : set.length = ns) (hS : RdI w w.heap.size S set) (hs1 : ns ≤ cs) (hs2 : cs ≤ 9223372036854775807) (hvl : ev.length = nv) (hV : RdI w w.heap.size V ev) (hv1 : nv ≤ cv) (hv2 : cv ≤ 9223372036854775807) (hr : ckS a set ev = 0) :
  Calls Tryd.prog 22 #[.agg #[.slice A na ca, .int .i64 a.st, .slice M nm cm, .slice E ne ce], .slice S ns cs, .slice V nv cv] w (RetOE 3 (clS a.ed ev true n set) w) := by
 obtain ⟨sp, hsp⟩ : ∃ s, a.st = s := ⟨_, rfl⟩
 have hb1 := box_below w (.cells #[.slice A na ca, .int .i64 a.st, .slice M nm cm, .slice E ne ce] 25)
 have k3 : Blk (w.alloc (.cells #[.slice A na ca, .int .i64 a.st, .slice M nm cm, .slice E ne ce] 25)) w.heap.size 25 [.slice A na ca, .int .i64 a.st, .slice M nm cm, .slice E ne ce] := Blk.new _ _ _
 generalize hw1 : w.alloc (.cells #[.slice A na ca, .int .i64 a.st, .slice M nm cm, .slice E ne ce] 25) = w1 at hb1 k3
 have h := (h.below hb1).more hb1.size
 have hS := (hS.below hb1).more hb1.size
 have hV := (hV.below hb1).more hb1.size
 have HK := Lib.hid (ctl_checkSet A M E na ca nm cm ne ce a S cs ns set V cv nv ev w1 h hsl hS hs1 hs2 hvl hV hv1 hv2 0 hr)
 have hca : chkA a = 0 := by
  unfold ckS at hr
  split at hr
  ·exact absurd hr (by assumption)
  ·rename_i h1; exact Decidable.of_not_not h1
 have hcs : setErr set a.st = 0 := by
  unfold ckS at hr
  rw [if_neg (by simp [hca])] at hr
  split at hr
  ·exact absurd hr (by assumption)
  ·rename_i h1; exact Decidable.of_not_not h1
 have hce : setErr ev 32 = 0 := by
  unfold ckS at hr
  rw [if_neg (by simp [hca]), if_neg (by simp [hcs])] at hr
  exact hr
 have HW := Lib.hid (chkA_wf hca)
 have HSI := Lib.hid (setErr_inc hcs)
 have HVI := Lib.hid (setErr_inc hce)
 have HX := Lib.hid h; clear h
 have HS := Lib.hid hS; clear hS
 have HV := Lib.hid hV; clear hV
 have HN := Lib.hid hn; clear hn
 clear hr hca hcs hce
 rw [hsp] at HK k3 hw1 ⊢
 have c0 := k3.cell (j := 0) rfl
 have c1 := k3.cell (j := 1) rfl
 have c2 := k3.cell (j := 2) rfl
 have c3 := k3.cell (j := 3) rfl
 have HW1 := Lib.hid hw1; clear hw1
 have HB1 := Lib.hid hb1; clear hb1
 have K3 := Lib.hid k3; clear k3
 have HSP := Lib.hid hsp; clear hsp
 go_enter Tryd.func22, Tryd.ntmps22
 go_wp2_with fail
 rw [HW1.out]
 refine HK.out.mono ?_
 rintro e w2 ⟨rfl, hb⟩
 have HCL := Lib.hid (ctl_closureS true A M E na ca nm cm ne ce a S cs ns set V cv nv ev n w2 ((HX.out.below hb).more hb.size) HW.out HN.out hsl ((HS.out.below hb).more hb.size) (by have := HSI.out.2; rw [HN.out] at this; exact this) hs1 hs2 hvl ((HV.out.below hb).more hb.size) HVI.out.1 (by have h2 := inc_len (n := 32) HVI.out.1 HVI.out.2; rw [hvl] at h2; omega))
 rw [HSP.out] at HCL
 have k4 := K3.out.below hb K3.out.lt
 have HB := Lib.hid (HB1.out.trans (hb.mono HB1.out.size))
 clear c0 c1 c2 c3 hb
 have c0 := k4.cell (j := 0) rfl
 have c1 := k4.cell (j := 1) rfl
 have c2 := k4.cell (j := 2) rfl
 have c3 := k4.cell (j := 3) rfl
 go_wp2_with fail
 refine HCL.out.mono ?_
 rintro e w3 ⟨v, rfl, ho, hb3⟩
 have ho := own_base (base := w.heap.size) ho HB.out.size
 have HO := Lib.hid ho; clear ho
 have HB3 := Lib.hid (HB.out.trans (hb3.mono HB.out.size))
 clear hb3 c0 c1 c2 c3 k4
 go_wp2
 go_ret2
 exact ⟨_, rfl, HO.out, HB3.out⟩
end Go.Proofs.YtcchnibgehonoaaDoor

/- Walks: slices.IndexFunc, ContainsFunc at edges; Invariant. -/
namespace Go.Proofs.YtcchnibgehonoaaDoor
open Go.RowKit Go Go.Maps

/-- the first edge that has a property -/
def idxP (p : Ed → Bool) : List Ed → Int
 | [] => -1
 | x :: l => if p x = true then 0 else if idxP p l < 0 then -1 else idxP p l + 1
theorem idxP_none {p : Ed → Bool} : ∀ {l : List Ed}, (∀ x ∈ l, p x = false) → idxP p l = -1
 | [], _ => rfl
 | x :: l, h => by
  unfold idxP
  rw [if_neg (by rw [h x (List.mem_cons_self ..)]; simp), idxP_none (fun y hy => h y (List.mem_cons_of_mem _ hy))]
  rfl
theorem idxP_at {p : Ed → Bool} : ∀ {l : List Ed} {k : Nat} {x : Ed}, l[k]? = some x → p x = true → (∀ j y, j < k → l[j]? = some y → p y = false) → idxP p l = k
 | [], k, x, h, _, _ => by simp at h
 | y :: l, 0, x, h, he, _ => by
  simp at h; subst h
  unfold idxP; rw [if_pos he]; rfl
 | y :: l, k + 1, x, h, he, hn => by
  have ih := idxP_at (l := l) (k := k) (x := x) (by simpa using h) he (fun j z hj hz => hn (j + 1) z (by omega) (by simpa using hz))
  unfold idxP
  rw [if_neg (by rw [hn 0 y (by omega) rfl]; simp), ih, if_neg (by omega)]
  omega
theorem idxP_spec {p : Ed → Bool} : ∀ (l : List Ed), (idxP p l = -1 ∧ ∀ x ∈ l, p x = false) ∨ (∃ (k : Nat) (x : Ed), idxP p l = k ∧ l[k]? = some x ∧ p x = true ∧ ∀ j y, j < k → l[j]? = some y → p y = false)
 | [] => .inl ⟨rfl, fun x hx => by simp at hx⟩
 | y :: l => by
  by_cases hy : p y = true
  ·exact .inr ⟨0, y, by unfold idxP; rw [if_pos hy]; rfl, rfl, hy, fun j z hj => by omega⟩
  ·have hy : p y = false := by simpa using hy
   rcases idxP_spec (p := p) l with ⟨h1, h2⟩ | ⟨k, x, h1, h2, h3, h4⟩
   ·exact .inl ⟨by unfold idxP; rw [if_neg (by rw [hy]; simp), h1]; rfl, fun x hx => by
     rcases List.mem_cons.1 hx with rfl | hx
     ·exact hy
     ·exact h2 x hx⟩
   ·have hn : ∀ j z, j < k + 1 → (y :: l)[j]? = some z → p z = false := fun j z hj hz => by
     match j, hj, hz with
     | 0, _, hz => simp at hz; subst hz; exact hy
     | j + 1, hj, hz => exact h4 j z (by omega) (by simpa using hz)
    exact .inr ⟨k + 1, x, idxP_at (l := y :: l) (k := k + 1) (x := x) (by simpa using h2) h3 hn, by simpa using h2, h3, hn⟩
set_option maxHeartbeats 1600000 in
theorem edge_index1 (p : Ed → Bool) (E : Option Addr) (c n : Nat) (l : List Ed) (c1 : Addr) (w : World) (hl : l.length = n) (h : RdX w w.heap.size E l) (hn : n ≤ 4611686018427387903)
  (hp : ∀ x w', Below w.heap.size w w' → Calls Tryd.prog 49 #[.agg #[.int .i64 x.f, .int .i64 x.e, .int .i64 x.t], .pointer (some c1)] w' fun e w'' => e = .returned (.bool (p x)) ∧ Below w'.heap.size w' w'') :
  Calls Tryd.prog 48 #[.slice E n c, .func (.func 49) #[] #[.pointer (some c1)]] w fun e w' => e = .returned (.int .i64 (idxP p l)) ∧ Below w.heap.size w w' := by
 obtain ⟨R, hR⟩ : ∃ R, idxP p l = R := ⟨_, rfl⟩
 rw [hR]
 have HR := Lib.hid hR; clear hR
 have HL := Lib.hid hl; clear hl
 have HP := Lib.hid hp; clear hp
 go_enter Tryd.func48, Tryd.ntmps48
 go_wp2
 go_loopw [8] (fun s8 wr => ∃ k : Nat, k ≤ n ∧ s8 = .int .i64 k ∧ Hid (∀ j y, j < k → l[j]? = some y → p y = false) ∧ Below w.heap.size w wr) (fun s8 _ => n - (intOf s8).toNat)
 case atStart => exact ⟨0, Nat.zero_le _, rfl, Lib.hid (fun j y hj => by omega), Below.refl _ _⟩
 case round =>
  obtain ⟨k, hk, rfl, HX, hbel⟩ := hrel
  have hsz := hbel.size
  by_cases hlt : k < n
  ·obtain ⟨ad, y, rfl, hbb, hy, hcell⟩ := ((h.below hbel).more hsz).get (k := k) (by have := HL.out; omega)
   have b1 : (k : Int) < (n : Int) := by omega
   have HC := Lib.hid (HP.out y wr hbel)
   have HY := Lib.hid hy; clear hy
   have q0 : wr.cell? (ad.add (k * 3)) = some (.int .i64 y.f) := hcell 0 _ rfl
   have q1 : wr.cell? ⟨(ad.add (k * 3)).block, (ad.add (k * 3)).off + 1, none⟩ = some (.int .i64 y.e) := st_cells (j := 0) (hcell 1 _ rfl)
   have q2 : wr.cell? ⟨(ad.add (k * 3)).block, (ad.add (k * 3)).off + 2, none⟩ = some (.int .i64 y.t) := st_cells (j := 1) (hcell 2 _ rfl)
   clear hcell
   cases hq : p y with
   | true =>
    rw [hq] at HC
    have he : R = (k : Int) := by rw [← HR.out]; exact idxP_at HY.out hq HX.out
    have HE := Lib.hid he; clear he
    clear hq
    go_wp2_with fail
    refine HC.out.mono ?_
    rintro e w1 ⟨rfl, hb1⟩
    have hbel1 := hbel.trans (hb1.mono hsz)
    clear q0 q1 q2
    go_wp2
    go_ret
    exact ⟨by rw [HE.out]; rfl, hbel1⟩
   | false =>
    rw [hq] at HC
    have HX2 := Lib.hid (show ∀ j z, j < k + 1 → l[j]? = some z → p z = false from fun j z hj hz => by
     rcases Nat.lt_or_ge j k with h1 | h1
     ·exact HX.out j z h1 hz
     ·obtain rfl : j = k := by omega
      rw [HY.out] at hz; injection hz with hz; subst hz; exact hq)
    clear hq
    go_wp2_with fail
    refine HC.out.mono ?_
    rintro e w1 ⟨rfl, hb1⟩
    have hbel1 := hbel.trans (hb1.mono hsz)
    clear q0 q1 q2
    go_wp2
    go_roundw
    case rel => exact ⟨k + 1, by omega, by go_num, HX2, hbel1⟩
    case measure => simp [intOf]; omega
  ·have he : R = -1 := by
    rw [← HR.out]
    refine idxP_none fun x hx => ?_
    obtain ⟨j, hj⟩ := List.getElem?_of_mem hx
    exact HX.out j x (by have := (List.getElem?_eq_some_iff.1 hj).1; have := HL.out; omega) hj
   have HE := Lib.hid he; clear he
   go_wp2
   go_ret
   exact ⟨by rw [HE.out]; rfl, hbel⟩
end Go.Proofs.YtcchnibgehonoaaDoor

/- Walks: controllable.Invariant. -/
namespace Go.Proofs.YtcchnibgehonoaaDoor
open Go.RowKit Go Go.Maps

end Go.Proofs.YtcchnibgehonoaaDoor
