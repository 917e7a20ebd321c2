/- Walks: slices.Equal at edges, automaton.Equal; the law's same, sameAll, none. -/
import Derived.Test.YtioijhpbedmeaaaGreatDoorSa
import Derived.Test.YtioijhpbedmeaaaGreatDoorAa
import Derived.Test.YtioijhpbedmeaaaGreatDoorMh
import Derived.Test.YtioijhpbedmeaaaGreatDoorMa
import Derived.Test.YtioijhpbedmeaaaGreatDoorQa
namespace Go.Proofs.YtioijhpbedmeaaaGreatDoor
open Go.RowKit Go

def eqE (a b : List Ed) : Bool := decide (a = b)
theorem eqE_ne {a b : List Ed} {k : Nat} {x y : Ed} (ha : a[k]? = some x) (hb : b[k]? = some y) (h : x ≠ y) : eqE a b = false := by
  unfold eqE; rw [decide_eq_false_iff_not]; rintro rfl; rw [ha] at hb; injection hb with hb; exact h hb
theorem eqE_len {a b : List Ed} (h : a.length ≠ b.length) : eqE a b = false := by
  unfold eqE; rw [decide_eq_false_iff_not]; rintro rfl; exact h rfl
theorem eqE_of {a b : List Ed} (h : a = b) : eqE a b = true := by unfold eqE; rw [decide_eq_true_iff]; exact h
theorem take_eq_snocE {a b : List Ed} {k : Nat} {x : Ed} (ha : a[k]? = some x) (hb : b[k]? = some x) (h : a.take k = b.take k) : a.take (k + 1) = b.take (k + 1) := by rw [take_snoc' ha, take_snoc' hb, h]
theorem eq_of_dropE {a b : List Ed} (hl : a.length = b.length) {k : Nat} (h : a.take k = b.take k) (hk : ¬ k < a.length) : a = b := by
  rwa [List.take_of_length_le (by omega), List.take_of_length_le (by omega)] at h
theorem neqE_run (a b c d e f : Int) (W : World) : (binOp .neq 49 (.agg #[.int .i64 a, .int .i64 b, .int .i64 c]) (.agg #[.int .i64 d, .int .i64 e, .int .i64 f])).run Tryz.prog W = .ok (.bool (!(a == d && b == e && c == f))) W := by
  have u3 := Tryz.underlying3
  have a3 := Tryz.isAgg3
  have z3 := Tryz.sizeOf3
  have hS : Tryz.prog.underlying 49 = some (.struct (Tryz.prog.fieldsOf 49)) := by kernel_rfl
  have hp : Tryz.prog.stoodInHeld 49 = false := by kernel_rfl
  rw [run_neq_struct, show (10000 : Nat) = 9999 + 1 from rfl, run_equalIn_agg W 9999 49 _ _ hS hp]
  simp only [Program.fieldsOf, Tryz.underlying49]
  go_simp
  by_cases h1 : a = d <;> by_cases h2 : b = e <;> by_cases h3 : c = f <;> simp [h1, h2, h3]
set_option maxHeartbeats 800000 in
theorem slices_EqualE (A B : Option Addr) (c d na nb : Nat) (a b : List Ed) (q : Bool) (w : World) (hla : a.length = na) (hlb : b.length = nb) (hq : eqE a b = q) (ha : RdX w w.heap.size A a) (hac : na ≤ c) (hc : c ≤ 9223372036854775807)
    (hb : RdX w w.heap.size B b) :
    Calls Tryz.prog 50 #[.slice A na c, .slice B nb d] w fun e w' => e = .returned (.bool q) ∧ ∃ n, w' = w.drewN n := by
  by_cases hl : na = nb
  · subst hl
    have HLA := Lib.hid hla; clear hla
    have HLB := Lib.hid hlb; clear hlb
    have HQ := Lib.hid hq; clear hq
    go_enter Tryz.func50, Tryz.ntmps50
    go_wp2
    go_loopw [13] (fun i wr => ∃ k : Nat, k ≤ na ∧ i = .int .i64 k ∧ Hid (a.take k = b.take k) ∧ ∃ n, wr = w.drewN n) (fun i _ => na - (intOf i).toNat)
    case atStart => exact ⟨0, Nat.zero_le _, rfl, Lib.hid rfl, (by first | exact dr00 _ | exact dr0 _ _ | exact dr1 _ _ _ | exact dr2 _ _ _ _ | exact dr3 _ _ _ _ _)⟩
    case round =>
      obtain ⟨k, hk, rfl, HX, n, rfl⟩ := hrel
      by_cases hlt : k < na
      · obtain ⟨ad, x, rfl, _, hx, p0, p1, p2⟩ := ha.at_ (k := k) (by have := HLA.out; omega)
        obtain ⟨bd, y, rfl, _, hy, q0, q1, q2⟩ := hb.at_ (k := k) (by have := HLB.out; omega)
        have b1 : (k : Int) < (na : Int) := by omega
        have g1 := st_cells (j := 0) p1
        have g2 := st_cells (j := 1) p2
        have j1 := st_cells (j := 0) q1
        have j2 := st_cells (j := 1) q2
        clear p1 p2 q1 q2
        obtain ⟨xf, xe, xt⟩ := x
        obtain ⟨yf, ye, yt⟩ := y
        simp only at p0 g1 g2 q0 j1 j2
        have HXX := Lib.hid hx; clear hx
        have HYY := Lib.hid hy; clear hy
        by_cases e1 : xf = yf
        · subst e1
          by_cases e2 : xe = ye
          · subst e2
            by_cases e3 : xt = yt
            · subst e3
              go_wp2
              go_quiet (fail)
              go_wp2
              go_roundw
              case rel => exact ⟨k + 1, by omega, by go_num, Lib.hid (take_eq_snocE HXX.out HYY.out HX.out), (by first | exact dr00 _ | exact dr0 _ _ | exact dr1 _ _ _ | exact dr2 _ _ _ _ | exact dr3 _ _ _ _ _)⟩
              case measure => simp [intOf]; omega
            · go_wp2
              go_quiet (fail)
              go_wp2
              go_ret
              exact ⟨ret_bool (HQ.out.symm.trans (eqE_ne HXX.out HYY.out (by simp only [ne_eq, Ed.mk.injEq]; omega))).symm, (by first | exact dr00 _ | exact dr0 _ _ | exact dr1 _ _ _ | exact dr2 _ _ _ _ | exact dr3 _ _ _ _ _)⟩
          · go_wp2
            go_quiet (fail)
            go_wp2
            go_ret
            exact ⟨ret_bool (HQ.out.symm.trans (eqE_ne HXX.out HYY.out (by simp only [ne_eq, Ed.mk.injEq]; omega))).symm, (by first | exact dr00 _ | exact dr0 _ _ | exact dr1 _ _ _ | exact dr2 _ _ _ _ | exact dr3 _ _ _ _ _)⟩
        · go_wp2
          go_quiet (fail)
          go_wp2
          go_ret
          exact ⟨ret_bool (HQ.out.symm.trans (eqE_ne HXX.out HYY.out (by simp only [ne_eq, Ed.mk.injEq]; omega))).symm, (by first | exact dr00 _ | exact dr0 _ _ | exact dr1 _ _ _ | exact dr2 _ _ _ _ | exact dr3 _ _ _ _ _)⟩
      · have hf := HQ.out.symm.trans (eqE_of (eq_of_dropE (HLA.out.trans HLB.out.symm) HX.out (by rw [HLA.out]; exact hlt)))
        have HF := Lib.hid hf; clear hf
        go_wp2
        go_ret
        exact ⟨ret_bool HF.out.symm, (by first | exact dr00 _ | exact dr0 _ _ | exact dr1 _ _ _ | exact dr2 _ _ _ _ | exact dr3 _ _ _ _ _)⟩
  · have hl1 : ((na : Int) != (nb : Int)) = true := by rw [bne_iff_ne]; omega
    have hf := hq.symm.trans (eqE_len (by rw [hla, hlb]; exact hl))
    have HF := Lib.hid hf; clear hf
    clear hq hla hlb
    go_enter Tryz.func50, Tryz.ntmps50
    go_wp2
    go_ret
    exact ⟨ret_bool HF.out.symm, (by first | exact dr00 _ | exact dr0 _ _ | exact dr1 _ _ _ | exact dr2 _ _ _ _ | exact dr3 _ _ _ _ _)⟩

def eqA (a b : Aut) : Bool := decide (a = b)
theorem eqA_of {a b : Aut} (h : a = b) : eqA a b = true := by unfold eqA; rw [decide_eq_true_iff]; exact h
theorem eqA_def (a b : Aut) : eqA a b = (decide (a.st = b.st) && eqB a.al b.al && eqB a.ma b.ma && eqE a.ed b.ed) := by
  obtain ⟨a1, a2, a3, a4⟩ := a
  obtain ⟨b1, b2, b3, b4⟩ := b
  unfold eqA eqB eqE
  rw [Bool.eq_iff_iff]
  simp only [decide_eq_true_iff, Bool.and_eq_true, Aut.mk.injEq]
  constructor
  · rintro ⟨h1, h2, h3, h4⟩; simp [*]
  · rintro ⟨⟨⟨h1, h2⟩, h3⟩, h4⟩; simp [*]
set_option maxRecDepth 100000 in
set_option maxHeartbeats 800000 in
theorem automaton_Equal (A M E A' M' E' : Option Addr) (na ca nm cm ne ce na' ca' nm' cm' ne' ce' : Nat) (a b : Aut) (q : Bool) (w : World) (hq : eqA a b = q)
    (ha : AutR w w.heap.size A na ca M nm cm E ne ce a) (hb : AutR w w.heap.size A' na' ca' M' nm' cm' E' ne' ce' b) :
    Calls Tryz.prog 18 #[.agg #[.slice A na ca, .int .i64 a.st, .slice M nm cm, .slice E ne ce], .agg #[.slice A' na' ca', .int .i64 b.st, .slice M' nm' cm', .slice E' ne' ce']] w fun e w' => e = .returned (.bool q) ∧ Below w.heap.size w w' := by
  obtain ⟨q1, e1⟩ : ∃ q1, q1 = eqB a.al b.al := ⟨_, rfl⟩
  obtain ⟨q2, e2⟩ : ∃ q2, q2 = eqB a.ma b.ma := ⟨_, rfl⟩
  obtain ⟨q3, e3⟩ : ∃ q3, q3 = eqE a.ed b.ed := ⟨_, rfl⟩
  obtain ⟨x, hx⟩ : ∃ x, x = a.st := ⟨_, rfl⟩
  obtain ⟨y, hy⟩ : ∃ y, y = b.st := ⟨_, rfl⟩
  have hr := eqA_def a b
  rw [hq, ← e1, ← e2, ← e3, ← hx, ← hy] at hr
  rw [← hx, ← hy]
  have HR := Lib.hid hr; clear hr
  have hB := (box_below w (.cells #[.slice A na ca, .int .i64 x, .slice M nm cm, .slice E ne ce] 33)).trans ((box_below _ (.cells #[.slice A' na' ca', .int .i64 y, .slice M' nm' cm', .slice E' ne' ce'] 33)).mono (by simp))
  obtain ⟨W, hW⟩ : ∃ W, W = ((w.alloc (.cells #[.slice A na ca, .int .i64 x, .slice M nm cm, .slice E ne ce] 33)).alloc (.cells #[.slice A' na' ca', .int .i64 y, .slice M' nm' cm', .slice E' ne' ce'] 33)) := ⟨_, rfl⟩
  rw [← hW] at hB
  have C1 : ∀ n, Calls Tryz.prog 24 #[.slice A na ca, .slice A' na' ca'] (W.drewN n) fun e w' => e = .returned (.bool q1) ∧ ∃ n, w' = W.drewN n := fun n => (slices_Equal_n _ _ _ _ _ _ _ _ q1 (W.drewN n) ha.la hb.la e1.symm ((ha.ra.below hB).more hB.size) ha.ac ha.cA ((hb.ra.below hB).more hB.size)).mono fun _ _ ⟨h1, m, h2⟩ => ⟨h1, n + m, by rw [h2, World.drewN_drewN]⟩
  have C2 : ∀ n, Calls Tryz.prog 24 #[.slice M nm cm, .slice M' nm' cm'] (W.drewN n) fun e w' => e = .returned (.bool q2) ∧ ∃ n, w' = W.drewN n := fun n => (slices_Equal_n _ _ _ _ _ _ _ _ q2 (W.drewN n) ha.lm hb.lm e2.symm ((ha.rm.below hB).more hB.size) ha.mc ha.cM ((hb.rm.below hB).more hB.size)).mono fun _ _ ⟨h1, m, h2⟩ => ⟨h1, n + m, by rw [h2, World.drewN_drewN]⟩
  have C3 : ∀ n, Calls Tryz.prog 50 #[.slice E ne ce, .slice E' ne' ce'] (W.drewN n) fun e w' => e = .returned (.bool q3) ∧ ∃ n, w' = W.drewN n := fun n => (slices_EqualE _ _ _ _ _ _ _ _ q3 (W.drewN n) ha.le hb.le e3.symm ((ha.re.below hB).more hB.size) ha.ec ha.cE ((hb.re.below hB).more hB.size)).mono fun _ _ ⟨h1, m, h2⟩ => ⟨h1, n + m, by rw [h2, World.drewN_drewN]⟩
  subst hW
  have HC1 := Lib.hid C1; clear C1
  have HC2 := Lib.hid C2; clear C2
  have HC3 := Lib.hid C3; clear C3
  have HB := Lib.hid hB; clear hB
  clear hx hy hq ha hb
  have E1 := Lib.hid e1; clear e1
  have E2 := Lib.hid e2; clear e2
  have E3 := Lib.hid e3; clear e3
  go_enter Tryz.func18, Tryz.ntmps18
  by_cases hst : x = y
  · subst hst
    go_wp2_with fail
    refine (HC1.out 0).mono ?_
    rintro e w' ⟨rfl, n1, rfl⟩
    cases q1 with
    | false =>
      go_wp2
      go_ret
      exact ⟨ret_bool (HR.out.trans (by simp)).symm, below_drewN HB.out _⟩
    | true =>
      go_wp2_with fail
      refine (HC2.out n1).mono ?_
      rintro e w' ⟨rfl, n2, rfl⟩
      cases q2 with
      | false =>
        go_wp2
        go_ret
        exact ⟨ret_bool (HR.out.trans (by simp)).symm, below_drewN HB.out _⟩
      | true =>
        go_wp2_with fail
        refine (HC3.out n2).mono ?_
        rintro e w' ⟨rfl, n3, rfl⟩
        go_wp2
        go_ret
        exact ⟨ret_bool (HR.out.trans (by simp)).symm, below_drewN HB.out _⟩
  · go_wp2
    go_ret
    exact ⟨ret_bool (HR.out.trans (by simp [hst])).symm, HB.out⟩

theorem quiet_add {P : Program} {f : FuncId} {args : Array Value} {w : World} {a n : Nat} {v : Value} (h : Calls P f args (w.drewN (a + n)) fun e w' => e = .returned v ∧ ∃ m, w' = (w.drewN (a + n)).drewN m) :
    Calls P f args (w.drewN (a + n)) fun e w' => e = .returned v ∧ ∃ m, w' = w.drewN (a + m) :=
  h.mono fun _ _ ⟨he, m, hm⟩ => ⟨he, n + m, by rw [hm, World.drewN_drewN, Nat.add_assoc]⟩

def sameB (a b : List (List Int)) : Bool := decide (a = b)
theorem sameB_ne {a b : List (List Int)} {k : Nat} {x y : List Int} (ha : a[k]? = some x) (hb : b[k]? = some y) (h : x ≠ y) : sameB a b = false := by
  unfold sameB; rw [decide_eq_false_iff_not]; rintro rfl; rw [ha] at hb; exact h (by injection hb)
theorem sameB_len {a b : List (List Int)} (h : a.length ≠ b.length) : sameB a b = false := by
  unfold sameB; rw [decide_eq_false_iff_not]; rintro rfl; exact h rfl
theorem sameB_of {a b : List (List Int)} (h : a = b) : sameB a b = true := by unfold sameB; rw [decide_eq_true_iff]; exact h

end Go.Proofs.YtioijhpbedmeaaaGreatDoor




/- Walks: the law's two, none; what is read of blocks written out. -/
namespace Go.Proofs.YtioijhpbedmeaaaGreatDoor
open Go.RowKit Go Go.Maps

section
variable {w : World} {b : Nat} {t : TypeId} {vs : List Value}
theorem Blk.al (h : Blk w b t vs) (o : Obj) : Blk (w.alloc o) b t vs := h.below (box_below _ _) h.lt
theorem Blk.at_ (w : World) (t : TypeId) (vs : List Value) (h : w.heap.size = b) : Blk (w.alloc (.cells vs.toArray t)) b t vs := by subst h; exact Blk.new _ _ _
theorem Blk.rdv (h : Blk w b t vs) : RdV w w.heap.size (some ⟨b, 0, none⟩) vs := fun k u hu => ⟨_, rfl, h.lt, by rw [add_lit0]; exact h.cell hu⟩
theorem Blk.rdi {l : List Int} (h : Blk w b t (iv l)) : RdI w w.heap.size (some ⟨b, 0, none⟩) l := h.rdv
theorem Blk.rdr {α : Type} {f : α → List Value} {sz : Nat} {l : List α} (hs : ∀ x ∈ l, (f x).length = sz) (h : Blk w b t (l.flatMap f)) : RdR sz f w w.heap.size (some ⟨b, 0, none⟩) l := fun k x hx =>
  ⟨_, rfl, h.lt, fun j u hj => by rw [add_lit0]; exact h.cell (flat_get f sz l hs k x j u hx hj)⟩
theorem Blk.rdx {l : List Ed} (h : Blk w b t (l.flatMap edc)) : RdX w w.heap.size (some ⟨b, 0, none⟩) l := Blk.rdr (fun _ _ => rfl) h
theorem Blk.rdl {l : List AV} (h : Blk w b t (l.flatMap avc)) : RdR 4 avc w w.heap.size (some ⟨b, 0, none⟩) l := Blk.rdr (fun _ _ => rfl) h
end

end Go.Proofs.YtioijhpbedmeaaaGreatDoor

/- Walks: product.Compose with a fresh result, at few automata. -/
namespace Go.Proofs.YtioijhpbedmeaaaGreatDoor
open Go.RowKit Go Go.Maps

theorem syn_few {l : List Aut} (h : ∀ a ∈ l, Sm a) (hl : l.length ≤ 3) : (∃ a T, synR l = some (a, T)) ∧ (noSt l = false → ¬ Many 4096 (stp l) (evs l) (ini l)) := by
  have hw : ∀ a ∈ l, WF a := fun a ha => (h a ha).wf
  have hp : prodN l ≤ 4096 := Nat.le_trans (prodN_few h hl) (by omega)
  refine ⟨?_, fun hn hm => not_many (box l) (by rw [box_len]; exact hp) (fun x hx => box_mem.2 (rch_tup hw hn hx)) hm⟩
  unfold synR
  by_cases hn : noSt l = true
  · rw [if_pos hn]; exact ⟨_, _, rfl⟩
  · rw [if_neg hn]
    obtain ⟨s, hs, _⟩ := synS_some hw (by simpa using hn) hp
    rw [hs]; exact ⟨_, _, rfl⟩
/-- what the walks want of a few small automata -/
structure FewL (l : List Aut) : Prop where
  chk : chkL l = 0
  st : ∀ a ∈ l, a.st ≤ 100
  wf : ∀ a ∈ l, WF a
  len : l.length ≤ 3
  syn : ∃ a T, synR l = some (a, T)
  nm : noSt l = false → ¬ Many 4096 (stp l) (evs l) (ini l)
theorem few_of {l : List Aut} (h : ∀ a ∈ l, Sm a) (hl : l.length ≤ 3) : FewL l :=
  ⟨sm_chk h hl, fun a ha => by have := (h a ha).st; omega, fun a ha => (h a ha).wf, hl, (syn_few h hl).1, (syn_few h hl).2⟩
theorem lst_few {ps : List Pt} (h : ∀ p ∈ ps, p.ok) : FewL (lstA ps) := few_of (lstA_sm h) (by rw [lstA_len]; omega)

/-- what the walks want of a few automata -/
theorem FewL.of_prod {l : List Aut} (hw : ∀ a ∈ l, WF a) (hs : ∀ a ∈ l, a.st ≤ 100) (hl : l.length ≤ 3) (hp : prodN l ≤ 4096) : FewL l := by
  refine ⟨chkL_mk (by omega) hw, hs, hw, hl, ?_, fun hn hm => not_many (box l) (by rw [box_len]; exact hp) (fun x hx => box_mem.2 (rch_tup hw hn hx)) hm⟩
  unfold synR
  by_cases hn : noSt l = true
  · rw [if_pos hn]; exact ⟨_, _, rfl⟩
  · rw [if_neg hn]
    obtain ⟨s, hs, _⟩ := synS_some hw (by simpa using hn) hp
    rw [hs]; exact ⟨_, _, rfl⟩
theorem AutR.ok {w : World} {B : Nat} {A : Option Addr} {na ca : Nat} {M : Option Addr} {nm cm : Nat} {E : Option Addr} {ne ce : Nat} {a : Aut} (h : AutR w B A na ca M nm cm E ne ce a) : (AV.mk A na ca M nm cm E ne ce a).ok w B := h
theorem two_rdl {w : World} {b : Nat} {x y : AV} (h : Blk w b 33 (avc x ++ avc y)) (hx : x.ok w w.heap.size) (hy : y.ok w w.heap.size) : RdL w w.heap.size (some ⟨b, 0, none⟩) [x, y] :=
  ⟨Blk.rdl (by simpa using h), fun z hz => by
    rcases List.mem_cons.1 hz with rfl | hz
    · exact hx
    · obtain rfl := List.mem_singleton.1 hz; exact hy⟩
end Go.Proofs.YtioijhpbedmeaaaGreatDoor
