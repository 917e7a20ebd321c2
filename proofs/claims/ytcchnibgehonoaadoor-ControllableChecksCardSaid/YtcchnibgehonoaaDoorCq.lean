/- Walks: Check, Refusals, Supremal, Infimal at a wrong problem. -/
import Derived.Test.YtcchnibgehonoaaDoorCi
import Derived.Test.YtcchnibgehonoaaDoorGa
namespace Go.Proofs.YtcchnibgehonoaaDoor
open Go.RowKit Go Go.Maps

end Go.Proofs.YtcchnibgehonoaaDoor

/- Walks: Refusals at a right problem. -/
namespace Go.Proofs.YtcchnibgehonoaaDoor
open Go.RowKit Go Go.Maps

/-- two rows of ints that grow apart from each other -/
structure TwoR (B : Nat) (w0 w : World) (v1 v2 : Value) (n1 n2 : Nat) (l1 l2 : List Int) : Prop where
 bel : Below B w0 w
 siz : B ≤ w.heap.size
 o1 : w.ownsRow B 3 1 v1 n1 (iv l1)
 o2 : w.ownsRow B 3 1 v2 n2 (iv l2)
 e1 : l1.length = n1
 e2 : l2.length = n2
 apt : ∀ g, v1.ownBlock = some g → v2.ownBlock ≠ some g
section
variable {B : Nat} {w0 w w' : World} {v1 v2 : Value} {n1 n2 : Nat} {l1 l2 : List Int}
theorem TwoR.swap (h : TwoR B w0 w v1 v2 n1 n2 l1 l2) : TwoR B w0 w v2 v1 n2 n1 l2 l1 := ⟨h.bel, h.siz, h.o2, h.o1, h.e2, h.e1, fun g h1 h2 => h.apt g h2 h1⟩
theorem TwoR.quiet (h : TwoR B w0 w v1 v2 n1 n2 l1 l2) (hb : Below w.heap.size w w') : TwoR B w0 w' v1 v2 n1 n2 l1 l2 :=
 ⟨h.bel.trans (hb.mono h.siz), Nat.le_trans h.siz hb.size, own_below h.o1 hb, own_below h.o2 hb, h.e1, h.e2, h.apt⟩
theorem TwoR.push (h : TwoR B w0 w v1 v2 n1 n2 l1 l2) {A : Option Addr} {c : Nat} {i : Int} (ho : w'.ownsRow B 3 1 (.slice A (n1 + 1) c) (n1 + 1) (iv l1 ++ [.int .i64 i])) (hg : w.grownBy w' v1.ownBlock)
  (hl : (Value.slice A (n1 + 1) c).ownBlock = v1.ownBlock ∨ ∃ g, (Value.slice A (n1 + 1) c).ownBlock = some g ∧ w.heap.size ≤ g) : TwoR B w0 w' (.slice A (n1 + 1) c) v2 (n1 + 1) n2 (l1 ++ [i]) l2 := by
 refine ⟨h.bel.grown hg h.siz (fun j hj => (h.o1.lt j hj).1), Nat.le_trans h.siz hg.size, by rw [iv_append]; exact ho, own_far h.o2 hg (fun g e1 e2 => h.apt g e2 e1), by simp [h.e1], h.e2, fun g hg1 hg2 => ?_⟩
 rcases hl with hl | ⟨g', hl, hle⟩
 ·rw [hl] at hg1; exact h.apt g hg1 hg2
 ·rw [hl] at hg1; injection hg1 with hg1
  have := (h.o2.lt g hg2).2
  omega
theorem TwoR.start (w : World) : TwoR w.heap.size w w (.slice none 0 0) (.slice none 0 0) 0 0 [] [] :=
 ⟨Below.refl _ _, Nat.le_refl _, World.ownsRow_nil _ _ _ _, World.ownsRow_nil _ _ _ _, rfl, rfl, fun g hg => by simp [Value.ownBlock] at hg⟩
end
/-- two lists of the call's own, without an error -/
def RetTwo (l1 l2 : List Int) (w : World) (e : Ending) (w' : World) : Prop := ∃ v1 v2, e = .returned (.tuple #[v1, v2, .int .i64 0]) ∧ w'.ownsRow w.heap.size 3 1 v1 l1.length (iv l1) ∧ w'.ownsRow w.heap.size 3 1 v2 l2.length (iv l2) ∧ Below w.heap.size w w'

set_option maxRecDepth 100000 in
set_option maxHeartbeats 3200000 in
theorem refusals_ok (A M E A' M' E' : Option Addr) (na ca nm cm ne ce na' ca' nm' cm' ne' ce' : Nat) (P R : Aut) (U : Option Addr) (cu nu : Nat) (u : List Int) (w : World) (hx : AutR w w.heap.size A na ca M nm cm E ne ce P) (hy : AutR w w.heap.size A' na' ca' M' nm' cm' E' ne' ce' R)
  (hul : u.length = nu) (hu : RdI w w.heap.size U u) (hu1 : nu ≤ cu) (hu2 : cu ≤ 9223372036854775807) (p : Aut) (T : List (List Int)) (hp : Prob P R u p T) (n : Nat) (hn : T.length = n) :
  Calls Tryd.prog 15 #[.agg #[.slice A na ca, .int .i64 P.st, .slice M nm cm, .slice E ne ce], .agg #[.slice A' na' ca', .int .i64 R.st, .slice M' nm' cm', .slice E' ne' ce'], .slice U nu cu] w (RetTwo (badI P R (intS u P.al) T n) (badU P R (intS u P.al) T n) w) := by
 obtain ⟨sp, hsp⟩ : ∃ s, P.st = s := ⟨_, rfl⟩
 obtain ⟨sr, hsr⟩ : ∃ s, R.st = s := ⟨_, rfl⟩
 rw [hsp, hsr]
 have hb1 := box_below w (.cells #[.slice A na ca, .int .i64 sp, .slice M nm cm, .slice E ne ce] 25)
 have hb2 := hb1.alloc hb1.size (.cells #[.slice A' na' ca', .int .i64 sr, .slice M' nm' cm', .slice E' ne' ce'] 25)
 obtain ⟨w1, hw1⟩ : ∃ w1, w1 = (w.alloc (.cells #[.slice A na ca, .int .i64 sp, .slice M nm cm, .slice E ne ce] 25)).alloc (.cells #[.slice A' na' ca', .int .i64 sr, .slice M' nm' cm', .slice E' ne' ce'] 25) := ⟨_, rfl⟩
 rw [← hw1] at hb2
 have HC := Lib.hid (ctl_open_ok A M E A' M' E' na ca nm cm ne ce na' ca' nm' cm' ne' ce' P R U cu nu u w1 ((hx.below hb2).more hb2.size) ((hy.below hb2).more hb2.size) hul ((hu.below hb2).more hb2.size) hu1 hu2 p T hp)
 rw [hsp, hsr] at HC
 have hst : p.st = (n : Int) := by rw [hp.tups.1, hn]
 have hn4 : n ≤ 3600 := by rw [← hn]; exact hp.len
 have HW1 := Lib.hid hw1; clear hw1
 have HB1 := Lib.hid hb2; clear hb2
 have HP := Lib.hid hp; clear hp
 have HN := Lib.hid hn; clear hn
 have HST := Lib.hid hst; clear hst
 clear hb1 hx hy hu hsp hsr hul
 go_enter Tryd.func15, Tryd.ntmps15
 go_wp2_with fail
 rw [← HW1.out]
 refine HC.out.mono ?_
 rintro e w2 ⟨b, v, rfl, hb0, hpr, hb⟩
 have HB := Lib.hid (HB1.out.trans (hb.mono HB1.out.size))
 have c5 : w2.cell? ⟨b, 5, none⟩ = some (.int .i64 (n : Int)) := by
  have := hpr.blk.cell (j := 5) rfl
  rw [hpr.xa, HST.out] at this
  exact this
 have HT0 := Lib.hid (show TwoR w2.heap.size w2 w2 (.slice none 0 0) (.slice none 0 0) 0 0 (badI P R (intS u P.al) T 0) (badU P R (intS u P.al) T 0) from TwoR.start w2)
 have HPR := Lib.hid hpr; clear hpr
 clear hb HC hb0
 go_wp2
 clear c5
 go_loopw [6, 7, 27] (fun s6 s7 s27 wr => ∃ (k ns : Nat) (A1 A2 : Option Addr) (c1 c2 : Nat), s6 = .slice A1 ns c1 ∧ s7 = .slice A2 ns c2 ∧ s27 = .int .i64 k ∧ k ≤ n ∧ ns ≤ k ∧ Hid (TwoR w2.heap.size w2 wr (.slice A1 ns c1) (.slice A2 ns c2) ns ns (badI P R (intS u P.al) T k) (badU P R (intS u P.al) T k))) (fun _ _ s27 _ => n - (intOf s27).toNat)
 case atStart => exact ⟨0, 0, none, none, 0, 0, rfl, rfl, rfl, Nat.zero_le _, Nat.le_refl _, HT0⟩
 case round =>
  clear HT0
  obtain ⟨k, ns, A1, A2, c1, c2, rfl, rfl, rfl, hk, hns, HT⟩ := hrel
  by_cases hlt : k < n
  ·have b1 : (k : Int) < (n : Int) := by omega
   obtain ⟨t, ht⟩ : ∃ t, T[k]? = some t := ⟨_, List.getElem?_eq_getElem (by rw [HN.out]; exact hlt)⟩
   obtain ⟨q, hq⟩ : ∃ q, refT P R (intS u P.al) t = q := ⟨_, rfl⟩
   have HR := Lib.hid (refused_at HP.out b v k t wr (HPR.out.below HT.out.bel) ht q hq)
   have HTK := Lib.hid ht; clear ht
   have HQ := Lib.hid hq; clear hq
   by_cases h0 : 0 ≤ q
   ·have d1 : decide (0 ≤ q) = true := decide_eq_true h0
    have HI := Lib.hid (show badI P R (intS u P.al) T (k + 1) = badI P R (intS u P.al) T k ++ [(k : Int)] by rw [badI_snoc P R _ T HTK.out, HQ.out, if_pos h0])
    have HU := Lib.hid (show badU P R (intS u P.al) T (k + 1) = badU P R (intS u P.al) T k ++ [q] by rw [badU_snoc P R _ T HTK.out, HQ.out, if_pos h0])
    clear h0
    go_wp2_with fail
    refine HR.out.mono ?_
    rintro e w5 ⟨rfl, hb5⟩
    have HT5 := Lib.hid (HT.out.quiet hb5)
    have hbs : w2.heap.size ≤ w5.heap.size := HT5.out.siz
    clear hb5 HR HT
    go_wp2_with (first
     | (at_builtin; refine wpList_pushA w5 [.int .i64 (k : Int)] rfl (.tmp 35) (.tmp 37) 22 rfl w2.heap.size 3 (.int .i64 0) 1 8 Tryd.underlying22 int_info rfl (by decide) rfl (.slice A1 ns c1) ns _ rfl HT5.out.o1 rfl (fun z hz => by simp at hz; subst hz; rfl) (by omega) (by omega) hbs ?_; intro A3 c3 w6 ho6 hg6 hl6; have HT6 := Lib.hid (HT5.out.push ho6 hg6 hl6); have hbs6 : w2.heap.size ≤ w6.heap.size := HT6.out.siz; clear ho6 hg6 hl6)
     | (at_builtin; refine wpList_pushA w6 [.int .i64 q] rfl (.tmp 39) (.tmp 41) 22 rfl w2.heap.size 3 (.int .i64 0) 1 8 Tryd.underlying22 int_info rfl (by decide) rfl (.slice A2 ns c2) ns _ rfl HT6.out.o2 rfl (fun z hz => by simp at hz; subst hz; rfl) (by omega) (by omega) hbs6 ?_; intro A4 c4 w7 ho7 hg7 hl7; have HT7 := Lib.hid (HT6.out.swap.push ho7 hg7 hl7).swap; clear ho7 hg7 hl7))
    have hT7 := HT7.out
    rw [← HI.out, ← HU.out] at hT7
    have HT8 := Lib.hid hT7; clear hT7
    go_roundw
    case rel => exact ⟨k + 1, ns + 1, A3, A4, c3, c4, rfl, rfl, by go_num, by omega, by omega, HT8⟩
    case measure => simp [intOf]; omega
   ·have d1 : decide (0 ≤ q) = false := decide_eq_false h0
    have HI := Lib.hid (show badI P R (intS u P.al) T (k + 1) = badI P R (intS u P.al) T k by rw [badI_snoc P R _ T HTK.out, HQ.out, if_neg h0, List.append_nil])
    have HU := Lib.hid (show badU P R (intS u P.al) T (k + 1) = badU P R (intS u P.al) T k by rw [badU_snoc P R _ T HTK.out, HQ.out, if_neg h0, List.append_nil])
    clear h0
    go_wp2_with fail
    refine HR.out.mono ?_
    rintro e w5 ⟨rfl, hb5⟩
    have hT5 := HT.out.quiet hb5
    rw [← HI.out, ← HU.out] at hT5
    have HT5 := Lib.hid hT5; clear hT5
    clear hb5 HR HT
    go_wp2
    go_roundw
    case rel => exact ⟨k + 1, ns, A1, A2, c1, c2, rfl, rfl, by go_num, by omega, by omega, HT5⟩
    case measure => simp [intOf]; omega
  ·obtain rfl : k = n := by omega
   have hf := HB.out.trans (HT.out.bel.mono HB.out.size)
   have o1 := own_base (base := w.heap.size) HT.out.o1 HB.out.size
   have o2 := own_base (base := w.heap.size) HT.out.o2 HB.out.size
   have HE1 := Lib.hid HT.out.e1
   have HE2 := Lib.hid HT.out.e2
   have HF := Lib.hid hf; clear hf
   have HO1 := Lib.hid o1; clear o1
   have HO2 := Lib.hid o2; clear o2
   go_wp2
   refine bodyPost_ret (v := .tuple #[.slice A1 ns c1, .slice A2 ns c2, .int .i64 0]) (by simp [results, Tryd.results15, go_sem]) rfl ?_
   exact ⟨_, _, rfl, by rw [HE1.out]; exact HO1.out, by rw [HE2.out]; exact HO2.out, HF.out⟩
end Go.Proofs.YtcchnibgehonoaaDoor

/- Walks: the law's has, next. -/
namespace Go.Proofs.YtcchnibgehonoaaDoor
open Go.RowKit Go Go.Maps

theorem hasB_hitD {l : List Int} {k : Nat} {x y : Int} (h : l[k]? = some y) (he : y = x) : hasB (l.drop k) x = true := by
 rw [drop_cons' h]; subst he; simp [hasB]
theorem hasB_goD {l : List Int} {k : Nat} {x y : Int} (h : l[k]? = some y) (he : y ≠ x) : hasB (l.drop k) x = hasB (l.drop (k + 1)) x := by
 rw [drop_cons' h]; simp [hasB, Ne.symm he]
theorem hasB_endD {l : List Int} {k : Nat} {x : Int} (h : ¬ k < l.length) : hasB (l.drop k) x = false := by
 rw [List.drop_of_length_le (by omega)]; rfl
set_option maxRecDepth 100000 in
set_option maxHeartbeats 1600000 in
theorem law_next (A : Option Addr) (na ca : Nat) (M : Option Addr) (nm cm : Nat) (E : Option Addr) (ne ce : Nat) (a : Aut) (s v : Int) (w : World) (h : AutR w w.heap.size A na ca M nm cm E ne ce a) :
  Calls Tryd.prog 66 #[.agg #[.slice A na ca, .int .i64 a.st, .slice M nm cm, .slice E ne ce], .int .i64 s, .int .i64 v] w fun e w' => e = .returned (.int .i64 (nxt a s v)) ∧ Below w.heap.size w w' := by
 have hB0 := box_below w (.cells #[.slice A na ca, .int .i64 a.st, .slice M nm cm, .slice E ne ce] 25)
 have hE := (h.re.below hB0).more hB0.size
 have hle := h.le
 have hec := h.ec
 have hcE := h.cE
 obtain ⟨r, hr⟩ : ∃ r, nxt a s v = r := ⟨_, rfl⟩
 rw [hr]
 have HR := Lib.hid (show r = nxtE s v (a.ed.drop 0) from hr.symm)
 have HLE := Lib.hid hle; clear hle
 clear hr h
 go_enter Tryd.func66, Tryd.ntmps66
 go_wp2
 go_loop [7] (fun i => ∃ k : Nat, k ≤ ne ∧ i = .int .i64 k ∧ Hid (r = nxtE s v (a.ed.drop k))) (fun i => ne - (intOf i).toNat)
 case atStart => exact ⟨0, Nat.zero_le _, rfl, HR⟩
 case round =>
  obtain ⟨k, hk, rfl, HX⟩ := hrel
  clear HR
  by_cases hlt : k < ne
  ·obtain ⟨ad, x, rfl, hbb, hx, q0, q1, q2⟩ := hE.at_ (k := k) (by have := HLE.out; omega)
   have b1 : (k : Int) < (ne : Int) := by omega
   have p1 := st_cells (j := 0) q1
   have p2 := st_cells (j := 1) q2
   clear q1 q2
   simp only [Nat.zero_add, Nat.reduceAdd] at p1 p2
   have HGX := Lib.hid hx; clear hx
   by_cases c1 : x.f = s
   ·have d1 : (x.f == s) = true := by simpa using c1
    by_cases c2 : x.e = v
    ·have d2 : (x.e == v) = true := by simpa using c2
     have HB := Lib.hid (show r = x.t by rw [HX.out, nxtE_hit HGX.out c1 c2])
     clear c1 c2
     go_wp2
     go_ret
     exact ⟨ret_int HB.out.symm, hB0⟩
    ·have d2 : (x.e == v) = false := by simpa using c2
     have HB := Lib.hid (show r = nxtE s v (a.ed.drop (k + 1)) by rw [HX.out, nxtE_go HGX.out (fun e => c2 e.2)])
     clear c1 c2
     go_wp2
     go_round
     case rel => exact ⟨k + 1, by omega, by go_num, HB⟩
     case measure => simp [intOf]; omega
   ·have d1 : (x.f == s) = false := by simpa using c1
    have HB := Lib.hid (show r = nxtE s v (a.ed.drop (k + 1)) by rw [HX.out, nxtE_go HGX.out (fun e => c1 e.1)])
    clear c1
    go_wp2
    go_round
    case rel => exact ⟨k + 1, by omega, by go_num, HB⟩
    case measure => simp [intOf]; omega
  ·have hf : r = -1 := by rw [HX.out, nxtE_end (by have := HLE.out; omega)]
   have HF := Lib.hid hf; clear hf
   go_wp2
   go_ret
   exact ⟨ret_int HF.out.symm, hB0⟩
set_option maxRecDepth 100000 in
set_option maxHeartbeats 1600000 in
theorem law_has (A : Option Addr) (c n : Nat) (l : List Int) (x : Int) (r : Bool) (w : World) (hl : l.length = n) (h : RdI w w.heap.size A l) (hn : n ≤ 9223372036854775807) (hr : hasB l x = r) :
  Calls Tryd.prog 23 #[.slice A n c, .int .i64 x] w fun e w' => e = .returned (.bool r) ∧ w = w' := by
 have HR := Lib.hid (show r = hasB (l.drop 0) x from hr.symm)
 have HL := Lib.hid hl; clear hl
 clear hr
 go_enter Tryd.func23, Tryd.ntmps23
 go_wp2
 go_loop [5] (fun i => ∃ k : Nat, k ≤ n ∧ i = .int .i64 k ∧ Hid (r = hasB (l.drop k) x)) (fun i => n - (intOf i).toNat)
 case atStart => exact ⟨0, Nat.zero_le _, rfl, HR⟩
 case round =>
  obtain ⟨k, hk, rfl, HX⟩ := hrel
  clear HR
  by_cases hlt : k < n
  ·obtain ⟨ad, y, rfl, hbb, hy, q0⟩ := h.at_ (k := k) (by have := HL.out; omega)
   have b1 : (k : Int) < (n : Int) := by omega
   have HY := Lib.hid hy; clear hy
   by_cases c1 : y = x
   ·have d1 : (y == x) = true := by simpa using c1
    have HB := Lib.hid (show r = true by rw [HX.out, hasB_hitD HY.out c1])
    clear c1
    go_wp2
    go_ret
    exact ⟨ret_bool HB.out.symm, rfl⟩
   ·have d1 : (y == x) = false := by simpa using c1
    have HB := Lib.hid (show r = hasB (l.drop (k + 1)) x by rw [HX.out, hasB_goD HY.out c1])
    clear c1
    go_wp2
    go_round
    case rel => exact ⟨k + 1, by omega, by go_num, HB⟩
    case measure => simp [intOf]; omega
  ·have hf : r = false := by rw [HX.out, hasB_endD (by have := HL.out; omega)]
   have HF := Lib.hid hf; clear hf
   go_wp2
   go_ret
   exact ⟨ret_bool HF.out.symm, rfl⟩
end Go.Proofs.YtcchnibgehonoaaDoor

/- Walks: the law's refuses. -/
namespace Go.Proofs.YtcchnibgehonoaaDoor
open Go.RowKit Go Go.Maps

theorem refB_nxt {P R : Aut} (hp : WF P) (hr : WF R) (s r u : Int) : refB P R s r u = (decide (0 ≤ nxt P s u) && (hasB R.al u && decide (nxt R r u < 0))) := by
 unfold refB
 rw [lkE_of_nxt hp, lkE_of_nxt hr]
 by_cases h1 : nxt P s u < 0
 ·rw [if_pos h1, decide_eq_false (show ¬ 0 ≤ nxt P s u by omega)]; rfl
 ·rw [if_neg h1, decide_eq_true (show 0 ≤ nxt P s u by omega)]
  by_cases h2 : nxt R r u < 0
  ·rw [if_pos h2, decide_eq_true h2]; cases hasB R.al u <;> rfl
  ·rw [if_neg h2, decide_eq_false h2]; cases hasB R.al u <;> rfl

set_option maxRecDepth 100000 in
set_option maxHeartbeats 3200000 in
theorem law_refuses (A M E A' M' E' : Option Addr) (na ca nm cm ne ce na' ca' nm' cm' ne' ce' : Nat) (P R : Aut) (t0 : Addr) (ct : Nat) (s r : Int) (U : Option Addr) (cu nu : Nat) (l : List Int) (w : World) (hx : AutR w w.heap.size A na ca M nm cm E ne ce P) (hy : AutR w w.heap.size A' na' ca' M' nm' cm' E' ne' ce' R)
  (hp : WF P) (hr : WF R) (hul : l.length = nu) (hu : RdI w w.heap.size U l) (hu2 : nu ≤ 9223372036854775807) (ht : RdI w w.heap.size (some t0) [s, r]) :
  Calls Tryd.prog 76 #[.agg #[.slice A na ca, .int .i64 P.st, .slice M nm cm, .slice E ne ce], .agg #[.slice A' na' ca', .int .i64 R.st, .slice M' nm' cm', .slice E' ne' ce'], .slice (some t0) 2 ct, .slice U nu cu] w fun e w' => e = .returned (.int .i64 (refF P R s r l)) ∧ Below w.heap.size w w' := by
 obtain ⟨sp, hsp⟩ : ∃ s, P.st = s := ⟨_, rfl⟩
 obtain ⟨sr, hsr⟩ : ∃ s, R.st = s := ⟨_, rfl⟩
 rw [hsp, hsr]
 have hb1 := box_below w (.cells #[.slice A na ca, .int .i64 sp, .slice M nm cm, .slice E ne ce] 25)
 have hb2 := hb1.alloc hb1.size (.cells #[.slice A' na' ca', .int .i64 sr, .slice M' nm' cm', .slice E' ne' ce'] 25)
 have kP : Blk ((w.alloc (.cells #[.slice A na ca, .int .i64 sp, .slice M nm cm, .slice E ne ce] 25)).alloc (.cells #[.slice A' na' ca', .int .i64 sr, .slice M' nm' cm', .slice E' ne' ce'] 25)) w.heap.size 25 [.slice A na ca, .int .i64 sp, .slice M nm cm, .slice E ne ce] := (Blk.new _ _ [_, _, _, _]).al _
 have kR : Blk ((w.alloc (.cells #[.slice A na ca, .int .i64 sp, .slice M nm cm, .slice E ne ce] 25)).alloc (.cells #[.slice A' na' ca', .int .i64 sr, .slice M' nm' cm', .slice E' ne' ce'] 25)) (w.heap.size + 1) 25 [.slice A' na' ca', .int .i64 sr, .slice M' nm' cm', .slice E' ne' ce'] := Blk.at_ _ _ [_, _, _, _] (by simp)
 obtain ⟨ad, y0, e0, htb, hy0, d0⟩ := ht.at_ (k := 0) (by simp)
 obtain ⟨a6, y1, e6, _, hy1, d1⟩ := ht.at_ (k := 1) (by simp)
 injection e0 with e0; subst e0
 injection e6 with e6; subst e6
 obtain rfl : s = y0 := by simpa using hy0
 obtain rfl : r = y1 := by simpa using hy1
 have HAT := Lib.hid (fun (W : World) (hb : Below w.heap.size w W ∧ Below ((w.alloc (.cells #[.slice A na ca, .int .i64 sp, .slice M nm cm, .slice E ne ce] 25)).alloc (.cells #[.slice A' na' ca', .int .i64 sr, .slice M' nm' cm', .slice E' ne' ce'] 25)).heap.size ((w.alloc (.cells #[.slice A na ca, .int .i64 sp, .slice M nm cm, .slice E ne ce] 25)).alloc (.cells #[.slice A' na' ca', .int .i64 sr, .slice M' nm' cm', .slice E' ne' ce'] 25)) W) => by
  have kp := kP.below hb.2 kP.lt
  have kr := kR.below hb.2 kR.lt
  exact (show (W.cell? ⟨w.heap.size, 0, none⟩ = some (.slice A na ca) ∧ W.cell? ⟨w.heap.size, 1, none⟩ = some (.int .i64 sp) ∧ W.cell? ⟨w.heap.size, 2, none⟩ = some (.slice M nm cm) ∧ W.cell? ⟨w.heap.size, 3, none⟩ = some (.slice E ne ce)) ∧ (W.cell? ⟨w.heap.size + 1, 0, none⟩ = some (.slice A' na' ca') ∧ W.cell? ⟨w.heap.size + 1, 1, none⟩ = some (.int .i64 sr) ∧ W.cell? ⟨w.heap.size + 1, 2, none⟩ = some (.slice M' nm' cm') ∧ W.cell? ⟨w.heap.size + 1, 3, none⟩ = some (.slice E' ne' ce')) ∧ (W.cell? t0 = some (.int .i64 s) ∧ W.cell? ⟨t0.block, t0.off + 1, none⟩ = some (.int .i64 r)) from ⟨⟨kp.cell (j := 0) rfl, kp.cell (j := 1) rfl, kp.cell (j := 2) rfl, kp.cell (j := 3) rfl⟩, ⟨kr.cell (j := 0) rfl, kr.cell (j := 1) rfl, kr.cell (j := 2) rfl, kr.cell (j := 3) rfl⟩, ⟨(hb.1.cell (p := t0) htb).trans d0, (hb.1.cell (p := ⟨t0.block, t0.off + 1, none⟩) htb).trans (st_cells (j := 0) d1)⟩⟩))
 obtain ⟨w1, hw1⟩ : ∃ w1, w1 = ((w.alloc (.cells #[.slice A na ca, .int .i64 sp, .slice M nm cm, .slice E ne ce] 25)).alloc (.cells #[.slice A' na' ca', .int .i64 sr, .slice M' nm' cm', .slice E' ne' ce'] 25)) := ⟨_, rfl⟩
 rw [← hw1] at hb2 HAT
 have HAT := Lib.hid (fun (W : World) (hb : Below w1.heap.size w1 W) => HAT.out W ⟨hb2.trans (hb.mono hb2.size), hb⟩)
 have hx := (hx.below hb2).more hb2.size
 have hy := (hy.below hb2).more hb2.size
 have hu := (hu.below hb2).more hb2.size
 have HRB := Lib.hid (refB_nxt hp hr)
 have HW1 := Lib.hid hw1; clear hw1
 have HB1 := Lib.hid hb2; clear hb2
 have HX := Lib.hid hx; clear hx
 have HY := Lib.hid hy; clear hy
 have HU := Lib.hid hu; clear hu
 have HSP := Lib.hid hsp; clear hsp
 have HSR := Lib.hid hsr; clear hsr
 have HUL := Lib.hid hul; clear hul
 clear hb1 kP kR d0 d1 hy0 hy1 ht hp hr
 go_enter Tryd.func76, Tryd.ntmps76
 go_wp2
 rw [← HW1.out]
 go_loopw [9] (fun s9 wi => ∃ q : Nat, q ≤ nu ∧ s9 = .int .i64 q ∧ Hid (Below w1.heap.size w1 wi) ∧ Hid (refF P R s r l = refF P R s r (l.drop q))) (fun s9 _ => nu - (intOf s9).toNat)
 case atStart => exact ⟨0, Nat.zero_le _, rfl, Lib.hid (Below.refl _ _), Lib.hid (by rw [List.drop_zero])⟩
 case round =>
  obtain ⟨q, hq, rfl, HB, HF⟩ := hrel
  by_cases hql : q < nu
  ·obtain ⟨ua, u, rfl, hub, hu, hcu⟩ := (HU.out.below HB.out).at_ (k := q) (by have := HUL.out; omega)
   have c1 : (q : Int) < (nu : Int) := by omega
   obtain ⟨np, hnp⟩ : ∃ z, nxt P s u = z := ⟨_, rfl⟩
   obtain ⟨nr, hnr⟩ : ∃ z, nxt R r u = z := ⟨_, rfl⟩
   obtain ⟨hb, hhb⟩ : ∃ z, hasB R.al u = z := ⟨_, rfl⟩
   have hrb := HRB.out s r u
   rw [hnp, hnr, hhb] at hrb
   have HQU := Lib.hid hu; clear hu
   have HNP := Lib.hid hnp; clear hnp
   have HNR := Lib.hid hnr; clear hnr
   have HHB := Lib.hid hhb; clear hhb
   by_cases h1 : 0 ≤ np
   ·have g1 : decide (0 ≤ np) = true := decide_eq_true h1
    cases hb with
    | true =>
     by_cases h2 : nr < 0
     ·have g2 : decide (nr < 0) = true := decide_eq_true h2
      rw [g1, g2] at hrb
      have HF2 := Lib.hid (HF.out.trans (refF_hit HQU.out hrb))
      clear h1 h2 hrb HF
      go_upto_region 5 with fail
      refine wp_region_U (fun W => (W.cell? ⟨w.heap.size, 0, none⟩ = some (.slice A na ca) ∧ W.cell? ⟨w.heap.size, 1, none⟩ = some (.int .i64 sp) ∧ W.cell? ⟨w.heap.size, 2, none⟩ = some (.slice M nm cm) ∧ W.cell? ⟨w.heap.size, 3, none⟩ = some (.slice E ne ce)) ∧ (W.cell? ⟨w.heap.size + 1, 0, none⟩ = some (.slice A' na' ca') ∧ W.cell? ⟨w.heap.size + 1, 1, none⟩ = some (.int .i64 sr) ∧ W.cell? ⟨w.heap.size + 1, 2, none⟩ = some (.slice M' nm' cm') ∧ W.cell? ⟨w.heap.size + 1, 3, none⟩ = some (.slice E' ne' ce')) ∧ (W.cell? t0 = some (.int .i64 s) ∧ W.cell? ⟨t0.block, t0.off + 1, none⟩ = some (.int .i64 r))) (fun _ => True) 21 (by kernel_rfl) ?_
      change anyU _ _ _ _ _ _ _ 22 _ _ _
      have hB0 : True := trivial
      have HBD := Lib.hid (HB.out.trans ((below_dr wr).mono HB.out.size))
      generalize wr.drew = wd at HBD ⊢
      have hA0 := HAT.out wd HBD.out
      have HC1 := Lib.hid (law_next A na ca M nm cm E ne ce P s u wd ((HX.out.below HBD.out).more HBD.out.size))
      rw [HSP.out, HNP.out] at HC1
      (refine uA 0 ?_ rfl hA0 hB0 (fun W hA => ?_) ?_; rotate_left; (· (obtain ⟨⟨a0, a1, a2, a3⟩, _, _⟩ := hA; go_simp; try with_reducible rfl)); (try simp only [Act.put, List.setIfInBounds_toArray, List.set_cons_zero, List.set_cons_succ]))
      (refine uA 1 ?_ rfl hA0 hB0 (fun W hA => ?_) ?_; rotate_left; (· (go_simp; try with_reducible rfl)); refine uA 2 ?_ rfl hA0 hB0 (fun W hA => ?_) ?_; rotate_left; (· (go_simp; try with_reducible rfl)); (try simp only [Act.put, List.setIfInBounds_toArray, List.set_cons_zero, List.set_cons_succ]))
      (refine uA 3 ?_ rfl hA0 hB0 (fun W hA => ?_) ?_; rotate_left; (· (obtain ⟨_, _, a4, a5⟩ := hA; go_simp; try with_reducible rfl)); (try simp only [Act.put, List.setIfInBounds_toArray, List.set_cons_zero, List.set_cons_succ]))
      (refine uA 4 ?_ rfl hA0 hB0 (fun W hA => ?_) ?_; rotate_left; (· (go_simp; try with_reducible rfl)); (try simp only [Act.put, List.setIfInBounds_toArray, List.set_cons_zero, List.set_cons_succ]))
      refine uOne (i := 5) rfl (by kernel_rfl) (fun K hK => ?_)
      go_simp
      go_at_call 66
      refine HC1.out.mono ?_
      rintro e w5 ⟨rfl, hb5⟩
      have HB5 := Lib.hid (HBD.out.trans (hb5.mono HBD.out.size))
      have hA5 := HAT.out w5 HB5.out
      clear hA0 hb5
      (refine hK _ _ ⟨hA5, fun _ => hB0⟩ ?_; clear hK K; (try simp only [Act.put, List.setIfInBounds_toArray, List.set_cons_zero, List.set_cons_succ]))
      have hA0 := hA5
      (refine uA 6 ?_ rfl hA0 hB0 (fun W hA => ?_) ?_; rotate_left; (· (go_simp; try with_reducible rfl)); refine uA 7 ?_ rfl hA0 hB0 (fun W hA => ?_) ?_; rotate_left; (· (go_simp; try with_reducible rfl)); (try simp only [Act.put, List.setIfInBounds_toArray, List.set_cons_zero, List.set_cons_succ]))
      have HC2 := Lib.hid (law_has A' ca' na' R.al u true w5 HY.out.la ((HY.out.ra.below HB5.out).more HB5.out.size) (by have := HY.out.ac; have := HY.out.cA; omega) HHB.out)
      (refine uA 8 ?_ rfl hA0 hB0 (fun W hA => ?_) ?_; rotate_left; (· (go_simp; try with_reducible rfl)); (try simp only [Act.put, List.setIfInBounds_toArray, List.set_cons_zero, List.set_cons_succ]))
      (refine uA 9 ?_ rfl hA0 hB0 (fun W hA => ?_) ?_; rotate_left; (· (obtain ⟨_, ⟨a0, a1, a2, a3⟩, _⟩ := hA; go_simp; try with_reducible rfl)); (try simp only [Act.put, List.setIfInBounds_toArray, List.set_cons_zero, List.set_cons_succ]))
      (refine uA 10 ?_ rfl hA0 hB0 (fun W hA => ?_) ?_; rotate_left; (· (go_simp; try with_reducible rfl)); (try simp only [Act.put, List.setIfInBounds_toArray, List.set_cons_zero, List.set_cons_succ]))
      refine uOne (i := 11) rfl (by kernel_rfl) (fun K hK => ?_)
      go_simp
      go_at_call 23
      refine HC2.out.mono ?_
      rintro e w9 ⟨rfl, rfl⟩
      (refine hK _ _ ⟨hA0, fun _ => hB0⟩ ?_; clear hK K; (try simp only [Act.put, List.setIfInBounds_toArray, List.set_cons_zero, List.set_cons_succ]))
      (refine uA 12 ?_ rfl hA0 hB0 (fun W hA => ?_) ?_; rotate_left; (· (go_simp; try with_reducible rfl)); refine uA 13 ?_ rfl hA0 hB0 (fun W hA => ?_) ?_; rotate_left; (· (go_simp; try with_reducible rfl)); (try simp only [Act.put, List.setIfInBounds_toArray, List.set_cons_zero, List.set_cons_succ]))
      have HC3 := Lib.hid (law_next A' na' ca' M' nm' cm' E' ne' ce' R r u w5 ((HY.out.below HB5.out).more HB5.out.size))
      rw [HSR.out, HNR.out] at HC3
      (refine uA 14 ?_ rfl hA0 hB0 (fun W hA => ?_) ?_; rotate_left; (· (obtain ⟨_, ⟨a0, a1, a2, a3⟩, _⟩ := hA; go_simp; try with_reducible rfl)); (try simp only [Act.put, List.setIfInBounds_toArray, List.set_cons_zero, List.set_cons_succ]))
      (refine uA 15 ?_ rfl hA0 hB0 (fun W hA => ?_) ?_; rotate_left; (· (go_simp; try with_reducible rfl)); refine uA 16 ?_ rfl hA0 hB0 (fun W hA => ?_) ?_; rotate_left; (· (go_simp; try with_reducible rfl)); (try simp only [Act.put, List.setIfInBounds_toArray, List.set_cons_zero, List.set_cons_succ]))
      (refine uA 17 ?_ rfl hA0 hB0 (fun W hA => ?_) ?_; rotate_left; (· (obtain ⟨_, _, a4, a5⟩ := hA; go_simp; try with_reducible rfl)); (try simp only [Act.put, List.setIfInBounds_toArray, List.set_cons_zero, List.set_cons_succ]))
      (refine uA 18 ?_ rfl hA0 hB0 (fun W hA => ?_) ?_; rotate_left; (· (go_simp; try with_reducible rfl)); (try simp only [Act.put, List.setIfInBounds_toArray, List.set_cons_zero, List.set_cons_succ]))
      refine uOne (i := 19) rfl (by kernel_rfl) (fun K hK => ?_)
      go_simp
      go_at_call 66
      refine HC3.out.mono ?_
      rintro e w6 ⟨rfl, hb6⟩
      have HB6 := Lib.hid (HB5.out.trans (hb6.mono HB5.out.size))
      have hA6 := HAT.out w6 HB6.out
      clear hA0 hb6
      (refine hK _ _ ⟨hA6, fun _ => hB0⟩ ?_; clear hK K; (try simp only [Act.put, List.setIfInBounds_toArray, List.set_cons_zero, List.set_cons_succ]))
      have hA0 := hA6
      clear hA6
      (refine uA 20 ?_ rfl hA0 hB0 (fun W hA => ?_) ?_; rotate_left; (· (go_simp; try with_reducible rfl)); (try simp only [Act.put, List.setIfInBounds_toArray, List.set_cons_zero, List.set_cons_succ]))
      refine uOne (i := 21) rfl (by kernel_rfl) (fun K hK => ?_)
      go_simp
      (refine hK _ _ ⟨hA0, fun h => absurd (h.symm.trans (by kernel_rfl : _ = true)) Bool.false_ne_true⟩ ?_; clear hK K; (try simp only [Act.put, List.setIfInBounds_toArray, List.set_cons_zero, List.set_cons_succ]))
      refine anyU_done (by kernel_rfl) ?_ _
      clear hA0 hA5
      have HFI := Lib.hid (HB1.out.trans (HB6.out.mono HB1.out.size))
      go_wp2
      go_ret
      exact ⟨congrArg (fun z => Ending.returned (.int .i64 z)) HF2.out.symm, HFI.out⟩
     ·have g2 : decide (nr < 0) = false := decide_eq_false h2
      rw [g1, g2] at hrb
      have HF2 := Lib.hid (HF.out.trans (refF_go HQU.out hrb))
      clear h1 h2 hrb HF
      go_upto_region 5 with fail
      refine wp_region_U (fun W => (W.cell? ⟨w.heap.size, 0, none⟩ = some (.slice A na ca) ∧ W.cell? ⟨w.heap.size, 1, none⟩ = some (.int .i64 sp) ∧ W.cell? ⟨w.heap.size, 2, none⟩ = some (.slice M nm cm) ∧ W.cell? ⟨w.heap.size, 3, none⟩ = some (.slice E ne ce)) ∧ (W.cell? ⟨w.heap.size + 1, 0, none⟩ = some (.slice A' na' ca') ∧ W.cell? ⟨w.heap.size + 1, 1, none⟩ = some (.int .i64 sr) ∧ W.cell? ⟨w.heap.size + 1, 2, none⟩ = some (.slice M' nm' cm') ∧ W.cell? ⟨w.heap.size + 1, 3, none⟩ = some (.slice E' ne' ce')) ∧ (W.cell? t0 = some (.int .i64 s) ∧ W.cell? ⟨t0.block, t0.off + 1, none⟩ = some (.int .i64 r))) (fun _ => True) 21 (by kernel_rfl) ?_
      change anyU _ _ _ _ _ _ _ 22 _ _ _
      have hB0 : True := trivial
      have HBD := Lib.hid (HB.out.trans ((below_dr wr).mono HB.out.size))
      generalize wr.drew = wd at HBD ⊢
      have hA0 := HAT.out wd HBD.out
      have HC1 := Lib.hid (law_next A na ca M nm cm E ne ce P s u wd ((HX.out.below HBD.out).more HBD.out.size))
      rw [HSP.out, HNP.out] at HC1
      (refine uA 0 ?_ rfl hA0 hB0 (fun W hA => ?_) ?_; rotate_left; (· (obtain ⟨⟨a0, a1, a2, a3⟩, _, _⟩ := hA; go_simp; try with_reducible rfl)); (try simp only [Act.put, List.setIfInBounds_toArray, List.set_cons_zero, List.set_cons_succ]))
      (refine uA 1 ?_ rfl hA0 hB0 (fun W hA => ?_) ?_; rotate_left; (· (go_simp; try with_reducible rfl)); refine uA 2 ?_ rfl hA0 hB0 (fun W hA => ?_) ?_; rotate_left; (· (go_simp; try with_reducible rfl)); (try simp only [Act.put, List.setIfInBounds_toArray, List.set_cons_zero, List.set_cons_succ]))
      (refine uA 3 ?_ rfl hA0 hB0 (fun W hA => ?_) ?_; rotate_left; (· (obtain ⟨_, _, a4, a5⟩ := hA; go_simp; try with_reducible rfl)); (try simp only [Act.put, List.setIfInBounds_toArray, List.set_cons_zero, List.set_cons_succ]))
      (refine uA 4 ?_ rfl hA0 hB0 (fun W hA => ?_) ?_; rotate_left; (· (go_simp; try with_reducible rfl)); (try simp only [Act.put, List.setIfInBounds_toArray, List.set_cons_zero, List.set_cons_succ]))
      refine uOne (i := 5) rfl (by kernel_rfl) (fun K hK => ?_)
      go_simp
      go_at_call 66
      refine HC1.out.mono ?_
      rintro e w5 ⟨rfl, hb5⟩
      have HB5 := Lib.hid (HBD.out.trans (hb5.mono HBD.out.size))
      have hA5 := HAT.out w5 HB5.out
      clear hA0 hb5
      (refine hK _ _ ⟨hA5, fun _ => hB0⟩ ?_; clear hK K; (try simp only [Act.put, List.setIfInBounds_toArray, List.set_cons_zero, List.set_cons_succ]))
      have hA0 := hA5
      (refine uA 6 ?_ rfl hA0 hB0 (fun W hA => ?_) ?_; rotate_left; (· (go_simp; try with_reducible rfl)); refine uA 7 ?_ rfl hA0 hB0 (fun W hA => ?_) ?_; rotate_left; (· (go_simp; try with_reducible rfl)); (try simp only [Act.put, List.setIfInBounds_toArray, List.set_cons_zero, List.set_cons_succ]))
      have HC2 := Lib.hid (law_has A' ca' na' R.al u true w5 HY.out.la ((HY.out.ra.below HB5.out).more HB5.out.size) (by have := HY.out.ac; have := HY.out.cA; omega) HHB.out)
      (refine uA 8 ?_ rfl hA0 hB0 (fun W hA => ?_) ?_; rotate_left; (· (go_simp; try with_reducible rfl)); (try simp only [Act.put, List.setIfInBounds_toArray, List.set_cons_zero, List.set_cons_succ]))
      (refine uA 9 ?_ rfl hA0 hB0 (fun W hA => ?_) ?_; rotate_left; (· (obtain ⟨_, ⟨a0, a1, a2, a3⟩, _⟩ := hA; go_simp; try with_reducible rfl)); (try simp only [Act.put, List.setIfInBounds_toArray, List.set_cons_zero, List.set_cons_succ]))
      (refine uA 10 ?_ rfl hA0 hB0 (fun W hA => ?_) ?_; rotate_left; (· (go_simp; try with_reducible rfl)); (try simp only [Act.put, List.setIfInBounds_toArray, List.set_cons_zero, List.set_cons_succ]))
      refine uOne (i := 11) rfl (by kernel_rfl) (fun K hK => ?_)
      go_simp
      go_at_call 23
      refine HC2.out.mono ?_
      rintro e w9 ⟨rfl, rfl⟩
      (refine hK _ _ ⟨hA0, fun _ => hB0⟩ ?_; clear hK K; (try simp only [Act.put, List.setIfInBounds_toArray, List.set_cons_zero, List.set_cons_succ]))
      (refine uA 12 ?_ rfl hA0 hB0 (fun W hA => ?_) ?_; rotate_left; (· (go_simp; try with_reducible rfl)); refine uA 13 ?_ rfl hA0 hB0 (fun W hA => ?_) ?_; rotate_left; (· (go_simp; try with_reducible rfl)); (try simp only [Act.put, List.setIfInBounds_toArray, List.set_cons_zero, List.set_cons_succ]))
      have HC3 := Lib.hid (law_next A' na' ca' M' nm' cm' E' ne' ce' R r u w5 ((HY.out.below HB5.out).more HB5.out.size))
      rw [HSR.out, HNR.out] at HC3
      (refine uA 14 ?_ rfl hA0 hB0 (fun W hA => ?_) ?_; rotate_left; (· (obtain ⟨_, ⟨a0, a1, a2, a3⟩, _⟩ := hA; go_simp; try with_reducible rfl)); (try simp only [Act.put, List.setIfInBounds_toArray, List.set_cons_zero, List.set_cons_succ]))
      (refine uA 15 ?_ rfl hA0 hB0 (fun W hA => ?_) ?_; rotate_left; (· (go_simp; try with_reducible rfl)); refine uA 16 ?_ rfl hA0 hB0 (fun W hA => ?_) ?_; rotate_left; (· (go_simp; try with_reducible rfl)); (try simp only [Act.put, List.setIfInBounds_toArray, List.set_cons_zero, List.set_cons_succ]))
      (refine uA 17 ?_ rfl hA0 hB0 (fun W hA => ?_) ?_; rotate_left; (· (obtain ⟨_, _, a4, a5⟩ := hA; go_simp; try with_reducible rfl)); (try simp only [Act.put, List.setIfInBounds_toArray, List.set_cons_zero, List.set_cons_succ]))
      (refine uA 18 ?_ rfl hA0 hB0 (fun W hA => ?_) ?_; rotate_left; (· (go_simp; try with_reducible rfl)); (try simp only [Act.put, List.setIfInBounds_toArray, List.set_cons_zero, List.set_cons_succ]))
      refine uOne (i := 19) rfl (by kernel_rfl) (fun K hK => ?_)
      go_simp
      go_at_call 66
      refine HC3.out.mono ?_
      rintro e w6 ⟨rfl, hb6⟩
      have HB6 := Lib.hid (HB5.out.trans (hb6.mono HB5.out.size))
      have hA6 := HAT.out w6 HB6.out
      clear hA0 hb6
      (refine hK _ _ ⟨hA6, fun _ => hB0⟩ ?_; clear hK K; (try simp only [Act.put, List.setIfInBounds_toArray, List.set_cons_zero, List.set_cons_succ]))
      have hA0 := hA6
      clear hA6
      (refine uA 20 ?_ rfl hA0 hB0 (fun W hA => ?_) ?_; rotate_left; (· (go_simp; try with_reducible rfl)); (try simp only [Act.put, List.setIfInBounds_toArray, List.set_cons_zero, List.set_cons_succ]))
      refine uOne (i := 21) rfl (by kernel_rfl) (fun K hK => ?_)
      go_simp
      (refine hK _ _ ⟨hA0, fun h => absurd (h.symm.trans (by kernel_rfl : _ = true)) Bool.false_ne_true⟩ ?_; clear hK K; (try simp only [Act.put, List.setIfInBounds_toArray, List.set_cons_zero, List.set_cons_succ]))
      refine anyU_done (by kernel_rfl) ?_ _
      clear hA0 hA5
      go_wp2
      go_roundw
      case rel => exact ⟨q + 1, by omega, by go_num, HB6, HF2⟩
      case measure => simp [intOf]; omega
    | false =>
     rw [g1] at hrb
     have HF2 := Lib.hid (HF.out.trans (refF_go HQU.out hrb))
     clear h1 hrb HF
     go_upto_region 5 with fail
     refine wp_region_U (fun W => (W.cell? ⟨w.heap.size, 0, none⟩ = some (.slice A na ca) ∧ W.cell? ⟨w.heap.size, 1, none⟩ = some (.int .i64 sp) ∧ W.cell? ⟨w.heap.size, 2, none⟩ = some (.slice M nm cm) ∧ W.cell? ⟨w.heap.size, 3, none⟩ = some (.slice E ne ce)) ∧ (W.cell? ⟨w.heap.size + 1, 0, none⟩ = some (.slice A' na' ca') ∧ W.cell? ⟨w.heap.size + 1, 1, none⟩ = some (.int .i64 sr) ∧ W.cell? ⟨w.heap.size + 1, 2, none⟩ = some (.slice M' nm' cm') ∧ W.cell? ⟨w.heap.size + 1, 3, none⟩ = some (.slice E' ne' ce')) ∧ (W.cell? t0 = some (.int .i64 s) ∧ W.cell? ⟨t0.block, t0.off + 1, none⟩ = some (.int .i64 r))) (fun _ => True) 21 (by kernel_rfl) ?_
     change anyU _ _ _ _ _ _ _ 22 _ _ _
     have hB0 : True := trivial
     have HBD := Lib.hid (HB.out.trans ((below_dr wr).mono HB.out.size))
     generalize wr.drew = wd at HBD ⊢
     have hA0 := HAT.out wd HBD.out
     have HC1 := Lib.hid (law_next A na ca M nm cm E ne ce P s u wd ((HX.out.below HBD.out).more HBD.out.size))
     rw [HSP.out, HNP.out] at HC1
     (refine uA 0 ?_ rfl hA0 hB0 (fun W hA => ?_) ?_; rotate_left; (· (obtain ⟨⟨a0, a1, a2, a3⟩, _, _⟩ := hA; go_simp; try with_reducible rfl)); (try simp only [Act.put, List.setIfInBounds_toArray, List.set_cons_zero, List.set_cons_succ]))
     (refine uA 1 ?_ rfl hA0 hB0 (fun W hA => ?_) ?_; rotate_left; (· (go_simp; try with_reducible rfl)); refine uA 2 ?_ rfl hA0 hB0 (fun W hA => ?_) ?_; rotate_left; (· (go_simp; try with_reducible rfl)); (try simp only [Act.put, List.setIfInBounds_toArray, List.set_cons_zero, List.set_cons_succ]))
     (refine uA 3 ?_ rfl hA0 hB0 (fun W hA => ?_) ?_; rotate_left; (· (obtain ⟨_, _, a4, a5⟩ := hA; go_simp; try with_reducible rfl)); (try simp only [Act.put, List.setIfInBounds_toArray, List.set_cons_zero, List.set_cons_succ]))
     (refine uA 4 ?_ rfl hA0 hB0 (fun W hA => ?_) ?_; rotate_left; (· (go_simp; try with_reducible rfl)); (try simp only [Act.put, List.setIfInBounds_toArray, List.set_cons_zero, List.set_cons_succ]))
     refine uOne (i := 5) rfl (by kernel_rfl) (fun K hK => ?_)
     go_simp
     go_at_call 66
     refine HC1.out.mono ?_
     rintro e w5 ⟨rfl, hb5⟩
     have HB5 := Lib.hid (HBD.out.trans (hb5.mono HBD.out.size))
     have hA5 := HAT.out w5 HB5.out
     clear hA0 hb5
     (refine hK _ _ ⟨hA5, fun _ => hB0⟩ ?_; clear hK K; (try simp only [Act.put, List.setIfInBounds_toArray, List.set_cons_zero, List.set_cons_succ]))
     have hA0 := hA5
     (refine uA 6 ?_ rfl hA0 hB0 (fun W hA => ?_) ?_; rotate_left; (· (go_simp; try with_reducible rfl)); refine uA 7 ?_ rfl hA0 hB0 (fun W hA => ?_) ?_; rotate_left; (· (go_simp; try with_reducible rfl)); (try simp only [Act.put, List.setIfInBounds_toArray, List.set_cons_zero, List.set_cons_succ]))
     have HC2 := Lib.hid (law_has A' ca' na' R.al u false w5 HY.out.la ((HY.out.ra.below HB5.out).more HB5.out.size) (by have := HY.out.ac; have := HY.out.cA; omega) HHB.out)
     (refine uA 8 ?_ rfl hA0 hB0 (fun W hA => ?_) ?_; rotate_left; (· (go_simp; try with_reducible rfl)); (try simp only [Act.put, List.setIfInBounds_toArray, List.set_cons_zero, List.set_cons_succ]))
     (refine uA 9 ?_ rfl hA0 hB0 (fun W hA => ?_) ?_; rotate_left; (· (obtain ⟨_, ⟨a0, a1, a2, a3⟩, _⟩ := hA; go_simp; try with_reducible rfl)); (try simp only [Act.put, List.setIfInBounds_toArray, List.set_cons_zero, List.set_cons_succ]))
     (refine uA 10 ?_ rfl hA0 hB0 (fun W hA => ?_) ?_; rotate_left; (· (go_simp; try with_reducible rfl)); (try simp only [Act.put, List.setIfInBounds_toArray, List.set_cons_zero, List.set_cons_succ]))
     refine uOne (i := 11) rfl (by kernel_rfl) (fun K hK => ?_)
     go_simp
     go_at_call 23
     refine HC2.out.mono ?_
     rintro e w9 ⟨rfl, rfl⟩
     (refine hK _ _ ⟨hA0, fun _ => hB0⟩ ?_; clear hK K; (try simp only [Act.put, List.setIfInBounds_toArray, List.set_cons_zero, List.set_cons_succ]))
     (refine uA 12 ?_ rfl hA0 hB0 (fun W hA => ?_) ?_; rotate_left; (· (go_simp; try with_reducible rfl)); refine uA 13 ?_ rfl hA0 hB0 (fun W hA => ?_) ?_; rotate_left; (· (go_simp; try with_reducible rfl)); (try simp only [Act.put, List.setIfInBounds_toArray, List.set_cons_zero, List.set_cons_succ]))
     (refine uS 14 rfl hA0 hB0 ?_; refine uS 15 rfl hA0 hB0 ?_; refine uS 16 rfl hA0 hB0 ?_; refine uS 17 rfl hA0 hB0 ?_; refine uS 18 rfl hA0 hB0 ?_; refine uS 19 rfl hA0 hB0 ?_; refine uS 20 rfl hA0 hB0 ?_; (try simp only [Act.put, List.setIfInBounds_toArray, List.set_cons_zero, List.set_cons_succ]))
     refine uOne (i := 21) rfl (by kernel_rfl) (fun K hK => ?_)
     go_simp
     (refine hK _ _ ⟨hA0, fun h => absurd (h.symm.trans (by kernel_rfl : _ = true)) Bool.false_ne_true⟩ ?_; clear hK K; (try simp only [Act.put, List.setIfInBounds_toArray, List.set_cons_zero, List.set_cons_succ]))
     refine anyU_done (by kernel_rfl) ?_ _
     clear hA0 hA5
     go_wp2
     go_roundw
     case rel => exact ⟨q + 1, by omega, by go_num, HB5, HF2⟩
     case measure => simp [intOf]; omega
   ·have g1 : decide (0 ≤ np) = false := decide_eq_false h1
    rw [g1] at hrb
    have HF2 := Lib.hid (HF.out.trans (refF_go HQU.out hrb))
    clear h1 hrb HF
    go_upto_region 5 with fail
    refine wp_region_U (fun W => (W.cell? ⟨w.heap.size, 0, none⟩ = some (.slice A na ca) ∧ W.cell? ⟨w.heap.size, 1, none⟩ = some (.int .i64 sp) ∧ W.cell? ⟨w.heap.size, 2, none⟩ = some (.slice M nm cm) ∧ W.cell? ⟨w.heap.size, 3, none⟩ = some (.slice E ne ce)) ∧ (W.cell? ⟨w.heap.size + 1, 0, none⟩ = some (.slice A' na' ca') ∧ W.cell? ⟨w.heap.size + 1, 1, none⟩ = some (.int .i64 sr) ∧ W.cell? ⟨w.heap.size + 1, 2, none⟩ = some (.slice M' nm' cm') ∧ W.cell? ⟨w.heap.size + 1, 3, none⟩ = some (.slice E' ne' ce')) ∧ (W.cell? t0 = some (.int .i64 s) ∧ W.cell? ⟨t0.block, t0.off + 1, none⟩ = some (.int .i64 r))) (fun _ => True) 21 (by kernel_rfl) ?_
    change anyU _ _ _ _ _ _ _ 22 _ _ _
    have hB0 : True := trivial
    have HBD := Lib.hid (HB.out.trans ((below_dr wr).mono HB.out.size))
    generalize wr.drew = wd at HBD ⊢
    have hA0 := HAT.out wd HBD.out
    have HC1 := Lib.hid (law_next A na ca M nm cm E ne ce P s u wd ((HX.out.below HBD.out).more HBD.out.size))
    rw [HSP.out, HNP.out] at HC1
    (refine uA 0 ?_ rfl hA0 hB0 (fun W hA => ?_) ?_; rotate_left; (· (obtain ⟨⟨a0, a1, a2, a3⟩, _, _⟩ := hA; go_simp; try with_reducible rfl)); (try simp only [Act.put, List.setIfInBounds_toArray, List.set_cons_zero, List.set_cons_succ]))
    (refine uA 1 ?_ rfl hA0 hB0 (fun W hA => ?_) ?_; rotate_left; (· (go_simp; try with_reducible rfl)); refine uA 2 ?_ rfl hA0 hB0 (fun W hA => ?_) ?_; rotate_left; (· (go_simp; try with_reducible rfl)); (try simp only [Act.put, List.setIfInBounds_toArray, List.set_cons_zero, List.set_cons_succ]))
    (refine uA 3 ?_ rfl hA0 hB0 (fun W hA => ?_) ?_; rotate_left; (· (obtain ⟨_, _, a4, a5⟩ := hA; go_simp; try with_reducible rfl)); (try simp only [Act.put, List.setIfInBounds_toArray, List.set_cons_zero, List.set_cons_succ]))
    (refine uA 4 ?_ rfl hA0 hB0 (fun W hA => ?_) ?_; rotate_left; (· (go_simp; try with_reducible rfl)); (try simp only [Act.put, List.setIfInBounds_toArray, List.set_cons_zero, List.set_cons_succ]))
    refine uOne (i := 5) rfl (by kernel_rfl) (fun K hK => ?_)
    go_simp
    go_at_call 66
    refine HC1.out.mono ?_
    rintro e w5 ⟨rfl, hb5⟩
    have HB5 := Lib.hid (HBD.out.trans (hb5.mono HBD.out.size))
    have hA5 := HAT.out w5 HB5.out
    clear hA0 hb5
    (refine hK _ _ ⟨hA5, fun _ => hB0⟩ ?_; clear hK K; (try simp only [Act.put, List.setIfInBounds_toArray, List.set_cons_zero, List.set_cons_succ]))
    have hA0 := hA5
    (refine uA 6 ?_ rfl hA0 hB0 (fun W hA => ?_) ?_; rotate_left; (· (go_simp; try with_reducible rfl)); refine uA 7 ?_ rfl hA0 hB0 (fun W hA => ?_) ?_; rotate_left; (· (go_simp; try with_reducible rfl)); (try simp only [Act.put, List.setIfInBounds_toArray, List.set_cons_zero, List.set_cons_succ]))
    (refine uS 8 rfl hA0 hB0 ?_; refine uS 9 rfl hA0 hB0 ?_; refine uS 10 rfl hA0 hB0 ?_; refine uS 11 rfl hA0 hB0 ?_; (try simp only [Act.put, List.setIfInBounds_toArray, List.set_cons_zero, List.set_cons_succ]))
    (refine uA 12 ?_ rfl hA0 hB0 (fun W hA => ?_) ?_; rotate_left; (· (go_simp; try with_reducible rfl)); refine uA 13 ?_ rfl hA0 hB0 (fun W hA => ?_) ?_; rotate_left; (· (go_simp; try with_reducible rfl)); (try simp only [Act.put, List.setIfInBounds_toArray, List.set_cons_zero, List.set_cons_succ]))
    (refine uS 14 rfl hA0 hB0 ?_; refine uS 15 rfl hA0 hB0 ?_; refine uS 16 rfl hA0 hB0 ?_; refine uS 17 rfl hA0 hB0 ?_; refine uS 18 rfl hA0 hB0 ?_; refine uS 19 rfl hA0 hB0 ?_; refine uS 20 rfl hA0 hB0 ?_; (try simp only [Act.put, List.setIfInBounds_toArray, List.set_cons_zero, List.set_cons_succ]))
    refine uOne (i := 21) rfl (by kernel_rfl) (fun K hK => ?_)
    go_simp
    (refine hK _ _ ⟨hA0, fun h => absurd (h.symm.trans (by kernel_rfl : _ = true)) Bool.false_ne_true⟩ ?_; clear hK K; (try simp only [Act.put, List.setIfInBounds_toArray, List.set_cons_zero, List.set_cons_succ]))
    refine anyU_done (by kernel_rfl) ?_ _
    clear hA0 hA5
    go_wp2
    go_roundw
    case rel => exact ⟨q + 1, by omega, by go_num, HB5, HF2⟩
    case measure => simp [intOf]; omega
  ·obtain rfl : q = nu := by omega
   have HFE := Lib.hid (HF.out.trans (refF_end (by rw [HUL.out]; omega)))
   have HFI := Lib.hid (HB1.out.trans (HB.out.mono HB1.out.size))
   go_wp2
   go_ret
   exact ⟨congrArg (fun z => Ending.returned (.int .i64 z)) HFE.out.symm, HFI.out⟩
end Go.Proofs.YtcchnibgehonoaaDoor

/- Plain: tuples do not lie in a zero automaton's block; events outside the plant's alphabet are not refused. -/
namespace Go.Proofs.YtcchnibgehonoaaDoor
open Go.RowKit Go Go.Maps

theorem Blk.inv {W : World} {q : Nat} {t : TypeId} {vs : List Value} (h : Blk W q t vs) {p : Addr} {u : Value} (hp : p.block = q) (hc : W.cell? p = some u) : p.spot = none ∧ vs[p.off]? = some u := by
 unfold World.cell? at hc
 rw [hp, show W.heap[q]? = some (.cells vs.toArray t (0, 0)) from h] at hc
 simp only at hc
 cases hs : p.spot with
 | none => rw [hs] at hc; exact ⟨rfl, by simpa using hc⟩
 | some z => rw [hs] at hc; simp at hc
def zAut : List Value := [.slice none 0 0, .int .i64 0, .slice none 0 0, .slice none 0 0]
theorem zAut_slice {o : Nat} {A : Option Addr} {n c : Nat} (h : zAut[o]? = some (.slice A n c)) : n = 0 := by
 unfold zAut at h
 match o, h with
 | 0, h => simp at h; exact h.2.1.symm
 | 1, h => simp at h
 | 2, h => simp at h; exact h.2.1.symm
 | 3, h => simp at h; exact h.2.1.symm
 | o + 4, h => simp at h
theorem zAut_int {o : Nat} {x : Int} (h : zAut[o]? = some (.int .i64 x)) : o = 1 := by
 unfold zAut at h
 match o, h with
 | 0, h => simp at h
 | 1, _ => rfl
 | 2, h => simp at h
 | 3, h => simp at h
 | o + 4, h => simp at h
/-- tuples of two lie elsewhere -/
theorem rds_apart {W W' : World} {q : Nat} {t : TypeId} {B : Option Addr} {ts : List SlV} (h : RdS W W.heap.size B ts) (hk : Blk W q t zAut) (hl : ∀ x ∈ ts, x.l.length = 2) (hg : W.grownBy W' (some q)) : RdS W' W'.heap.size B ts := by
 refine RdS.more (B := W.heap.size) ⟨fun k u hu => ?_, fun x hx => ⟨fun k u hu => ?_, (h.2 x hx).2⟩⟩ hg.size
 ·obtain ⟨ad, e, hb, hc⟩ := h.1 k u hu
  refine ⟨ad, e, hb, (World.cell?_of_block (hg.block _ (by rw [block_of_add]; exact hb) ?_)).trans hc⟩
  intro e2
  injection e2 with e2
  obtain ⟨_, h2⟩ := hk.inv e2 hc
  rw [List.getElem?_map] at hu
  obtain ⟨x, hx, rfl⟩ := Option.map_eq_some_iff.1 hu
  have h3 := zAut_slice h2
  have h4 := hl x (List.mem_of_getElem? hx)
  omega
 ·obtain ⟨ad, e, hb, hc⟩ := (h.2 x hx).1 k u hu
  refine ⟨ad, e, hb, (World.cell?_of_block (hg.block _ (by rw [block_of_add]; exact hb) ?_)).trans hc⟩
  intro e2
  injection e2 with e2
  rw [block_of_add] at e2
  obtain ⟨a0, y0, e0, _, hy0, d0⟩ := (h.2 x hx).1.at_ (k := 0) (by have := hl x hx; omega)
  obtain ⟨a1, y1, e1, _, hy1, d1⟩ := (h.2 x hx).1.at_ (k := 1) (by have := hl x hx; omega)
  rw [e] at e0 e1
  injection e0 with e0; subst e0
  injection e1 with e1; subst e1
  obtain ⟨s0, i0⟩ := hk.inv (p := ad.add 0) (by rw [block_of_add]; exact e2) d0
  obtain ⟨_, i1⟩ := hk.inv (p := ad.add 1) (by rw [block_of_add]; exact e2) d1
  have j0 := zAut_int i0
  have j1 := zAut_int i1
  rcases ad with ⟨b, o, sp⟩
  cases sp with
  | none =>
   have r0 : (Addr.add ⟨b, o, none⟩ 0).off = o := rfl
   have r1 : (Addr.add ⟨b, o, none⟩ 1).off = o + 1 := rfl
   omega
  | some z => unfold Addr.add at s0; simp at s0
theorem ref_mem {P R : Aut} (hp : WF P) (s r : Int) : ∀ u : List Int, refF P R s r u = refF P R s r (intS u P.al)
 | [] => rfl
 | x :: u => by
  have ih := ref_mem (R := R) hp s r u
  by_cases hx : hasB P.al x = true
  ·rw [show intS (x :: u) P.al = x :: intS u P.al by unfold intS; rw [List.filter_cons, if_pos hx]]
   unfold refF
   rw [ih]
  ·rw [show intS (x :: u) P.al = intS u P.al by unfold intS; rw [List.filter_cons, if_neg hx], ← ih]
   have hb : refB P R s r x = false := by
    unfold refB
    rw [lkE_none (fun y hy he => hx (by rw [← he.2]; exact (hp.erng y hy).2))]; rfl
   show (if refB P R s r x = true then x else refF P R s r u) = _
   rw [hb]; rfl
theorem badI_mem {P R : Aut} (hp : WF P) (u : List Int) (T : List (List Int)) (k : Nat) : badI P R u T k = badI P R (intS u P.al) T k := by
 unfold badI refT
 congr 1
 funext i
 rw [ref_mem hp]
theorem badU_mem {P R : Aut} (hp : WF P) (u : List Int) (T : List (List Int)) (k : Nat) : badU P R u T k = badU P R (intS u P.al) T k := by
 unfold badU
 rw [badI_mem hp]
 congr 1
 funext i
 unfold refT
 rw [ref_mem hp]
end Go.Proofs.YtcchnibgehonoaaDoor

/- Walks: the law's refusals. -/
namespace Go.Proofs.YtcchnibgehonoaaDoor
open Go.RowKit Go Go.Maps

/-- the post of the law's refusals -/
def RetRef (p : Aut) (l1 l2 : List Int) (w : World) (e : Ending) (w' : World) : Prop :=
 ∃ (A : Option Addr) (na ca : Nat) (M : Option Addr) (nm cm : Nat) (E : Option Addr) (ne ce : Nat) (v1 v2 : Value), e = .returned (.tuple #[.agg #[.slice A na ca, .int .i64 p.st, .slice M nm cm, .slice E ne ce], v1, v2]) ∧ AutR w' w'.heap.size A na ca M nm cm E ne ce p ∧ w'.ownsRow w.heap.size 3 1 v1 l1.length (iv l1) ∧ w'.ownsRow w.heap.size 3 1 v2 l2.length (iv l2) ∧ Below w.heap.size w w'

set_option maxRecDepth 100000 in
set_option maxHeartbeats 3200000 in
theorem law_refusals (A M E A' M' E' : Option Addr) (na ca nm cm ne ce na' ca' nm' cm' ne' ce' : Nat) (P R : Aut) (U : Option Addr) (cu nu : Nat) (u : List Int) (w : World) (hx : AutR w w.heap.size A na ca M nm cm E ne ce P) (hy : AutR w w.heap.size A' na' ca' M' nm' cm' E' ne' ce' R)
  (hul : u.length = nu) (hu : RdI w w.heap.size U u) (hu1 : nu ≤ cu) (hu2 : cu ≤ 9223372036854775807) (p : Aut) (T : List (List Int)) (hp : Prob P R u p T) (n : Nat) (hn : T.length = n) :
  Calls Tryd.prog 43 #[.agg #[.slice A na ca, .int .i64 P.st, .slice M nm cm, .slice E ne ce], .agg #[.slice A' na' ca', .int .i64 R.st, .slice M' nm' cm', .slice E' ne' ce'], .slice U nu cu] w (RetRef p (badI P R u T n) (badU P R u T n) w) := by
 obtain ⟨sp, hsp⟩ : ∃ s, P.st = s := ⟨_, rfl⟩
 obtain ⟨sr, hsr⟩ : ∃ s, R.st = s := ⟨_, rfl⟩
 rw [hsp, hsr]
 have hb1 := box_below w (.cells #[.slice A na ca, .int .i64 sp, .slice M nm cm, .slice E ne ce] 25)
 have hb2 := hb1.alloc hb1.size (.cells #[.slice A' na' ca', .int .i64 sr, .slice M' nm' cm', .slice E' ne' ce'] 25)
 have hb3 := hb2.alloc hb2.size (.cells #[.slice none 0 0, .int .i64 0, .slice none 0 0, .slice none 0 0] 25)
 have kP : Blk (((w.alloc (.cells #[.slice A na ca, .int .i64 sp, .slice M nm cm, .slice E ne ce] 25)).alloc (.cells #[.slice A' na' ca', .int .i64 sr, .slice M' nm' cm', .slice E' ne' ce'] 25)).alloc (.cells #[.slice none 0 0, .int .i64 0, .slice none 0 0, .slice none 0 0] 25)) w.heap.size 25 [.slice A na ca, .int .i64 sp, .slice M nm cm, .slice E ne ce] := ((Blk.new _ _ [_, _, _, _]).al _).al _
 have kR : Blk (((w.alloc (.cells #[.slice A na ca, .int .i64 sp, .slice M nm cm, .slice E ne ce] 25)).alloc (.cells #[.slice A' na' ca', .int .i64 sr, .slice M' nm' cm', .slice E' ne' ce'] 25)).alloc (.cells #[.slice none 0 0, .int .i64 0, .slice none 0 0, .slice none 0 0] 25)) (w.heap.size + 1) 25 [.slice A' na' ca', .int .i64 sr, .slice M' nm' cm', .slice E' ne' ce'] := (Blk.at_ _ _ [_, _, _, _] (by simp)).al _
 have kZ : Blk (((w.alloc (.cells #[.slice A na ca, .int .i64 sp, .slice M nm cm, .slice E ne ce] 25)).alloc (.cells #[.slice A' na' ca', .int .i64 sr, .slice M' nm' cm', .slice E' ne' ce'] 25)).alloc (.cells #[.slice none 0 0, .int .i64 0, .slice none 0 0, .slice none 0 0] 25)) (w.heap.size + 1 + 1) 25 [.slice none 0 0, .int .i64 0, .slice none 0 0, .slice none 0 0] := Blk.at_ _ _ [_, _, _, _] (by simp)
 have hs1 : (((w.alloc (.cells #[.slice A na ca, .int .i64 sp, .slice M nm cm, .slice E ne ce] 25)).alloc (.cells #[.slice A' na' ca', .int .i64 sr, .slice M' nm' cm', .slice E' ne' ce'] 25)).alloc (.cells #[.slice none 0 0, .int .i64 0, .slice none 0 0, .slice none 0 0] 25)).heap.size = w.heap.size + 3 := by simp
 have hbp := box_below (((w.alloc (.cells #[.slice A na ca, .int .i64 sp, .slice M nm cm, .slice E ne ce] 25)).alloc (.cells #[.slice A' na' ca', .int .i64 sr, .slice M' nm' cm', .slice E' ne' ce'] 25)).alloc (.cells #[.slice none 0 0, .int .i64 0, .slice none 0 0, .slice none 0 0] 25)) (.cells #[.slice A na ca, .int .i64 sp, .slice M nm cm, .slice E ne ce, .slice A' na' ca', .int .i64 sr, .slice M' nm' cm', .slice E' ne' ce'] 25)
 have hB7 := hb3.trans (hbp.mono hb3.size)
 have kL7 : Blk ((((w.alloc (.cells #[.slice A na ca, .int .i64 sp, .slice M nm cm, .slice E ne ce] 25)).alloc (.cells #[.slice A' na' ca', .int .i64 sr, .slice M' nm' cm', .slice E' ne' ce'] 25)).alloc (.cells #[.slice none 0 0, .int .i64 0, .slice none 0 0, .slice none 0 0] 25)).alloc (.cells #[.slice A na ca, .int .i64 sp, .slice M nm cm, .slice E ne ce, .slice A' na' ca', .int .i64 sr, .slice M' nm' cm', .slice E' ne' ce'] 25)) (w.heap.size + 1 + 1 + 1) 25 [.slice A na ca, .int .i64 sp, .slice M nm cm, .slice E ne ce, .slice A' na' ca', .int .i64 sr, .slice M' nm' cm', .slice E' ne' ce'] := Blk.at_ _ _ [_, _, _, _, _, _, _, _] (by simp)
 have hRL := two_rdl (x := ⟨A, na, ca, M, nm, cm, E, ne, ce, P⟩) (y := ⟨A', na', ca', M', nm', cm', E', ne', ce', R⟩) (by unfold avc; rw [hsp, hsr]; exact kL7) ((hx.below hB7).more hB7.size) ((hy.below hB7).more hB7.size)
 have hcl : chkL [P, R] = 0 := by
  obtain ⟨h1, h2, _, _⟩ := prbE_zero hp.err
  simp [chkL, chkLG, h1, h2]
 have hst : ∀ a ∈ [P, R], a.st ≤ 100 := fun a ha => by
  have := hp.sp; have := hp.sr
  rcases List.mem_cons.1 ha with rfl | ha
  ·omega
  ·obtain rfl := List.mem_singleton.1 ha; omega
 have HC := Lib.hid (product_Synchronous _ 2 2 _ _ rfl hRL (Nat.le_refl _) (by omega) (by rw [show List.map AV.a [⟨A, na, ca, M, nm, cm, E, ne, ce, P⟩, ⟨A', na', ca', M', nm', cm', E', ne', ce', R⟩] = [P, R] from rfl]; exact hcl) (by rw [show List.map AV.a [⟨A, na, ca, M, nm, cm, E, ne, ce, P⟩, ⟨A', na', ca', M', nm', cm', E', ne', ce', R⟩] = [P, R] from rfl]; exact hst))
 rw [show List.map AV.a [⟨A, na, ca, M, nm, cm, E, ne, ce, P⟩, ⟨A', na', ca', M', nm', cm', E', ne', ce', R⟩] = [P, R] from rfl, hp.syn] at HC
 have c0 := kP.cell (j := 0) rfl
 have c1 := kP.cell (j := 1) rfl
 have c2 := kP.cell (j := 2) rfl
 have c3 := kP.cell (j := 3) rfl
 have r0 := kR.cell (j := 0) rfl
 have r1 := kR.cell (j := 1) rfl
 have r2 := kR.cell (j := 2) rfl
 have r3 := kR.cell (j := 3) rfl
 have kP := kP.below hbp kP.lt
 have kR := kR.below hbp kR.lt
 have kZ := kZ.below hbp kZ.lt
 have hps : p.st = (n : Int) := by rw [hp.tups.1, hn]
 have hn4 : n ≤ 3600 := by rw [← hn]; exact hp.len
 obtain ⟨wa, hwa⟩ : ∃ wa, wa = (((w.alloc (.cells #[.slice A na ca, .int .i64 sp, .slice M nm cm, .slice E ne ce] 25)).alloc (.cells #[.slice A' na' ca', .int .i64 sr, .slice M' nm' cm', .slice E' ne' ce'] 25)).alloc (.cells #[.slice none 0 0, .int .i64 0, .slice none 0 0, .slice none 0 0] 25)).alloc (.cells #[.slice A na ca, .int .i64 sp, .slice M nm cm, .slice E ne ce, .slice A' na' ca', .int .i64 sr, .slice M' nm' cm', .slice E' ne' ce'] 25) := ⟨_, rfl⟩
 have hsa : w.heap.size + 3 ≤ wa.heap.size := by rw [hwa, World.size_alloc, hs1]; omega
 rw [← hwa] at HC kP kR kZ hB7
 have HWA := Lib.hid hwa; clear hwa
 have HX := Lib.hid hx; clear hx
 have HY := Lib.hid hy; clear hy
 have HU := Lib.hid hu; clear hu
 have HUL := Lib.hid hul; clear hul
 have HP := Lib.hid hp; clear hp
 have HN := Lib.hid hn; clear hn
 have HPS := Lib.hid hps; clear hps
 have HSP := Lib.hid hsp; clear hsp
 have HSR := Lib.hid hsr; clear hsr
 have KP := Lib.hid kP; clear kP
 have KR := Lib.hid kR; clear kR
 have KZ := Lib.hid kZ; clear kZ
 have HB7 := Lib.hid hB7; clear hB7
 have HS1 := Lib.hid hs1; clear hs1
 clear hb1 hb2 hb3 hbp kL7 hRL hcl hst
 go_enter Tryd.func43, Tryd.ntmps43
 go_wp2_with fail
 rw [← HWA.out]
 refine HC.out.mono ?_
 rintro e w8 ⟨hb8, A2, na2, ca2, M2, nm2, cm2, E2, ne2, ce2, B2, nb2, cb2, ts, rfl, ha2, hts, htl, htc, htc2, htt, hfr⟩
 obtain ⟨ps, hpe⟩ : ∃ s, p.st = s := ⟨_, rfl⟩
 rw [hpe]
 have KZ8 := Lib.hid (KZ.out.below hb8 KZ.out.lt)
 have hkr := KZ8.out
 have kR9 := KZ8.out
 have hB9 := HB7.out.trans (hb8.mono HB7.out.size)
 have f0 := kR9.free 0
 have f1 := kR9.free 1
 have f2 := kR9.free 2
 have f3 := kR9.free 3
 have e0 := kR9.cell (j := 0) rfl
 have e1 := kR9.cell (j := 1) rfl
 have e2 := kR9.cell (j := 2) rfl
 have e3 := kR9.cell (j := 3) rfl
 have l9 : w.heap.size + 1 + 1 < w8.heap.size := kR9.lt
 clear c0 c1 c2 c3 r0 r1 r2 r3 HC
 go_upto_region 2 with fail
 have hg4 : w8.grownBy ((((w8.setCell ⟨w.heap.size + 1 + 1, 0, none⟩ (.slice A2 na2 ca2)).setCell ⟨w.heap.size + 1 + 1, 1, none⟩ (.int .i64 ps)).setCell ⟨w.heap.size + 1 + 1, 2, none⟩ (.slice M2 nm2 cm2)).setCell ⟨w.heap.size + 1 + 1, 3, none⟩ (.slice E2 ne2 ce2)) (some (w.heap.size + 1 + 1)) := (((grown_setCell _ _ _ _).trans (grown_setCell _ _ _ _)).trans (grown_setCell _ _ _ _)).trans (grown_setCell _ _ _ _)
 have kz := (((hkr.set (j := 0) (by simp) (.slice A2 na2 ca2)).set (j := 1) (by simp) (.int .i64 ps)).set (j := 2) (by simp) (.slice M2 nm2 cm2)).set (j := 3) (by simp) (.slice E2 ne2 ce2)
 have ha3 := (AutR.keepF (r := w.heap.size + 1 + 1) ha2 (Fr3.mono hfr (by omega)) fun p h1 h2 => World.cell?_of_block (hg4.block _ h1 (by intro e; injection e with e; omega))).more hg4.size
 have htl2 : ∀ x ∈ ts, x.l.length = 2 := fun x hx => by
  have h1 : x.l ∈ T := by rw [← htt]; exact List.mem_map.2 ⟨x, hx, rfl⟩
  have h2 := (HP.out.tups.2 _ h1).len
  simpa using h2
 have hts3 := rds_apart hts hkr htl2 hg4
 have kp3 := (KP.out.below hb8 KP.out.lt).kept hg4 (by intro e; injection e with e; omega)
 have kr3 := (KR.out.below hb8 KR.out.lt).kept hg4 (by intro e; injection e with e; omega)
 have hB3 := hB9.grown hg4 hB9.size (fun j hj => by injection hj with hj; omega)
 clear f0 f1 f2 f3 e0 e1 e2 e3 l9 hB9 kR9 hkr KZ8 hts ha2 hb8 KP KR KZ HB7
 generalize ((((w8.setCell ⟨w.heap.size + 1 + 1, 0, none⟩ (.slice A2 na2 ca2)).setCell ⟨w.heap.size + 1 + 1, 1, none⟩ (.int .i64 ps)).setCell ⟨w.heap.size + 1 + 1, 2, none⟩ (.slice M2 nm2 cm2)).setCell ⟨w.heap.size + 1 + 1, 3, none⟩ (.slice E2 ne2 ce2)) = wz at kz ha3 hts3 kp3 kr3 hB3 ⊢
 have HT0 := Lib.hid (show TwoR wz.heap.size wz wz (.slice none 0 0) (.slice none 0 0) 0 0 (badI P R u T 0) (badU P R u T 0) from TwoR.start wz)
 obtain rfl : n = nb2 := by rw [← HN.out, ← htt, List.length_map, htl]
 have KZ := Lib.hid kz; clear kz
 have HA3 := Lib.hid ha3; clear ha3
 have HTS := Lib.hid hts3; clear hts3
 have KP := Lib.hid kp3; clear kp3
 have KR := Lib.hid kr3; clear kr3
 have HB3 := Lib.hid hB3; clear hB3
 have HTL := Lib.hid htl; clear htl
 have HTL2 := Lib.hid htl2; clear htl2
 have HTT := Lib.hid htt; clear htt
 have HFR := Lib.hid hfr; clear hfr
 have HPE := Lib.hid hpe; clear hpe
 clear hg4
 go_wp2
 go_loopw [7, 8, 11] (fun s7 s8 s11 wr => ∃ (k ns : Nat) (A4 A5 : Option Addr) (c4 c5 : Nat), s7 = .slice A4 ns c4 ∧ s8 = .slice A5 ns c5 ∧ s11 = .int .i64 k ∧ k ≤ n ∧ ns ≤ k ∧ Hid (TwoR wz.heap.size wz wr (.slice A4 ns c4) (.slice A5 ns c5) ns ns (badI P R u T k) (badU P R u T k))) (fun _ _ s11 _ => n - (intOf s11).toNat)
 case atStart => exact ⟨0, 0, none, none, 0, 0, rfl, rfl, rfl, Nat.zero_le _, Nat.le_refl _, HT0⟩
 case round =>
  clear HT0
  obtain ⟨k, ns, A4, A5, c4, c5', rfl, rfl, rfl, hk, hns, HT⟩ := hrel
  by_cases hlt : k < n
  ·have b1 : (k : Int) < (n : Int) := by omega
   obtain ⟨ta, sl, rfl, htb, hsl, hct, hsr, _, _⟩ := HTS.out.at_ (k := k) (by have := HTL.out; omega)
   have htk : T[k]? = some sl.l := by rw [← HTT.out, List.getElem?_map, hsl]; rfl
   obtain ⟨s, r, hsr2, _, _⟩ := HP.out.tup htk
   obtain ⟨Asl, c5, lsl⟩ := sl
   dsimp only at htk hct hsr hsr2
   subst hsr2
   obtain ⟨a5, _, rfl, _, _, _⟩ := hsr.at_ (k := 0) (by simp)
   have hct : wz.cell? (ta.add k) = some (.slice (some a5) 2 c5) := hct
   have HAT := Lib.hid (fun (W : World) (hb : Below wz.heap.size wz W) => by
    have kp := KP.out.below hb KP.out.lt
    have kr := KR.out.below hb KR.out.lt
    exact (show (W.cell? ⟨w.heap.size, 0, none⟩ = some (.slice A na ca) ∧ W.cell? ⟨w.heap.size, 1, none⟩ = some (.int .i64 sp) ∧ W.cell? ⟨w.heap.size, 2, none⟩ = some (.slice M nm cm) ∧ W.cell? ⟨w.heap.size, 3, none⟩ = some (.slice E ne ce)) ∧ (W.cell? ⟨w.heap.size + 1, 0, none⟩ = some (.slice A' na' ca') ∧ W.cell? ⟨w.heap.size + 1, 1, none⟩ = some (.int .i64 sr) ∧ W.cell? ⟨w.heap.size + 1, 2, none⟩ = some (.slice M' nm' cm') ∧ W.cell? ⟨w.heap.size + 1, 3, none⟩ = some (.slice E' ne' ce')) ∧ W.cell? (ta.add k) = some (.slice (some a5) 2 c5) from ⟨⟨kp.cell (j := 0) rfl, kp.cell (j := 1) rfl, kp.cell (j := 2) rfl, kp.cell (j := 3) rfl⟩, ⟨kr.cell (j := 0) rfl, kr.cell (j := 1) rfl, kr.cell (j := 2) rfl, kr.cell (j := 3) rfl⟩, (hb.cell (p := ta.add k) (by rw [block_of_add]; exact htb)).trans hct⟩)
   )
   obtain ⟨q, hq⟩ : ∃ q, refF P R s r u = q := ⟨_, rfl⟩
   have hq2 : refT P R u [s, r] = q := hq
   have HSR2 := Lib.hid hsr; clear hsr
   have HTK := Lib.hid htk; clear htk
   have HQ := Lib.hid hq; clear hq
   have HQ2 := Lib.hid hq2; clear hq2
   clear hct hsl
   go_upto_region 5 with fail
   refine wp_region_U (fun W => (W.cell? ⟨w.heap.size, 0, none⟩ = some (.slice A na ca) ∧ W.cell? ⟨w.heap.size, 1, none⟩ = some (.int .i64 sp) ∧ W.cell? ⟨w.heap.size, 2, none⟩ = some (.slice M nm cm) ∧ W.cell? ⟨w.heap.size, 3, none⟩ = some (.slice E ne ce)) ∧ (W.cell? ⟨w.heap.size + 1, 0, none⟩ = some (.slice A' na' ca') ∧ W.cell? ⟨w.heap.size + 1, 1, none⟩ = some (.int .i64 sr) ∧ W.cell? ⟨w.heap.size + 1, 2, none⟩ = some (.slice M' nm' cm') ∧ W.cell? ⟨w.heap.size + 1, 3, none⟩ = some (.slice E' ne' ce')) ∧ W.cell? (ta.add k) = some (.slice (some a5) 2 c5)) (fun _ => True) 8 (by kernel_rfl) ?_
   change anyU _ _ _ _ _ _ _ 9 _ _ _
   have hB0 : True := trivial
   have HTD := Lib.hid (HT.out.quiet (below_dr wr))
   generalize wr.drew = wd at HTD ⊢
   have hA0 := HAT.out wd HTD.out.bel
   have HBW := Lib.hid (HB3.out.trans (HTD.out.bel.mono HB3.out.size))
   have HRF := Lib.hid (law_refuses A M E A' M' E' na ca nm cm ne ce na' ca' nm' cm' ne' ce' P R a5 c5 s r U cu nu u wd ((HX.out.below HBW.out).more HBW.out.size) ((HY.out.below HBW.out).more HBW.out.size) HP.out.wp HP.out.wr HUL.out ((HU.out.below HBW.out).more HBW.out.size) (by omega) ((HSR2.out.below HTD.out.bel).more HTD.out.siz))
   rw [HSP.out, HSR.out, HQ.out] at HRF
   (refine uA 0 ?_ rfl hA0 hB0 (fun W hA => ?_) ?_; rotate_left; (· (obtain ⟨⟨a0, a1, a2, a3⟩, _, _⟩ := hA; go_simp; try with_reducible rfl)); (try simp only [Act.put, List.setIfInBounds_toArray, List.set_cons_zero, List.set_cons_succ]))
   (refine uA 1 ?_ rfl hA0 hB0 (fun W hA => ?_) ?_; rotate_left; (· (obtain ⟨_, ⟨a0, a1, a2, a3⟩, _⟩ := hA; go_simp; try with_reducible rfl)); (try simp only [Act.put, List.setIfInBounds_toArray, List.set_cons_zero, List.set_cons_succ]))
   (refine uA 2 ?_ rfl hA0 hB0 (fun W hA => ?_) ?_; rotate_left; (· (go_simp; try with_reducible rfl)); refine uA 3 ?_ rfl hA0 hB0 (fun W hA => ?_) ?_; rotate_left; (· (go_simp; try with_reducible rfl)); refine uA 4 ?_ rfl hA0 hB0 (fun W hA => ?_) ?_; rotate_left; (· (go_simp; try with_reducible rfl)); (try simp only [Act.put, List.setIfInBounds_toArray, List.set_cons_zero, List.set_cons_succ]))
   (refine uA 5 ?_ rfl hA0 hB0 (fun W hA => ?_) ?_; rotate_left; (· (obtain ⟨_, _, a4⟩ := hA; go_simp; try with_reducible rfl)); (try simp only [Act.put, List.setIfInBounds_toArray, List.set_cons_zero, List.set_cons_succ]))
   (refine uA 6 ?_ rfl hA0 hB0 (fun W hA => ?_) ?_; rotate_left; (· (go_simp; try with_reducible rfl)); (try simp only [Act.put, List.setIfInBounds_toArray, List.set_cons_zero, List.set_cons_succ]))
   refine uOne (i := 7) rfl (by kernel_rfl) (fun K hK => ?_)
   go_simp
   go_at_call 76
   refine HRF.out.mono ?_
   rintro e w5 ⟨rfl, hb5⟩
   have HT5 := Lib.hid (HTD.out.quiet hb5)
   have hA5 := HAT.out w5 HT5.out.bel
   clear hA0 hb5 HRF
   (refine hK _ _ ⟨hA5, fun _ => hB0⟩ ?_; clear hK K; (try simp only [Act.put, List.setIfInBounds_toArray, List.set_cons_zero, List.set_cons_succ]))
   refine uOne (i := 8) rfl (by kernel_rfl) (fun K hK => ?_)
   go_simp
   (refine hK _ _ ⟨hA5, fun h => absurd (h.symm.trans (by kernel_rfl : _ = true)) Bool.false_ne_true⟩ ?_; clear hK K; (try simp only [Act.put, List.setIfInBounds_toArray, List.set_cons_zero, List.set_cons_succ]))
   refine anyU_done (by kernel_rfl) ?_ _
   clear hA5 HT HTD HAT HBW
   have hbs : wz.heap.size ≤ w5.heap.size := HT5.out.siz
   by_cases h0 : 0 ≤ q
   ·have d1 : decide (0 ≤ q) = true := decide_eq_true h0
    have HI := Lib.hid (show badI P R u T (k + 1) = badI P R u T k ++ [(k : Int)] by rw [badI_snoc P R _ T HTK.out, HQ2.out, if_pos h0])
    have HJ := Lib.hid (show badU P R u T (k + 1) = badU P R u T k ++ [q] by rw [badU_snoc P R _ T HTK.out, HQ2.out, if_pos h0])
    clear h0
    go_wp2_with (first
     | (at_builtin; refine wpList_pushA w5 [.int .i64 (k : Int)] rfl (.tmp 37) (.tmp 39) 22 rfl wz.heap.size 3 (.int .i64 0) 1 8 Tryd.underlying22 int_info rfl (by decide) rfl (.slice A4 ns c4) ns _ rfl HT5.out.o1 rfl (fun z hz => by simp at hz; subst hz; rfl) (by omega) (by omega) hbs ?_; intro A6 c6 w6 ho6 hg6 hl6; have HT6 := Lib.hid (HT5.out.push ho6 hg6 hl6); have hbs6 : wz.heap.size ≤ w6.heap.size := HT6.out.siz; clear ho6 hg6 hl6)
     | (at_builtin; refine wpList_pushA w6 [.int .i64 q] rfl (.tmp 41) (.tmp 43) 22 rfl wz.heap.size 3 (.int .i64 0) 1 8 Tryd.underlying22 int_info rfl (by decide) rfl (.slice A5 ns c5') ns _ rfl HT6.out.o2 rfl (fun z hz => by simp at hz; subst hz; rfl) (by omega) (by omega) hbs6 ?_; intro A7 c7 w7 ho7 hg7 hl7; have HT7 := Lib.hid (HT6.out.swap.push ho7 hg7 hl7).swap; clear ho7 hg7 hl7))
    have hT7 := HT7.out
    rw [← HI.out, ← HJ.out] at hT7
    have HT8 := Lib.hid hT7; clear hT7
    go_roundw
    case rel => exact ⟨k + 1, ns + 1, A6, A7, c6, c7, rfl, rfl, by go_num, by omega, by omega, HT8⟩
    case measure => simp [intOf]; omega
   ·have d1 : decide (0 ≤ q) = false := decide_eq_false h0
    have hT5 := HT5.out
    rw [← (show badI P R u T (k + 1) = badI P R u T k by rw [badI_snoc P R _ T HTK.out, HQ2.out, if_neg h0, List.append_nil]), ← (show badU P R u T (k + 1) = badU P R u T k by rw [badU_snoc P R _ T HTK.out, HQ2.out, if_neg h0, List.append_nil])] at hT5
    have HT6 := Lib.hid hT5; clear hT5
    clear h0 HT5
    go_wp2
    go_roundw
    case rel => exact ⟨k + 1, ns, A4, A5, c4, c5', rfl, rfl, by go_num, by omega, by omega, HT6⟩
    case measure => simp [intOf]; omega
  ·obtain rfl : k = n := by omega
   have kR9 := KZ.out.below HT.out.bel KZ.out.lt
   have hB9 := HB3.out.trans (HT.out.bel.mono HB3.out.size)
   have hsz := HT.out.siz
   have hzl : w.heap.size + 1 + 1 < wz.heap.size := KZ.out.lt
   have f0 := kR9.free 0
   have f1 := kR9.free 1
   have f2 := kR9.free 2
   have f3 := kR9.free 3
   have e0 := kR9.cell (j := 0) rfl
   have e1 := kR9.cell (j := 1) rfl
   have e2 := kR9.cell (j := 2) rfl
   have e3 := kR9.cell (j := 3) rfl
   have l9 : w.heap.size + 1 + 1 < wr.heap.size := kR9.lt
   go_wp2
   have hb4 := (((kR9.set (j := 0) (by simp) (.slice A2 na2 ca2)).set (j := 1) (by simp) (.int .i64 ps)).set (j := 2) (by simp) (.slice M2 nm2 cm2)).set (j := 3) (by simp) (.slice E2 ne2 ce2)
   have z0 := hb4.cell (j := 0) rfl
   have z1 := hb4.cell (j := 1) rfl
   have z2 := hb4.cell (j := 2) rfl
   have z3 := hb4.cell (j := 3) rfl
   have hq : ∀ k : Nat, w.heap.size ≤ (⟨w.heap.size + 1 + 1, k, none⟩ : Addr).block := fun k => by show w.heap.size ≤ w.heap.size + 1 + 1; omega
   have F := (((hB9.setCell (p := ⟨w.heap.size + 1 + 1, 0, none⟩) (hq 0) (.slice A2 na2 ca2)).setCell (p := ⟨w.heap.size + 1 + 1, 1, none⟩) (hq 1) (.int .i64 ps)).setCell (p := ⟨w.heap.size + 1 + 1, 2, none⟩) (hq 2) (.slice M2 nm2 cm2)).setCell (p := ⟨w.heap.size + 1 + 1, 3, none⟩) (hq 3) (.slice E2 ne2 ce2)
   have hg : wr.grownBy ((((wr.setCell ⟨w.heap.size + 1 + 1, 0, none⟩ (.slice A2 na2 ca2)).setCell ⟨w.heap.size + 1 + 1, 1, none⟩ (.int .i64 ps)).setCell ⟨w.heap.size + 1 + 1, 2, none⟩ (.slice M2 nm2 cm2)).setCell ⟨w.heap.size + 1 + 1, 3, none⟩ (.slice E2 ne2 ce2)) (some (w.heap.size + 1 + 1)) := (((grown_setCell _ _ _ _).trans (grown_setCell _ _ _ _)).trans (grown_setCell _ _ _ _)).trans (grown_setCell _ _ _ _)
   refine bodyPost_ret (v := .tuple #[.agg #[.slice A2 na2 ca2, .int .i64 ps, .slice M2 nm2 cm2, .slice E2 ne2 ce2], .slice A4 ns c4, .slice A5 ns c5']) (by simp [results, Tryd.results43, go_sem, z0, z1, z2, z3]) rfl ?_
   have ha4 := (AutR.keepF (r := w.heap.size + 1 + 1) ((AutR.below HA3.out HT.out.bel).more hsz) (Fr3.mono HFR.out (by omega)) fun p h1 h2 => World.cell?_of_block (hg.block _ h1 (by intro e; injection e with e; omega))).more hg.size
   exact ⟨A2, na2, ca2, M2, nm2, cm2, E2, ne2, ce2, .slice A4 ns c4, .slice A5 ns c5', by rw [HPE.out], ha4, by rw [HT.out.e1]; exact own_base (own_kept_low HT.out.o1 hg (by omega)) HB3.out.size, by rw [HT.out.e2]; exact own_base (own_kept_low HT.out.o2 hg (by omega)) HB3.out.size, F⟩
end Go.Proofs.YtcchnibgehonoaaDoor

/- Walks: the law's problem. -/
namespace Go.Proofs.YtcchnibgehonoaaDoor
open Go.RowKit Go Go.Maps

end Go.Proofs.YtcchnibgehonoaaDoor

/- Walks: the law's few. -/
namespace Go.Proofs.YtcchnibgehonoaaDoor
open Go.RowKit Go Go.Maps

end Go.Proofs.YtcchnibgehonoaaDoor

/- Walks: automaton.Closed. -/
namespace Go.Proofs.YtcchnibgehonoaaDoor
open Go.RowKit Go Go.Maps

/-- all states marked -/
def cloA (a : Aut) : Aut := ⟨(canA a).al, (canA a).st, rngI (canA a).st, (canA a).ed⟩
structure ClsM (p b : Nat) (w0 w : World) (V : Option Addr) (nv cv : Nat) (al : List Int) (sv : Value) (E : Option Addr) (ne ce : Nat) (es : List Ed) (mv : Value) (nm : Nat) (mk : List Int) : Prop where
 pb : p + 1 < b
 bel : Below p w0 w
 res : Blk w (p + 1) 25 [.slice none 0 0, .int .i64 0, .slice none 0 0, .slice none 0 0]
 out : Blk w b 25 [.slice V nv cv, sv, mv, .slice E ne ce]
 alo : w.ownsRow (p + 2) 3 1 (.slice V nv cv) nv (iv al)
 edo : w.ownsRow (p + 2) 83 3 (.slice E ne ce) ne (es.flatMap edc)
 vlt : ∀ g, (Value.slice V nv cv).ownBlock = some g → g < b
 elt : ∀ g, (Value.slice E ne ce).ownBlock = some g → g < b
 mrk : w.ownsRow (b + 1) 3 1 mv nm (iv mk)
 mkl : mk.length = nm
section
variable {p b : Nat} {w0 w w' : World} {V E : Option Addr} {nv cv ne ce nm : Nat} {al mk : List Int} {sv mv : Value} {es : List Ed}
theorem ClsM.mark (h : ClsM p b w0 w V nv cv al sv E ne ce es mv nm mk) {A : Option Addr} {c : Nat} {i : Int} (ho : w'.ownsRow (b + 1) 3 1 (.slice A (nm + 1) c) (nm + 1) (iv mk ++ [.int .i64 i])) (hg : w.grownBy w' mv.ownBlock) :
  ClsM p b w0 (w'.setCell ⟨b, 2, none⟩ (.slice A (nm + 1) c)) V nv cv al sv E ne ce es (.slice A (nm + 1) c) (nm + 1) (mk ++ [i]) := by
 have hp := h.pb
 have hlt : b < w.heap.size := h.out.lt
 have hb := h.bel.grown hg (by omega) (fun j hj => by have := (h.mrk.lt j hj).1; omega)
 have hal := own_far h.alo hg (fun g e1 e2 => by have := h.vlt g e1; have := (h.mrk.lt g e2).1; omega)
 have hed := own_far h.edo hg (fun g e1 e2 => by have := h.elt g e1; have := (h.mrk.lt g e2).1; omega)
 have hout := h.out.kept hg (own_lt_ne h.mrk (Nat.lt_succ_self _))
 have hres := h.res.kept hg (own_lt_ne h.mrk (by omega))
 have hs := grown_setCell w' b 2 (.slice A (nm + 1) c)
 refine ⟨h.pb, hb.setCell (by show p ≤ b; omega) _, hres.kept hs (by intro e; injection e with e; omega), hout.set (by simp) _, hal.kept hs ?_, hed.kept hs ?_, h.vlt, h.elt, own_kept_low (by rw [iv_append]; exact ho) hs (Nat.lt_succ_self _), by simp [h.mkl]⟩
 ·cases hv : (Value.slice V nv cv).ownBlock with
  | none => exact .inl rfl
  | some g => exact .inr (fun e => by injection e with e; have := h.vlt g hv; omega)
 ·cases hv : (Value.slice E ne ce).ownBlock with
  | none => exact .inl rfl
  | some g => exact .inr (fun e => by injection e with e; have := h.elt g hv; omega)
end
end Go.Proofs.YtcchnibgehonoaaDoor
