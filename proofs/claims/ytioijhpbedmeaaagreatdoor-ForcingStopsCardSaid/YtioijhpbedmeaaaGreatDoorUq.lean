/- Walks: the loop's wrong. -/
import Derived.Test.YtioijhpbedmeaaaGreatDoorUp
namespace Go.Proofs.YtioijhpbedmeaaaGreatDoor
open Go.RowKit Go

/-- must an event not be refused, if it is? -/
def mustB (q : Aut) (U F : List Int) (tick i v : Int) : Bool := hasB U v || (v == tick && (frcE q F i).isEmpty)
theorem wrg_flt (P q : Aut) (T : List (List Int)) (U F : List Int) (tick i : Int) : (refL P q T i).filter (mustB q U F tick i) = wrgE P q T U F tick i := by
 unfold refL wrgE
 rw [List.filter_filter]
 refine List.filter_congr fun v _ => ?_
 unfold wrgB mustB
 rw [Bool.and_comm]
theorem flt_pos {l : List Int} {k : Nat} {x : Int} {p : Int → Bool} (h : l[k]? = some x) (hp : p x = true) : (l.take (k + 1)).filter p = (l.take k).filter p ++ [x] := by
 rw [take_snoc' h, List.filter_append, List.filter_cons_of_pos hp]; rfl
theorem flt_neg {l : List Int} {k : Nat} {x : Int} {p : Int → Bool} (h : l[k]? = some x) (hp : p x = false) : (l.take (k + 1)).filter p = (l.take k).filter p := by
 rw [take_snoc' h, List.filter_append, List.filter_cons_of_neg (by rw [hp]; simp), List.filter_nil, List.append_nil]
set_option maxRecDepth 100000 in
set_option maxHeartbeats 3200000 in
theorem loop_wrong (b : Nat) (z : SV) (x : AV) (q : Aut) (B : Option Addr) (nb cb : Nat) (T : List (List Int)) (i : Int) (w : World) (h : LpR w b z x B nb cb T) (hP : Prob z.p.a z.s.a q T) (hq : x.a = q) (hU : subE z.u z.p.a.al = 0) (hF : subE z.f z.p.a.al = 0) (h0 : 0 ≤ i) (h1 : i < q.st) :
  Calls Tryz.prog 45 #[.pointer (some ⟨b, 0, none⟩), .int .i64 i] w (RetO 3 (wrgE z.p.a q T z.u z.f z.tick i) w) := by
 have HRF := Lib.hid (loop_refused b z x q B nb cb T i w h hP hq h0 h1)
 have HFC := Lib.hid (fun (W : World) (hb : Below w.heap.size w W) => loop_forced b z x q B nb cb T i W (h.below hb) hP hq hF h0 h1)
 have HIU := Lib.hid (setErr_inc (subE_ok hU).1)
 have HCT := Lib.hid (fun (v : Int) (t : Bool) (W : World) (hb : Below w.heap.size w W) (ht : hasB z.u v = t) => alphabet_Contains_n z.U z.cu z.nu z.u v t W (h.below hb).zo.lu ht (h.below hb).zo.ru (by have := inc_len (n := 32) HIU.out.1 HIU.out.2; have := h.zo.lu; omega) HIU.out.1)
 have HLN := Lib.hid (show (refL z.p.a q T i).length ≤ 32 from Nat.le_trans (List.length_filter_le _ _) hP.wp.al_le)
 have HC := Lib.hid (fun (W : World) (hb : Below w.heap.size w W) => (h.below hb).c)
 clear h hF hU
 obtain ⟨⟨A, na, ca, M, nm, cm, E, ne, ce, P⟩, ⟨A', na', ca', M', nm', cm', E', ne', ce', S⟩, U, nu, cu, u, F, nf, cf, f, tick⟩ := z
 obtain ⟨A2, na2, ca2, M2, nm2, cm2, E2, ne2, ce2, q'⟩ := x
 dsimp only at hq hP HRF HFC HCT HLN ⊢
 obtain rfl := hq
 clear hP
 rw [← wrg_flt]
 go_enter Tryz.func45, Tryz.ntmps45
 go_wp2_with fail
 refine HRF.out.mono ?_
 rintro e w3 ⟨v, rfl, ho, hb3⟩
 obtain ⟨V, c, rfl, p1, p2, hr⟩ := own_slI ho
 have HR := Lib.hid hr
 have HBW := Lib.hid hb3
 obtain ⟨n, hn⟩ : ∃ n, (refL P q' T i).length = n := ⟨_, rfl⟩
 have hn32 := HLN.out
 rw [hn] at p1 hn32 ⊢
 have HN := Lib.hid hn; clear hn
 have HO0 := Lib.hid (World.ownsRow_nil w3 w3.heap.size 3 1)
 have HBZ := Lib.hid (Below.refl w3.heap.size w3)
 clear hr ho hb3 HRF HLN
 go_wp2
 go_loopw [5, 7, 12] (fun s5 s7 s12 wr => ∃ (k m : Nat) (v5 v7 : Value), s5 = v5 ∧ s7 = v7 ∧ s12 = .int .i64 k ∧ k ≤ n ∧ m ≤ k ∧ Hid (((((refL P q' T i).take k).filter (mustB q' u f tick i))).length = m) ∧ Hid (wr.ownsRow w3.heap.size 3 1 v5 m (iv (((refL P q' T i).take k).filter (mustB q' u f tick i)))) ∧ Hid (Below w3.heap.size w3 wr)) (fun _ _ s12 _ => n - (intOf s12).toNat)
 case atStart => exact ⟨0, 0, _, _, rfl, rfl, rfl, Nat.zero_le _, Nat.le_refl _, Lib.hid rfl, HO0, HBZ⟩
 case round =>
  clear HO0 HBZ
  obtain ⟨k, m, v5, v7, rfl, rfl, rfl, hk, hmk, HML, HO, HB⟩ := hrel
  by_cases hlt : k < n
  ·have b1 : (k : Int) < (n : Int) := by omega
   obtain ⟨ad, y, rfl, hbb, hy, hcell⟩ := (HR.out.below HB.out).at_ (k := k) (by have := HN.out; omega)
   have HX := Lib.hid hy
   have HBT := Lib.hid (HBW.out.trans (HB.out.mono HBW.out.size))
   have a8 := HC.out wr HBT.out 8 _ rfl
   have a10 := HC.out wr HBT.out 10 _ rfl
   dsimp only at a8 a10
   have hsz : w3.heap.size ≤ wr.heap.size := HB.out.size
   obtain ⟨t, ht⟩ : ∃ t, hasB u y = t := ⟨_, rfl⟩
   have HK := Lib.hid (HCT.out y t wr HBT.out ht)
   have HT := Lib.hid ht
   clear hy ht hbb
   go_wp2_with fail
   refine HK.out.mono ?_
   rintro e w4 ⟨rfl, rfl⟩
   clear HK
   cases t with
   | true =>
    have HG := Lib.hid (flt_pos (p := mustB q' u f tick i) HX.out (by unfold mustB; rw [HT.out]; rfl))
    have HL3 := Lib.hid (show (((refL P q' T i).take (k + 1)).filter (mustB q' u f tick i)).length = m + 1 by rw [HG.out, List.length_append, HML.out]; rfl)
    go_wp2_with (at_builtin; refine wpList_push wr (.int .i64 y) rfl (.tmp 39) (.tmp 41) 30 rfl w3.heap.size 3 (.int .i64 0) 8 Tryz.underlying30 int_info rfl u5 m _ rfl HO.out rfl rfl (by omega) (by omega) hsz ?_; intro v' w' ho' hg' hb1)
    have HO5 := Lib.hid (show w'.ownsRow w3.heap.size 3 1 v' (m + 1) (iv (((refL P q' T i).take (k + 1)).filter (mustB q' u f tick i))) from by rw [HG.out, iv_append]; exact ho')
    have HB5 := Lib.hid (HB.out.trans hb1)
    clear ho' hg' hb1 hsz
    go_wp2
    go_roundw
    case rel => exact ⟨k + 1, m + 1, _, _, rfl, rfl, by go_num, by omega, by omega, HL3, HO5, HB5⟩
    case measure => simp [intOf]; omega
   | false =>
    by_cases hy : y = tick
    ·subst hy
     have e1 : (y == y) = true := by simp
     have HFD := Lib.hid (HFC.out wr HBT.out)
     obtain ⟨nn, hnn⟩ : ∃ nn, (frcE q' f i).length = nn := ⟨_, rfl⟩
     go_wp2_with fail
     refine HFD.out.mono ?_
     rintro e w6 ⟨v6, rfl, ho6, hb6⟩
     obtain ⟨V6, c6, rfl⟩ := own_shape ho6
     rw [hnn]
     have HB6 := Lib.hid (HB.out.trans (hb6.mono HB.out.size))
     have HO6 := Lib.hid (own_below HO.out hb6)
     have hsz : w3.heap.size ≤ w6.heap.size := HB6.out.size
     have HNN := Lib.hid hnn
     clear ho6 hb6 hnn a8 a10 hcell
     by_cases hz : nn = 0
     ·subst hz
      have HG := Lib.hid (flt_pos (p := mustB q' u f y i) HX.out (by unfold mustB; rw [HT.out, List.length_eq_zero_iff.1 HNN.out]; simp))
      have HL3 := Lib.hid (show (((refL P q' T i).take (k + 1)).filter (mustB q' u f y i)).length = m + 1 by rw [HG.out, List.length_append, HML.out]; rfl)
      go_wp2_with (at_builtin; refine wpList_push w6 (.int .i64 y) rfl (.tmp 39) (.tmp 41) 30 rfl w3.heap.size 3 (.int .i64 0) 8 Tryz.underlying30 int_info rfl u5 m _ rfl HO6.out rfl rfl (by omega) (by omega) hsz ?_; intro v' w' ho' hg' hb1)
      have HO5 := Lib.hid (show w'.ownsRow w3.heap.size 3 1 v' (m + 1) (iv (((refL P q' T i).take (k + 1)).filter (mustB q' u f y i))) from by rw [HG.out, iv_append]; exact ho')
      have HB5 := Lib.hid (HB6.out.trans hb1)
      clear ho' hg' hb1 hsz
      go_wp2
      go_roundw
      case rel => exact ⟨k + 1, m + 1, _, _, rfl, rfl, by go_num, by omega, by omega, HL3, HO5, HB5⟩
      case measure => simp [intOf]; omega
     ·have hz' : ((nn : Int) == 0) = false := by simp; omega
      have HZ := Lib.hid (show (frcE q' f i).isEmpty = false by cases hq : frcE q' f i with | nil => (rw [hq] at HNN; exact absurd HNN.out.symm hz) | cons => rfl)
      have HG := Lib.hid (flt_neg (p := mustB q' u f y i) HX.out (by unfold mustB; rw [HT.out, HZ.out]; simp))
      have HL3 := Lib.hid (show (((refL P q' T i).take (k + 1)).filter (mustB q' u f y i)).length = m by rw [HG.out, HML.out])
      have HO5 := Lib.hid (show w6.ownsRow w3.heap.size 3 1 u5 m (iv (((refL P q' T i).take (k + 1)).filter (mustB q' u f y i))) from by rw [HG.out]; exact HO6.out)
      go_wp2
      go_roundw
      case rel => exact ⟨k + 1, m, _, _, rfl, rfl, by go_num, by omega, by omega, HL3, HO5, HB6⟩
      case measure => simp [intOf]; omega
    ·have e1 : (y == tick) = false := by simpa using hy
     have HE := Lib.hid e1
     clear hy
     have HG := Lib.hid (flt_neg (p := mustB q' u f tick i) HX.out (by unfold mustB; rw [HT.out, HE.out]; rfl))
     have HL3 := Lib.hid (show (((refL P q' T i).take (k + 1)).filter (mustB q' u f tick i)).length = m by rw [HG.out, HML.out])
     have HO5 := Lib.hid (show wr.ownsRow w3.heap.size 3 1 u5 m (iv (((refL P q' T i).take (k + 1)).filter (mustB q' u f tick i))) from by rw [HG.out]; exact HO.out)
     go_wp2
     go_roundw
     case rel => exact ⟨k + 1, m, _, _, rfl, rfl, by go_num, by omega, by omega, HL3, HO5, HB⟩
     case measure => simp [intOf]; omega
  ·obtain rfl : k = n := by omega
   have b1 : ¬ (k : Int) < (k : Int) := by omega
   rw [List.take_of_length_le (by rw [HN.out]; exact Nat.le_refl _)] at HO HML
   go_wp2
   go_ret
   exact ⟨_, rfl, by rw [HML.out]; exact own_base HO.out HBW.out.size, HBW.out.trans (HB.out.mono HBW.out.size)⟩
end Go.Proofs.YtioijhpbedmeaaaGreatDoor
