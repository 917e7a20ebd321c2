/- Walks: the law's step. -/
import Derived.Test.YtioijhpbedmeaaaGreatDoorGa
import Derived.Test.YtioijhpbedmeaaaGreatDoorTu
import Derived.Deep.Cut
namespace Go.Proofs.YtioijhpbedmeaaaGreatDoor
open Go.RowKit Go

set_option maxRecDepth 100000 in
set_option maxHeartbeats 1600000 in
theorem law_step (A : Option Addr) (na ca : Nat) (M : Option Addr) (nm cm : Nat) (E : Option Addr) (ne ce : Nat) (a : Aut) (s v : Int) (w : World) (h : AutR w w.heap.size A na ca M nm cm E ne ce a) :
  Calls Tryz.prog 14 #[.agg #[.slice A na ca, .int .i64 a.st, .slice M nm cm, .slice E ne ce], .int .i64 s, .int .i64 v] w fun e w' => e = .returned (.int .i64 (nxt a s v)) ∧ Below w.heap.size w w' := by
 have hB0 := box_below w (.cells #[.slice A na ca, .int .i64 a.st, .slice M nm cm, .slice E ne ce] 33)
 have hE := (h.re.below hB0).more hB0.size
 have k0 : Blk (w.alloc (.cells #[.slice A na ca, .int .i64 a.st, .slice M nm cm, .slice E ne ce] 33)) w.heap.size 33 [.slice A na ca, .int .i64 a.st, .slice M nm cm, .slice E ne ce] := Blk.new _ _ [_, _, _, _]
 have hle := h.le
 have hec := h.ec
 have hcE := h.cE
 obtain ⟨r, hr⟩ : ∃ r, nxt a s v = r := ⟨_, rfl⟩
 rw [hr]
 have HR := Lib.hid (show r = nxtE s v (a.ed.drop 0) from hr.symm)
 have HLE := Lib.hid hle; clear hle
 clear hr h
 go_enter Tryz.func14, Tryz.ntmps14
 go_upto_region 1 with fail
 generalize w.alloc (.cells #[.slice A na ca, .int .i64 a.st, .slice M nm cm, .slice E ne ce] 33) = w1 at hB0 hE k0 ⊢
 have c3 := k0.cell (j := 3) rfl
 have HB0 := Lib.hid hB0
 have HE := Lib.hid hE
 have HS0 := Lib.hid (Below.refl w1.heap.size w1)
 clear hB0 hE k0
 go_wp2
 clear c3
 go_loopw [8, 12] (fun s8 s12 wr => ∃ (k : Nat) (v8 : Value), s8 = v8 ∧ s12 = .int .i64 k ∧ k ≤ ne ∧ Hid (r = nxtE s v (a.ed.drop k)) ∧ Hid (Below w1.heap.size w1 wr)) (fun _ s12 _ => ne - (intOf s12).toNat)
 case atStart => exact ⟨0, _, rfl, rfl, Nat.zero_le _, HR, HS0⟩
 case round =>
  obtain ⟨k, v8, rfl, rfl, hk, HX, HB⟩ := hrel
  clear HR HS0
  by_cases hlt : k < ne
  ·obtain ⟨ad, x, rfl, hbb, hx, q0, q1, q2⟩ := (HE.out.below HB.out).at_ (k := k) (by have := HLE.out; omega)
   have b1 : (k : Int) < (ne : Int) := by omega
   have p1 := st_cells (j := 0) q1
   have p2 := st_cells (j := 1) q2
   clear q1 q2 hbb
   simp only [Nat.zero_add, Nat.reduceAdd] at p1 p2
   have HGX := Lib.hid hx; clear hx
   have HN := Lib.hid (HB.out.alloc HB.out.size (.cells #[.int .i64 x.f, .int .i64 x.e, .int .i64 x.t] 49))
   have HF := Lib.hid (HB0.out.trans (HN.out.mono HB0.out.size))
   by_cases c1 : x.f = s
   ·have d1 : (x.f == s) = true := by simpa using c1
    by_cases c2 : x.e = v
    ·have d2 : (x.e == v) = true := by simpa using c2
     have HQ := Lib.hid (show r = x.t by rw [HX.out, nxtE_hit HGX.out c1 c2])
     clear c1 c2
     go_wp2
     go_ret
     exact ⟨ret_int HQ.out.symm, HF.out⟩
    ·have d2 : (x.e == v) = false := by simpa using c2
     have HQ := Lib.hid (show r = nxtE s v (a.ed.drop (k + 1)) by rw [HX.out, nxtE_go HGX.out (fun e => c2 e.2)])
     clear c1 c2
     go_wp2
     go_roundw
     case rel => exact ⟨k + 1, _, rfl, by go_num, by omega, HQ, HN⟩
     case measure => simp [intOf]; omega
   ·have d1 : (x.f == s) = false := by simpa using c1
    have HQ := Lib.hid (show r = nxtE s v (a.ed.drop (k + 1)) by rw [HX.out, nxtE_go HGX.out (fun e => c1 e.1)])
    clear c1
    go_wp2
    go_roundw
    case rel => exact ⟨k + 1, _, rfl, by go_num, by omega, HQ, HN⟩
    case measure => simp [intOf]; omega
  ·have hf : r = -1 := by rw [HX.out, nxtE_end (by have := HLE.out; omega)]
   have HF := Lib.hid hf; clear hf
   have HG := Lib.hid (HB0.out.trans (HB.out.mono HB0.out.size))
   go_wp2
   go_ret
   exact ⟨ret_int HF.out.symm, HG.out⟩
end Go.Proofs.YtioijhpbedmeaaaGreatDoor
