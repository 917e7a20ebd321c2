/- Walks: the reference's Check of an automaton and of a list; ref01.Contains, ref03.has, ref03.List. -/
import Derived.Test.YtddhaidimadliaaSa
import Derived.Test.YtddhaidimadliaaAa
import Derived.Test.YtddhaidimadliaaQa
import Derived.Test.YtddhaidimadliaaMe
import Derived.Deep.RegionHeld3
import Derived.Deep.AppendLies
namespace Go.Proofs.Ytddhaidimadliaa
open Go.RowKit Go

set_option maxHeartbeats 800000 in
theorem ref_has (A : Option Addr) (c n : Nat) (l : List Int) (x : Int) (q : Bool) (w : World) (hl : l.length = n) (hq : hasB l x = q) (h : RdI w w.heap.size A l) (hlc : n ≤ c) (hc : c ≤ 9223372036854775807) :
  Calls Try.prog 117 #[.slice A n c, .int .i64 x] w fun e w' => e = .returned (.bool q) ∧ w = w' := by
 have HL := Lib.hid hl; clear hl
 have HQ := Lib.hid hq; clear hq
 go_enter Try.func117, Try.ntmps117
 go_wp2
 go_loop [5] (fun i => ∃ k : Nat, k ≤ n ∧ i = .int .i64 k ∧ Hid (∀ j < k, l[j]? ≠ some x)) (fun i => n - (intOf i).toNat)
 case atStart => exact ⟨0, Nat.zero_le _, rfl, Lib.hid (fun j hj => by omega)⟩
 case round =>
  obtain ⟨k, hk, rfl, HX⟩ := hrel
  by_cases hlt : k < n
  ·obtain ⟨ad, y, rfl, _, hy, hcy⟩ := h.at_ (k := k) (by have := HL.out; omega)
   have b1 : (k : Int) < (n : Int) := by omega
   by_cases hxy : y = x
   ·have hf : q = true := HQ.out.symm.trans (hasB_mem.2 (by rw [← hxy]; exact List.mem_of_getElem? hy))
    have e1 : (y == x) = true := by simpa using hxy
    have HF := Lib.hid hf; clear hf
    have HY := Lib.hid hy; clear hy
    subst hxy
    go_wp2
    go_ret
    exact ⟨ret_bool HF.out.symm, rfl⟩
   ·have e1 : (y == x) = false := by simpa using hxy
    have hx2 : ∀ j < k + 1, l[j]? ≠ some x := fun j hj => by
     rcases Nat.lt_or_ge j k with h1 | h1
     ·exact HX.out j h1
     ·obtain rfl : j = k := by omega
      rw [hy]; intro e; injection e with e; exact hxy e
    have HX2 := Lib.hid hx2; clear hx2
    have HY := Lib.hid hy; clear hy
    go_wp2
    go_round
    case rel => exact ⟨k + 1, by omega, by go_num, HX2⟩
    case measure => simp [intOf]; omega
  ·have hf : q = false := by
    rw [← HQ.out, Bool.eq_false_iff]
    intro hh
    obtain ⟨j, hj⟩ := List.getElem?_of_mem (hasB_mem.1 hh)
    have := (List.getElem?_eq_some_iff.1 hj).1
    exact HX.out j (by have := HL.out; omega) hj
   have HF := Lib.hid hf; clear hf
   go_wp2
   go_ret
   exact ⟨ret_bool HF.out.symm, rfl⟩

end Go.Proofs.Ytddhaidimadliaa

/- Walks: ref03.Step, ref06.Next, ref03.index, ref03.Empty; the statements' Set.Events. -/
namespace Go.Proofs.Ytddhaidimadliaa
open Go.RowKit Go

set_option maxRecDepth 100000 in
set_option maxHeartbeats 1600000 in
theorem ref_Step3 (A : Option Addr) (na ca : Nat) (M : Option Addr) (nm cm : Nat) (E : Option Addr) (ne ce : Nat) (a : Aut) (s v : Int) (w : World) (h : AutR w w.heap.size A na ca M nm cm E ne ce a) :
  Calls Try.prog 118 #[.agg #[.slice A na ca, .int .i64 a.st, .slice M nm cm, .slice E ne ce], .int .i64 s, .int .i64 v] w fun e w' => e = .returned (.int .i64 (nxt a s v)) ∧ Below w.heap.size w w' := by
 have hB0 := box_below w (.cells #[.slice A na ca, .int .i64 a.st, .slice M nm cm, .slice E ne ce] 34)
 have hE := (h.re.below hB0).more hB0.size
 have hle := h.le
 have hec := h.ec
 have hcE := h.cE
 obtain ⟨r, hr⟩ : ∃ r, nxt a s v = r := ⟨_, rfl⟩
 rw [hr]
 have HR := Lib.hid (show r = nxtE s v (a.ed.drop 0) from hr.symm)
 have HLE := Lib.hid hle; clear hle
 clear hr h
 go_enter Try.func118, Try.ntmps118
 go_wp2
 go_loop [7] (fun i => ∃ k : Nat, k ≤ ne ∧ i = .int .i64 k ∧ Hid (r = nxtE s v (a.ed.drop k))) (fun i => ne - (intOf i).toNat)
 case atStart => exact ⟨0, Nat.zero_le _, rfl, HR⟩
 case round =>
  obtain ⟨k, hk, rfl, HX⟩ := hrel
  clear HR
  by_cases hlt : k < ne
  ·obtain ⟨ad, x, rfl, hbb, hx, q0, q1, q2⟩ := hE.at_ (k := k) (by have := HLE.out; omega)
   have b1 : (k : Int) < (ne : Int) := by omega
   have p1 := st_cells (j := 0) q1
   have p2 := st_cells (j := 1) q2
   clear q1 q2
   simp only [Nat.zero_add, Nat.reduceAdd] at p1 p2
   have HGX := Lib.hid hx; clear hx
   by_cases c1 : x.f = s
   ·have d1 : (x.f == s) = true := by simpa using c1
    by_cases c2 : x.e = v
    ·have d2 : (x.e == v) = true := by simpa using c2
     have HB := Lib.hid (show r = x.t by rw [HX.out, nxtE_hit HGX.out c1 c2])
     clear c1 c2
     go_wp2
     go_ret
     exact ⟨ret_int HB.out.symm, hB0⟩
    ·have d2 : (x.e == v) = false := by simpa using c2
     have HB := Lib.hid (show r = nxtE s v (a.ed.drop (k + 1)) by rw [HX.out, nxtE_go HGX.out (fun e => c2 e.2)])
     clear c1 c2
     go_wp2
     go_round
     case rel => exact ⟨k + 1, by omega, by go_num, HB⟩
     case measure => simp [intOf]; omega
   ·have d1 : (x.f == s) = false := by simpa using c1
    have HB := Lib.hid (show r = nxtE s v (a.ed.drop (k + 1)) by rw [HX.out, nxtE_go HGX.out (fun e => c1 e.1)])
    clear c1
    go_wp2
    go_round
    case rel => exact ⟨k + 1, by omega, by go_num, HB⟩
    case measure => simp [intOf]; omega
  ·have hf : r = -1 := by rw [HX.out, nxtE_end (by have := HLE.out; omega)]
   have HF := Lib.hid hf; clear hf
   go_wp2
   go_ret
   exact ⟨ret_int HF.out.symm, hB0⟩
set_option maxHeartbeats 800000 in
theorem ref_index (A : Option Addr) (c n : Nat) (l : List Int) (x : Int) (w : World) (hl : l.length = n) (h : RdI w w.heap.size A l) (hlc : n ≤ c) (hc : c ≤ 9223372036854775807) :
  Calls Try.prog 119 #[.slice A n c, .int .i64 x] w fun e w' => e = .returned (.int .i64 (idx l x)) ∧ w = w' := by
 have HL := Lib.hid hl; clear hl
 obtain ⟨r, hr⟩ : ∃ r, idx l x = r := ⟨_, rfl⟩
 rw [hr]
 have HR := Lib.hid hr; clear hr
 go_enter Try.func119, Try.ntmps119
 go_wp2
 go_loop [5] (fun i => ∃ k : Nat, k ≤ n ∧ i = .int .i64 k ∧ Hid (x ∉ l.take k)) (fun i => n - (intOf i).toNat)
 case atStart => exact ⟨0, Nat.zero_le _, rfl, Lib.hid (by simp)⟩
 case round =>
  obtain ⟨k, hk, rfl, HX⟩ := hrel
  by_cases hlt : k < n
  ·obtain ⟨ad, y, rfl, _, hy, hcy⟩ := h.at_ (k := k) (by have := HL.out; omega)
   have b1 : (k : Int) < (n : Int) := by omega
   by_cases hxy : y = x
   ·have e1 : (y == x) = true := by simpa using hxy
    have HF := Lib.hid (show r = (k : Int) by rw [← HR.out]; exact idx_hit (by rw [hy, hxy]) HX.out)
    have HY := Lib.hid hy; clear hy
    clear hxy
    go_wp2
    go_ret
    exact ⟨ret_int HF.out.symm, rfl⟩
   ·have e1 : (y == x) = false := by simpa using hxy
    have HX2 := Lib.hid (not_take_succ hy HX.out hxy)
    have HY := Lib.hid hy; clear hy
    clear hxy
    go_wp2
    go_round
    case rel => exact ⟨k + 1, by omega, by go_num, HX2⟩
    case measure => simp [intOf]; omega
  ·have HF := Lib.hid (show r = -1 by rw [← HR.out]; exact idx_end HX.out (by have := HL.out; omega))
   go_wp2
   go_ret
   exact ⟨ret_int HF.out.symm, rfl⟩

theorem Blk.alc {w : World} {b : Nat} {t : TypeId} {vs : List Value} (h : Blk w b t vs) (o : Obj) : Blk (w.alloc o) b t vs := h.below (box_below _ _) h.lt
/-- An automaton of the call's own. -/
structure AutO (w : World) (base : Nat) (A : Option Addr) (na ca : Nat) (M : Option Addr) (nm cm : Nat) (E : Option Addr) (ne ce : Nat) (a : Aut) : Prop where
 la : a.al.length = na
 oa : w.ownsRow base 3 1 (.slice A na ca) na (iv a.al)
 lm : a.ma.length = nm
 om : w.ownsRow base 3 1 (.slice M nm cm) nm (iv a.ma)
 le : a.ed.length = ne
 oe : w.ownsRow base 106 3 (.slice E ne ce) ne (a.ed.flatMap edc)
section
variable {w w' : World} {b0 b1 : Nat} {A M E : Option Addr} {na ca nm cm ne ce : Nat} {a : Aut}
theorem AutO.rd (h : AutO w b0 A na ca M nm cm E ne ce a) : AutR w w.heap.size A na ca M nm cm E ne ce a :=
 ⟨h.la, (own_cap' h.oa).1, (own_cap' h.oa).2, RdI.of_own h.oa, h.lm, (own_cap' h.om).1, (own_cap' h.om).2, RdI.of_own h.om, h.le, (own_cap' h.oe).1, (own_cap' h.oe).2, RdR.of_own (by omega) (fun _ _ => rfl) h.oe⟩
theorem AutO.below (h : AutO w b0 A na ca M nm cm E ne ce a) (hb : Below w.heap.size w w') : AutO w' b0 A na ca M nm cm E ne ce a :=
 ⟨h.la, own_below h.oa hb, h.lm, own_below h.om hb, h.le, own_below h.oe hb⟩
theorem AutO.down (h : AutO w b1 A na ca M nm cm E ne ce a) (hB : b0 ≤ b1) : AutO w b0 A na ca M nm cm E ne ce a :=
 ⟨h.la, own_base h.oa hB, h.lm, own_base h.om hB, h.le, own_base h.oe hB⟩
/-- A block below the base changes. -/
theorem AutO.low (h : AutO w b0 A na ca M nm cm E ne ce a) {r : Nat} (hg : w.grownBy w' (some r)) (hr : r < b0) : AutO w' b0 A na ca M nm cm E ne ce a :=
 ⟨h.la, own_kept_low h.oa hg hr, h.lm, own_kept_low h.om hg hr, h.le, own_kept_low h.oe hg hr⟩
end
/-- The post of a call that makes an automaton. -/
def RetA (a : Aut) (w : World) (e : Ending) (w' : World) : Prop :=
 ∃ (A : Option Addr) (na ca : Nat) (M : Option Addr) (nm cm : Nat) (E : Option Addr) (ne ce : Nat), e = .returned (.agg #[.slice A na ca, .int .i64 a.st, .slice M nm cm, .slice E ne ce]) ∧ AutO w' w.heap.size A na ca M nm cm E ne ce a ∧ Below w.heap.size w w'

/-- The post of Empty: the alphabet alone. -/
def RetE (l : List Int) (w : World) (e : Ending) (w' : World) : Prop :=
 ∃ (V : Option Addr) (n c : Nat), e = .returned (.agg #[.slice V n c, .int .i64 0, .slice none 0 0, .slice none 0 0]) ∧ l.length = n ∧ w'.ownsRow w.heap.size 3 1 (.slice V n c) n (iv l) ∧ Below w.heap.size w w'
theorem RetE.ret {l : List Int} {w w' : World} {e : Ending} (h : RetE l w e w') : RetA ⟨l, 0, [], []⟩ w e w' := by
 obtain ⟨V, n, c, rfl, hl, ho, hb⟩ := h
 exact ⟨V, n, c, none, 0, 0, none, 0, 0, rfl, ⟨hl, ho, rfl, World.ownsRow_nil _ _ _ _, rfl, World.ownsRow_nil _ _ _ _⟩, hb⟩
set_option maxRecDepth 100000 in
set_option maxHeartbeats 1600000 in
theorem ref_Empty (A : Option Addr) (c n : Nat) (l : List Int) (w : World) (hl : l.length = n) (ha : RdI w w.heap.size A l) (hn : n ≤ 1000000) :
  Calls Try.prog 87 #[.slice A n c] w (RetE l w) := by
 have HL := Lib.hid hl; clear hl
 have hB0 := box_below w (.cells #[.slice none 0 0, .int .i64 0, .slice none 0 0, .slice none 0 0] 34)
 have hr0 : Blk (w.alloc (.cells #[.slice none 0 0, .int .i64 0, .slice none 0 0, .slice none 0 0] 34)) w.heap.size 34 [.slice none 0 0, .int .i64 0, .slice none 0 0, .slice none 0 0] := Blk.new _ _ _
 have HR0 := Lib.hid hr0; clear hr0
 have ha1 := (ha.below hB0).more hB0.size
 have HA1 := Lib.hid ha1; clear ha1
 have hlit := own_lit (w.alloc (.cells #[.slice none 0 0, .int .i64 0, .slice none 0 0, .slice none 0 0] 34)) [] (w.heap.size + 1) 3 (by simp) (by simp)
 rw [show (w.alloc (.cells #[.slice none 0 0, .int .i64 0, .slice none 0 0, .slice none 0 0] 34)).heap.size = w.heap.size + 1 by simp] at hlit
 have HLIT := Lib.hid hlit; clear hlit
 go_enter Try.func87, Try.ntmps87
 go_wp2_with (at_builtin; refine wpList_app _ rfl (.tmp 3) (.tmp 4) 31 rfl (w.heap.size + 1) 3 (.int .i64 0) 8 Try.underlying31 int_info rfl (.slice (some ⟨w.heap.size + 1, 0, none⟩) 0 0) 0 _ rfl HLIT.out _ A n c (iv l) (by rw [iv_length]; exact HL.out) rfl (RdV.alloc HA1.out (Nat.le_refl _) _) (iv_one l) (by omega) (by omega) (by simp) ?_; intro v' w' ho' hg' hb1 hnn; rw [Nat.zero_add, List.nil_append] at ho'; obtain ⟨B, cb, rfl⟩ := own_shape ho'; have HB1 := Lib.hid hb1; have HO := Lib.hid ho'; have hr1 := (Blk.alc HR0.out (.cells #[] 3)).below hb1 (Nat.lt_succ_self _); have f0 := hr1.free 0; have f1 := hr1.free 1; have f2 := hr1.free 2; have f3 := hr1.free 3; have e0 := hr1.cell (j := 0) rfl; have e1 := hr1.cell (j := 1) rfl; have e2 := hr1.cell (j := 2) rfl; have e3 := hr1.cell (j := 3) rfl; have l0 : w.heap.size < w'.heap.size := hr1.lt; clear ho' hb1 hnn)
 have hb3 := (((hr1.set (j := 0) (by simp) (.slice B n cb)).set (j := 1) (by simp) (.int .i64 0)).set (j := 2) (by simp) (.slice none 0 0)).set (j := 3) (by simp) (.slice none 0 0)
 have z0 := hb3.cell (j := 0) rfl
 have z1 := hb3.cell (j := 1) rfl
 have z2 := hb3.cell (j := 2) rfl
 have z3 := hb3.cell (j := 3) rfl
 refine bodyPost_ret (v := .agg #[.slice B n cb, .int .i64 0, .slice none 0 0, .slice none 0 0]) (by simp [results, Try.results87, go_sem, z0, z1, z2, z3]) rfl ?_
 have hg4 : w'.grownBy ((((w'.setCell ⟨w.heap.size, 0, none⟩ (.slice B n cb)).setCell ⟨w.heap.size, 1, none⟩ (.int .i64 0)).setCell ⟨w.heap.size, 2, none⟩ (.slice none 0 0)).setCell ⟨w.heap.size, 3, none⟩ (.slice none 0 0)) (some w.heap.size) := (((grown_setCell _ _ _ _).trans (grown_setCell _ _ _ _)).trans (grown_setCell _ _ _ _)).trans (grown_setCell _ _ _ _)
 have hbl : Below w.heap.size w w' := (hB0.alloc (by simp) _).trans (HB1.out.mono (by simp))
 have ho := HO.out
 exact ⟨B, n, cb, rfl, HL.out, own_base (own_kept_low ho hg4 (Nat.lt_succ_self _)) (Nat.le_succ _), hbl.grown hg4 hbl.size (fun j hj => by injection hj with hj; omega)⟩

theorem and_one_u8 {y : Int} (h0 : 0 ≤ y) (h1 : y ≤ 255) : (bits BinOp.and IntKind.u8 y 1 == 1) = (y % 2 == 1) := by
 rw [u8_and y 1 h0 (by omega) (by omega) (by omega)]
 have e : (y.toNat &&& (1 : Int).toNat : Nat) = y.toNat % 2 := Nat.and_one_is_mod _
 rw [e, Bool.eq_iff_iff, beq_iff_eq, beq_iff_eq]
 omega
theorem bit_u8 {x : Int} {k : Nat} {b : Bool} (hb : bitB x k = b) (h0 : 0 ≤ x) (h1 : x ≤ 255) : (bits BinOp.and IntKind.u8 (x / 2 ^ k) 1 == 1) = b := by
 have p : (0 : Int) < 2 ^ k := Int.pow_pos (by omega)
 have h2 : 0 ≤ x / 2 ^ k := Int.ediv_nonneg h0 (by omega)
 have h3 : x / 2 ^ k ≤ x := Int.ediv_le_self _ h0
 rw [and_one_u8 h2 (by omega)]; exact hb
set_option maxHeartbeats 1600000 in
theorem set_Events (x : Int) (w : World) (h0 : 0 ≤ x) (h1 : x ≤ 255) :
  Calls Try.prog 45 #[.int .u8 x] w (RetO 3 (setB x 5) w) := by
 go_enter Try.func45, Try.ntmps45
 go_wp2
 go_loopw [3, 4] (fun o i wr => ∃ k m : Nat, k ≤ 5 ∧ i = .int .i64 k ∧ m ≤ k ∧ Hid ((setB x k).length = m) ∧ Hid (wr.ownsRow w.heap.size 3 1 o m (iv (setB x k))) ∧ Below w.heap.size w wr) (fun _ i _ => 5 - (intOf i).toNat)
 case atStart => exact ⟨0, 0, by omega, rfl, by omega, Lib.hid rfl, World.ownsRow_nil _ _ _ _, Below.refl _ _⟩
 case round =>
  obtain ⟨k, m, hk, rfl, hm, HM, HO, hbel⟩ := hrel
  have hsz := hbel.size
  by_cases hlt : k < 5
  ·cases hq : bitB x k with
   | true =>
    have hb2 : (bits BinOp.and IntKind.u8 (x / 2 ^ k) 1 == 1) = true := bit_u8 hq h0 h1
    have HQ := Lib.hid hq; clear hq
    go_wp2_with (at_builtin; refine wpList_push wr (.int .i64 (k : Int)) rfl (.tmp 14) (.tmp 16) 31 rfl w.heap.size 3 (.int .i64 0) 8 Try.underlying31 int_info rfl u3 m _ rfl HO.out rfl rfl (by omega) (by omega) hsz ?_; intro v' w' ho' hg' hb1)
    go_roundw
    case rel => exact ⟨k + 1, m + 1, by omega, by go_num, by omega, Lib.hid (by rw [setB_yes HQ.out, List.length_append, HM.out]; rfl), (by rw [setB_yes HQ.out, iv_append]; exact ho'), hbel.trans hb1⟩
    case measure => simp [intOf]; omega
   | false =>
    have hb2 : (bits BinOp.and IntKind.u8 (x / 2 ^ k) 1 == 1) = false := bit_u8 hq h0 h1
    have HQ := Lib.hid hq; clear hq
    go_wp2
    go_roundw
    case rel => exact ⟨k + 1, m, by omega, by go_num, by omega, Lib.hid (by rw [setB_no HQ.out]; exact HM.out), (by rw [setB_no HQ.out]; exact HO.out), hbel⟩
    case measure => simp [intOf]; omega
  ·obtain rfl : k = 5 := by omega
   go_wp2
   go_ret
   exact ⟨_, rfl, by rw [HM.out]; exact HO.out, hbel⟩
end Go.Proofs.Ytddhaidimadliaa

/- Walks: ref03.Found. -/
namespace Go.Proofs.Ytddhaidimadliaa
open Go.RowKit Go

theorem AutR.dr {w : World} {A M E : Option Addr} {na ca nm cm ne ce : Nat} {a : Aut} (h : AutR w w.heap.size A na ca M nm cm E ne ce a) : AutR w.drew w.drew.heap.size A na ca M nm cm E ne ce a := h.keep (fun _ _ => rfl)
theorem can_few {a : Aut} (h : WF a) (h0 : a.st ≠ 0) : ¬ Many 4096 (stA a) a.al 0 := by
 refine not_many ((List.range 4096).map (fun n : Nat => (n : Int))) (by simp) (fun x hx => ?_)
 obtain ⟨h1, h2⟩ := rch_rng h h0 hx
 have := h.st1
 rw [List.mem_map]
 exact ⟨x.toNat, List.mem_range.2 (by omega), by omega⟩
/-- What Found finds. -/
def FoundL (a : Aut) (l : List Int) : Prop := (a.st = 0 ∧ l = []) ∨ (a.st ≠ 0 ∧ ∃ s, canS a = some s ∧ BInv 4096 (stA a) a.al 0 s.ts.length s ∧ l = s.ts)
def RetF (a : Aut) (w : World) (e : Ending) (w' : World) : Prop := ∃ A c n l, e = .returned (.slice A n c) ∧ l.length = n ∧ n ≤ 4096 ∧ w'.ownsRow w.heap.size 3 1 (.slice A n c) n (iv l) ∧ FoundL a l ∧ Below w.heap.size w w'


set_option maxRecDepth 100000 in
set_option maxHeartbeats 3200000 in
theorem ref_Found (A : Option Addr) (na ca : Nat) (M : Option Addr) (nm cm : Nat) (E : Option Addr) (ne ce : Nat) (a : Aut) (w : World) (h : AutR w w.heap.size A na ca M nm cm E ne ce a) (hw : WF a) :
  Calls Try.prog 116 #[.agg #[.slice A na ca, .int .i64 a.st, .slice M nm cm, .slice E ne ce]] w (RetF a w) := by
 have hB0 := box_below w (.cells #[.slice A na ca, .int .i64 a.st, .slice M nm cm, .slice E ne ce] 34)
 by_cases h0 : a.st = 0
 ·have g0 : decide (0 < a.st) = false := decide_eq_false (by omega)
  have H0 := Lib.hid h0; clear h0
  go_enter Try.func116, Try.ntmps116
  go_wp2
  go_loopw [3, 4] (fun s3 s4 wr => s3 = .slice none 0 0 ∧ s4 = .int .i64 0 ∧ wr = w.alloc (.cells #[.slice A na ca, .int .i64 a.st, .slice M nm cm, .slice E ne ce] 34)) (fun _ _ _ => 0)
  case atStart => exact ⟨rfl, rfl, rfl⟩
  case round =>
   obtain ⟨rfl, rfl, rfl⟩ := hrel
   go_wp2
   go_ret
   exact ⟨none, 0, 0, [], rfl, rfl, by omega, World.ownsRow_nil _ _ _ _, .inl ⟨H0.out, rfl⟩, hB0⟩
 have hst := hw.st0
 have g0 : 0 < a.st := by omega
 have hnm := can_few hw h0
 have H0 := Lib.hid h0; clear h0
 have HNM := Lib.hid hnm; clear hnm
 have hla := h.la
 have hac := h.ac
 have hcA := h.cA
 have hal := hw.al_le
 rw [hla] at hal
 have HLA := Lib.hid hla; clear hla
 have HH := Lib.hid h
 clear h
 have HW := Lib.hid hw; clear hw
 have HBI := Lib.hid (BInv.begin (C := 4096) (st := stA a) (V := a.al) (x0 := (0 : Int)) (by omega))
 have HRS := Lib.hid (show bsR 4096 (stA a) a.al (4097 - 0) 0 ⟨[0], []⟩ = canS a from rfl)
 go_enter Try.func116, Try.ntmps116
 go_wp2_with (at_builtin; refine wpList_push _ (.int .i64 0) rfl (.tmp 10) (.tmp 11) 31 rfl (w.heap.size + 1) 3 (.int .i64 0) 8 Try.underlying31 int_info rfl (.slice none 0 0) 0 [] rfl (World.ownsRow_nil _ _ _ _) (by rw [World.size_alloc]; rfl) rfl (by omega) (by omega) (by simp) ?_; intro v' w' ho' hg' hb1)
 have HO1 : Hid (w'.ownsRow (w.heap.size + 1) 3 1 v' 1 (iv [0])) := Lib.hid ho'
 clear ho' hg'
 go_loopw [3, 4] (fun s3 s4 wr => ∃ (i nt : Nat) (tv : Value) (s : Bs Int), s4 = .int .i64 i ∧ s3 = tv ∧ i ≤ nt ∧ nt ≤ 4096 ∧ Hid (s.ts.length = nt) ∧ Hid (wr.ownsRow (w.heap.size + 1) 3 1 tv nt (iv s.ts)) ∧ Hid (BInv 4096 (stA a) a.al 0 i s) ∧ Hid (bsR 4096 (stA a) a.al (4097 - i) i s = canS a) ∧
  Below (w.heap.size + 1) (w.alloc (.cells #[.slice A na ca, .int .i64 a.st, .slice M nm cm, .slice E ne ce] 34)) wr) (fun _ s4 _ => 4097 - (intOf s4).toNat)
 case atStart => exact ⟨0, 1, _, ⟨[0], []⟩, rfl, rfl, by omega, by omega, Lib.hid rfl, HO1, HBI, HRS, hb1⟩
 case round =>
  clear HO1 HBI HRS hb1
  obtain ⟨i, nt, tv, s, rfl, rfl, hin, hnt, HTN, HO, HBI, HRS, hbel⟩ := hrel
  obtain ⟨wo, rfl⟩ : ∃ wo : World, wo = wr := ⟨_, rfl⟩
  obtain ⟨TA, tc, rfl⟩ := own_shape HO.out
  by_cases hlt : i < nt
  ·have hxt : s.ts[i]? = some (s.ts[i]'(by have := HTN.out; omega)) := List.getElem?_eq_getElem _
   generalize s.ts[i]'(by have := HTN.out; omega) = t at hxt
   have hkr := HNM.out
   have HXT := Lib.hid hxt; clear hxt
   have HRS2 := Lib.hid (show bsC 4096 (stA a) a.al (4096 - i) i (bsF 4096 (stA a) i t (a.al.drop 0) s) = canS a by
    have := HRS.out
    rw [show 4097 - i = 4096 - i + 1 by omega] at this
    rw [← this, bsR_bsC HXT.out])
   have HFI := Lib.hid (show FInv 4096 (stA a) a.al 0 i t (a.al.take 0) s from HBI.out.enter HXT.out)
   have b1 : (i : Int) < (nt : Int) := by omega
   clear hkr
   go_wp2
   go_loopw [3, 5] (fun s3 s5 wr => ∃ (j nu : Nat) (tv : Value) (z : Bs Int), s5 = .int .i64 j ∧ s3 = tv ∧ j ≤ na ∧ i < nu ∧ nu ≤ 4096 ∧ Hid (z.ts.length = nu) ∧ Hid (wr.ownsRow (w.heap.size + 1) 3 1 tv nu (iv z.ts)) ∧ Hid (FInv 4096 (stA a) a.al 0 i t (a.al.take j) z) ∧ Hid (bsC 4096 (stA a) a.al (4096 - i) i (bsF 4096 (stA a) i t (a.al.drop j) z) = canS a) ∧
    Below (w.heap.size + 1) (w.alloc (.cells #[.slice A na ca, .int .i64 a.st, .slice M nm cm, .slice E ne ce] 34)) wr) (fun _ s5 _ => na - (intOf s5).toNat)
   case atStart => exact ⟨0, nt, _, s, rfl, rfl, Nat.zero_le _, hlt, hnt, HTN, HO, HFI, HRS2, hbel⟩
   case round =>
    clear HTN HO HFI HRS2 hbel HBI HRS
    obtain ⟨j, nu, tv, z, rfl, rfl, hj, hinu, hnu, HZN, HO, HFI, HRZ, hbel⟩ := hrel
    obtain ⟨TB, tb, rfl⟩ := own_shape HO.out
    have c0 : wr.cell? ⟨w.heap.size, 0, none⟩ = some (.slice A na ca) := box_cells (us := [_, _, _, _]) hbel rfl
    have c1 : wr.cell? ⟨w.heap.size, 1, none⟩ = some (.int .i64 a.st) := box_cells (us := [_, _, _, _]) hbel rfl
    have c2 : wr.cell? ⟨w.heap.size, 2, none⟩ = some (.slice M nm cm) := box_cells (us := [_, _, _, _]) hbel rfl
    have c3 : wr.cell? ⟨w.heap.size, 3, none⟩ = some (.slice E ne ce) := box_cells (us := [_, _, _, _]) hbel rfl
    have hsz : w.heap.size + 1 ≤ wr.heap.size := by have := hbel.size; simpa using this
    have hsz1 : w.heap.size ≤ wr.heap.size := by omega
    have hsz2 : w.heap.size < wr.heap.size := by omega
    have hbl := hB0.trans (hbel.mono (Nat.le_succ _))
    have b2 : (i : Int) < (nu : Int) := by omega
    obtain ⟨tcap1, tcap2⟩ := own_cap' HO.out
    by_cases hjl : j < na
    ·have hR := ((HH.out.below hbl).more hsz1)
     obtain ⟨ad, v, hA, hvb, hve, hvc⟩ := hR.ra.at_ (k := j) (by have := HLA.out; omega)
     subst hA
     have b3 : (j : Int) < (na : Int) := by omega
     obtain ⟨td, t', e9, htd, ht', htc⟩ := (RdI.of_own HO.out).at_ (k := i) (by have := HZN.out; omega)
     subst e9
     have htt : t' = t := by have := HFI.out.at_; rw [ht'] at this; injection this
     subst htt
     have hvm := List.mem_of_getElem? hve
     obtain ⟨r, hr⟩ : ∃ r, nxt a t' v = r := ⟨_, rfl⟩
     have HSTEP := Lib.hid (fun (W : World) (hW : AutR W W.heap.size (some ad) na ca M nm cm E ne ce a) => ref_Step3 (some ad) na ca M nm cm E ne ce a t' v W hW)
     rw [hr] at HSTEP
     have HR := Lib.hid hR
     have HVE := Lib.hid hve; clear hve
     have HVM := Lib.hid hvm; clear hvm
     have HRR := Lib.hid hr; clear hr
     clear hR ht'
     go_wp2
     go_region_held3 (fun w' => w'.cell? ⟨w.heap.size, 0, none⟩ = some (.slice (some ad) na ca) ∧ w'.cell? ⟨w.heap.size, 1, none⟩ = some (.int .i64 a.st) ∧ w'.cell? ⟨w.heap.size, 2, none⟩ = some (.slice M nm cm) ∧ w'.cell? ⟨w.heap.size, 3, none⟩ = some (.slice E ne ce) ∧ w'.cell? (td.add i) = some (.int .i64 t') ∧ w'.cell? (ad.add j) = some (.int .i64 v)) (first | exact ⟨c0, c1, c2, c3, htc, hvc⟩ | exact ⟨y0, y1, y2, y3, y4, y5⟩ | go_keep)
      (first | (go_at_call 118; (with_reducible refine (HSTEP.out _ ?_).mono ?_); exact HR.out.dr; rintro e wA ⟨rfl, hbA⟩; replace hbA : Below wr.heap.size wr wA := ⟨hbA.os, hbA.tape, hbA.output, hbA.size, hbA.block⟩; have y0 := (hbA.cell (p := ⟨w.heap.size, 0, none⟩) hsz2).trans c0; have y1 := (hbA.cell (p := ⟨w.heap.size, 1, none⟩) hsz2).trans c1; have y2 := (hbA.cell (p := ⟨w.heap.size, 2, none⟩) hsz2).trans c2; have y3 := (hbA.cell (p := ⟨w.heap.size, 3, none⟩) hsz2).trans c3; have y4 := (hbA.cell (p := td.add i) (by rw [block_of_add]; exact htd)).trans htc; have y5 := (hbA.cell (p := ad.add j) (by rw [block_of_add]; exact hvb)).trans hvc) | fail)
     have hbA2 : Below wr.heap.size wr wA := hbA
     have HOA := Lib.hid (own_below HO.out hbA2)
     have hbelA := hbel.trans (hbA2.mono hsz)
     have hszA : w.heap.size + 1 ≤ wA.heap.size := by have := hbA2.size; omega
     clear y0 y1 y2 y3 y4 y5 c0 c1 c2 c3 htc hvc HSTEP HR HO hbA hbA2 hbl hbel hsz hsz1 hsz2
     try clear hs
     by_cases hr0 : r < 0
     ·have hsn : stA a t' v = none := by unfold stA; rw [HRR.out, if_pos hr0]
      have e1 : decide (0 ≤ r) = false := decide_eq_false (by omega)
      have HSN := Lib.hid hsn; clear hsn
      have HF2 : Hid (FInv 4096 (stA a) a.al 0 i t' (a.al.take (j + 1)) z) := by
       rcases HFI.out.step HVM.out with ⟨s1, q1, q2, q3⟩ | ⟨q1, _⟩
       ·rw [bsE_none HSN.out] at q1
        injection q1 with q1; subst q1
        rw [take_snoc' HVE.out]; exact Lib.hid q2
       ·rw [bsE_none HSN.out] at q1; cases q1
      have HRZ2 := Lib.hid (HRZ.out.symm.trans (by rw [bsF_go HVE.out (bsE_none HSN.out)]) : canS a = bsC 4096 (stA a) a.al (4096 - i) i (bsF 4096 (stA a) i t' (a.al.drop (j + 1)) z))
      clear hr0
      go_wp2
      go_roundw
      case rel => exact ⟨j + 1, nu, _, z, by go_num, rfl, by omega, hinu, hnu, HZN, HOA, HF2, Lib.hid HRZ2.out.symm, hbelA⟩
      case measure => simp [intOf]; omega
     ·have hsn : stA a t' v = some r := by unfold stA; rw [HRR.out, if_neg hr0]
      have e1 : 0 ≤ r := by omega
      have HSN := Lib.hid hsn; clear hsn
      clear hr0
      cases hh : hasB z.ts r with
      | true =>
       obtain ⟨y, hy1, hy2⟩ := idx_yes (hasB_mem.1 hh)
       have hbe : bsE 4096 (stA a) i t' z v = some ⟨z.ts, z.es ++ [⟨i, v, y⟩]⟩ := by rw [bsE_old HSN.out (by rw [hy1]; omega), hy1]
       have HBE := Lib.hid hbe; clear hbe
       have HHH := Lib.hid hh; clear hh
       clear hy1 hy2
       have HF2 : Hid (FInv 4096 (stA a) a.al 0 i t' (a.al.take (j + 1)) ⟨z.ts, z.es ++ [⟨i, v, y⟩]⟩) := by
        rcases HFI.out.step HVM.out with ⟨s1, q1, q2, q3⟩ | ⟨q1, _⟩
        ·rw [HBE.out] at q1
         injection q1 with q1; subst q1
         rw [take_snoc' HVE.out]; exact Lib.hid q2
        ·rw [HBE.out] at q1; cases q1
       have HRZ2 := Lib.hid (HRZ.out.symm.trans (by rw [bsF_go HVE.out HBE.out]) : canS a = bsC 4096 (stA a) a.al (4096 - i) i (bsF 4096 (stA a) i t' (a.al.drop (j + 1)) ⟨z.ts, z.es ++ [⟨i, v, y⟩]⟩))
       go_wp2_with fail
       refine (ref_has (some td) tb nu z.ts r true _ HZN.out HHH.out (RdI.of_own HOA.out) tcap1 tcap2).mono ?_
       rintro e wB ⟨rfl, rfl⟩
       go_wp2
       go_roundw
       case rel => exact ⟨j + 1, nu, _, ⟨z.ts, z.es ++ [⟨i, v, y⟩]⟩, by go_num, rfl, by omega, hinu, hnu, HZN, HOA, HF2, Lib.hid HRZ2.out.symm, hbelA⟩
       case measure => simp [intOf]; omega
      | false =>
       have hnm : r ∉ z.ts := fun hm => by rw [hasB_mem.2 hm] at hh; cases hh
       have hfull : z.ts.length ≠ 4096 := fun hf => by
        have hbe := bsE_full (C := 4096) (i := i) HSN.out (idx_neg.2 hnm) hf
        rcases HFI.out.step HVM.out with ⟨s1, q1, q2, q3⟩ | ⟨q1, q2⟩
        ·rw [hbe] at q1; cases q1
        ·exact HNM.out q2
       have hbe : bsE 4096 (stA a) i t' z v = some ⟨z.ts ++ [r], z.es ++ [⟨i, v, (nu : Int)⟩]⟩ := by rw [bsE_new HSN.out (idx_neg.2 hnm) hfull, HZN.out]
       have hnu2 : nu + 1 ≤ 4096 := by have := HZN.out; omega
       have HBE := Lib.hid hbe; clear hbe
       have HHH := Lib.hid hh; clear hh
       clear hnm hfull
       have HF2 : Hid (FInv 4096 (stA a) a.al 0 i t' (a.al.take (j + 1)) ⟨z.ts ++ [r], z.es ++ [⟨i, v, (nu : Int)⟩]⟩) := by
        rcases HFI.out.step HVM.out with ⟨s1, q1, q2, q3⟩ | ⟨q1, _⟩
        ·rw [HBE.out] at q1
         injection q1 with q1; subst q1
         rw [take_snoc' HVE.out]; exact Lib.hid q2
        ·rw [HBE.out] at q1; cases q1
       have HRZ2 := Lib.hid (HRZ.out.symm.trans (by rw [bsF_go HVE.out HBE.out]) : canS a = bsC 4096 (stA a) a.al (4096 - i) i (bsF 4096 (stA a) i t' (a.al.drop (j + 1)) ⟨z.ts ++ [r], z.es ++ [⟨i, v, (nu : Int)⟩]⟩))
       go_wp2_with fail
       refine (ref_has (some td) tb nu z.ts r false _ HZN.out HHH.out (RdI.of_own HOA.out) tcap1 tcap2).mono ?_
       rintro e wB ⟨rfl, rfl⟩
       go_wp2_with (at_builtin; refine wpList_push wA (.int .i64 r) rfl (.tmp 45) (.tmp 47) 31 rfl (w.heap.size + 1) 3 (.int .i64 0) 8 Try.underlying31 int_info rfl (.slice (some td) nu tb) nu (iv z.ts) rfl HOA.out rfl rfl (by omega) (by omega) hszA ?_; intro v' w' ho' hg' hb1')
       go_roundw
       case rel => exact ⟨j + 1, nu + 1, _, _, by go_num, rfl, by omega, by omega, hnu2, Lib.hid (by rw [List.length_append, HZN.out]; rfl), Lib.hid (by rw [iv_append]; exact ho'), HF2, Lib.hid HRZ2.out.symm, hbelA.trans hb1'⟩
       case measure => simp [intOf]; omega
    ·obtain rfl : j = na := by omega
     have hFI := HFI.out
     rw [List.take_of_length_le (by rw [HLA.out]; exact Nat.le_refl _)] at hFI
     have HB2 := Lib.hid hFI.leave
     have hRZ := HRZ.out
     rw [List.drop_of_length_le (by rw [HLA.out]; exact Nat.le_refl _)] at hRZ
     have HRS3 := Lib.hid (show bsR 4096 (stA a) a.al (4097 - (i + 1)) (i + 1) z = canS a by rw [show 4097 - (i + 1) = 4096 - i by omega]; exact hRZ)
     clear hFI hRZ
     go_wp2
     go_roundw
     case rel => exact ⟨i + 1, nu, _, z, by go_num, rfl, by omega, hnu, HZN, HO, HB2, HRS3, hbel⟩
     case measure => simp [intOf]; omega
  ·obtain rfl : i = nt := by omega
   have hRS := HRS.out
   rw [bsR_end (by have := HTN.out; omega)] at hRS
   have HFL := Lib.hid (show FoundL a s.ts from .inr ⟨H0.out, s, hRS.symm, by rw [HTN.out]; exact HBI.out, rfl⟩)
   clear hRS
   go_wp2
   go_ret
   exact ⟨TA, tc, i, s.ts, rfl, HTN.out, hnt, own_base HO.out (Nat.le_succ _), HFL.out, hB0.trans (hbel.mono (Nat.le_succ _))⟩
end Go.Proofs.Ytddhaidimadliaa

/- An automaton under construction in a block of its own; the walk of ref03.Canonical. -/
namespace Go.Proofs.Ytddhaidimadliaa
open Go.RowKit Go

/-- The block w0.heap.size holds an automaton whose marks and edges grow in rows of its own. -/
structure Bld (w0 w : World) (v0 v1 mv ev : Value) (km ke : Nat) (mk : List Int) (es : List Ed) : Prop where
 bel : Below w0.heap.size w0 w
 blk : Blk w w0.heap.size 34 [v0, v1, mv, ev]
 mrk : w.ownsRow (w0.heap.size + 1) 3 1 mv km (iv mk)
 mkl : mk.length = km
 edg : w.ownsRow (w0.heap.size + 1) 106 3 ev ke (es.flatMap edc)
 edl : es.length = ke
theorem below_dr (w : World) : Below w.heap.size w w.drew := ⟨rfl, rfl, rfl, Nat.le_refl _, fun _ _ => rfl⟩
section
variable {w0 w w' : World} {v0 v1 mv ev : Value} {km ke : Nat} {mk : List Int} {es : List Ed}
theorem Bld.start (w0 : World) (v0 v1 : Value) : Bld w0 (w0.alloc (.cells #[v0, v1, .slice none 0 0, .slice none 0 0] 34)) v0 v1 (.slice none 0 0) (.slice none 0 0) 0 0 [] [] :=
 ⟨box_below _ _, Blk.new _ _ _, World.ownsRow_nil _ _ _ _, rfl, World.ownsRow_nil _ _ _ _, rfl⟩
theorem Bld.lt (h : Bld w0 w v0 v1 mv ev km ke mk es) : w0.heap.size < w.heap.size := h.blk.lt
theorem Bld.quiet (h : Bld w0 w v0 v1 mv ev km ke mk es) (hb : Below w.heap.size w w') : Bld w0 w' v0 v1 mv ev km ke mk es :=
 ⟨h.bel.trans (hb.mono (Nat.le_of_lt h.lt)), h.blk.below hb h.lt, own_below h.mrk hb, h.mkl, own_below h.edg hb, h.edl⟩
theorem Bld.mark (h : Bld w0 w v0 v1 mv ev km ke mk es) {A : Option Addr} {c : Nat} {i : Int} (ho : w'.ownsRow (w0.heap.size + 1) 3 1 (.slice A (km + 1) c) (km + 1) (iv mk ++ [.int .i64 i])) (hg : w.grownBy w' mv.ownBlock) :
  Bld w0 (w'.setCell ⟨w0.heap.size, 2, none⟩ (.slice A (km + 1) c)) v0 v1 (.slice A (km + 1) c) ev (km + 1) ke (mk ++ [i]) es := by
 have r1 : w0.heap.size < w0.heap.size + 1 := Nat.lt_succ_self _
 have hs := grown_setCell w' w0.heap.size 2 (.slice A (km + 1) c)
 have hbl := h.blk.kept hg (own_lt_ne h.mrk r1)
 exact ⟨(h.bel.grown hg (Nat.le_of_lt h.lt) (fun j hj => by have := (h.mrk.lt j hj).1; omega)).setCell (Nat.le_refl _) _, hbl.set (by simp) _, own_kept_low (by rw [iv_append]; exact ho) hs r1, by simp [h.mkl], own_kept_low (own_kept_ne h.edg h.mrk (by decide) hg) hs r1, h.edl⟩
theorem Bld.edge (h : Bld w0 w v0 v1 mv ev km ke mk es) {A : Option Addr} {c : Nat} {x : Ed} (ho : w'.ownsRow (w0.heap.size + 1) 106 3 (.slice A (ke + 1) c) (ke + 1) (es.flatMap edc ++ edc x)) (hg : w.grownBy w' ev.ownBlock) :
  Bld w0 (w'.setCell ⟨w0.heap.size, 3, none⟩ (.slice A (ke + 1) c)) v0 v1 mv (.slice A (ke + 1) c) km (ke + 1) mk (es ++ [x]) := by
 have r1 : w0.heap.size < w0.heap.size + 1 := Nat.lt_succ_self _
 have hs := grown_setCell w' w0.heap.size 3 (.slice A (ke + 1) c)
 have hbl := h.blk.kept hg (own_lt_ne h.edg r1)
 exact ⟨(h.bel.grown hg (Nat.le_of_lt h.lt) (fun j hj => by have := (h.edg.lt j hj).1; omega)).setCell (Nat.le_refl _) _, hbl.set (by simp) _, own_kept_low (own_kept_ne h.mrk h.edg (by decide) hg) hs r1, h.mkl, own_kept_low (by simpa using ho) hs r1, by simp [h.edl]⟩
/-- What has been built. -/
theorem Bld.fin {V M E : Option Addr} {nv cv cm ce : Nat} {st : Int} {al : List Int} {b : Nat} (h : Bld w0 w (.slice V nv cv) v1 (.slice M km cm) (.slice E ke ce) km ke mk es) (hv : al.length = nv) (ho : w0.ownsRow b 3 1 (.slice V nv cv) nv (iv al)) (hb : b ≤ w0.heap.size + 1) :
  AutO w b V nv cv M km cm E ke ce ⟨al, st, mk, es⟩ :=
 ⟨hv, own_below ho h.bel, h.mkl, own_base h.mrk hb, h.edl, own_base h.edg hb⟩
end
/-- push of one element as a step of a region that draws its order -/
theorem step_pushN {P : Program} (w : World) (us : List Value) {ops : Array Oper} {o : Oper} {a : Act} {K : Act → World → Prop} {Q : Exit → Act → World → Prop} {E : Prop} (hgd : o.guard = none) (s x : Operand) (t : TypeId)
  (ho : o.op = .call { callee := .builtin .append, args := #[s, x], argTypes := #[t, t] })
  (base : Nat) (e : TypeId) (z : Value) (size bytes : Nat) (ht : P.underlying t = some (.slice e)) (hinfo : (P.info? e).map (fun i => (i.zero, i.size, i.bytes)) = some (some z, size, bytes))
  (hz1 : z.cells.size = size) (hsz : 0 < size) (hus : us.length = size) (v : Value) (n : Nat) (xs : List Value) (hs : a.eval s = v) (hown : w.ownsRow base e size v n xs)
  (hx : a.eval x = .slice (some ⟨w.heap.size, 0, none⟩) 1 1) (h1 : ∀ u ∈ us, u.oneCell' = true) (hbytes : (n + 1) * bytes ≤ 140737488355328) (hn : n + 1 ≤ 9223372036854775807) (hbase : base ≤ w.heap.size)
  (h : ∀ A c w', w'.ownsRow base e size (.slice A (n + 1) c) (n + 1) (xs ++ us) → w.grownBy w' v.ownBlock → K (a.put o.dst (.slice A (n + 1) c)) w') :
  if Region.wanted o (yielded ops a.tmps) = true then Oper.wp P o a (w.alloc (.cells us.toArray e)) K Q else E := by
 obtain ⟨i, hi, hz, hs1, hby⟩ := info_parts hinfo
 refine step_append_lies (w.alloc (.cells us.toArray e)) hgd s x t ho base e i z size bytes ht hi hz hs1 hby hz1 hsz v n xs hs (hown.alloc _) ⟨w.heap.size, 0, none⟩ 1 1 us hx (by rw [hus, Nat.one_mul]) ?_ h1 (by omega) (by unfold maxLen; omega) hbytes (by simp; omega) _ rfl ?_
 ·intro j y hj
  rw [add_lit0, cell_of_row _ _ _ _ e (0, 0) (heap_alloc_new w _)]
  simpa using hj
 ·intro g cap w' ho' hg _ _
  have hg' : w.grownBy w' v.ownBlock := ⟨hg.os, hg.tape, hg.output, Nat.le_trans (by simp) hg.size, fun k hk hne => (hg.block k (by simp; omega) hne).trans (Below.heap_alloc w _ k hk)⟩
  exact h _ cap w' ho' hg'
/-- what Canonical makes of what is found -/
theorem found_can {a : Aut} {l : List Int} (h : FoundL a l) : canA a = ⟨a.al, l.length, mksN (mkA a) l l.length, edsOf (stA a) a.al l l.length⟩ := by
 rcases h with ⟨h0, rfl⟩ | ⟨h0, s, hs, hb, rfl⟩
 ·unfold canA; rw [if_pos h0]; rfl
 ·unfold canA; rw [if_neg h0, hs]
  show autOf a.al (mkA a) s = _
  unfold autOf
  rw [hb.es]
theorem edRow_yes {a : Aut} {l : List Int} {i k : Nat} {t v r : Int} (hv : a.al[k]? = some v) (hn : nxt a t v = r) (hr : 0 ≤ r) : edRow (stA a) l i t (a.al.take (k + 1)) = edRow (stA a) l i t (a.al.take k) ++ [⟨i, v, idx l r⟩] := by
 have hs : stA a t v = some r := by unfold stA; rw [hn, if_neg (by omega)]
 rw [take_snoc' hv]; unfold edRow; rw [List.filterMap_append]; simp [hs]
theorem edRow_no {a : Aut} {l : List Int} {i k : Nat} {t v r : Int} (hv : a.al[k]? = some v) (hn : nxt a t v = r) (hr : r < 0) : edRow (stA a) l i t (a.al.take (k + 1)) = edRow (stA a) l i t (a.al.take k) := by
 have hs : stA a t v = none := by unfold stA; rw [hn, if_pos hr]
 rw [take_snoc' hv]; unfold edRow; rw [List.filterMap_append]; simp [hs]
theorem edsOf_step {a : Aut} {l : List Int} {i : Nat} {t : Int} (ht : l[i]? = some t) : edsOf (stA a) a.al l (i + 1) = edsOf (stA a) a.al l i ++ edRow (stA a) l i t a.al := by
 rw [edsOf, ht]
end Go.Proofs.Ytddhaidimadliaa
