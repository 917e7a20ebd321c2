/- Names, events, alphabet.Check. Printed by wip/mkip.py. -/
import Derived.Test.YtddhaidimadliaaSa
import Derived.Test.YtddhaidimadliaaMa
import Derived.Test.YtddhaidimadliaaGa
import Derived.Maps.Own
import Derived.Maps.OwnOps
import Derived.Maps.Views
import Derived.Maps.OwnSet
import Derived.WideAt
namespace Go.Proofs.Ytddhaidimadliaa
open Go.RowKit Go

/-- an event -/
structure Ev where
 nm : ByteArray
 c : Bool
 o : Bool
 f : Bool
 fault : Int
def Ev.cells (e : Ev) : List Value := [.string e.nm, .bool e.c, .bool e.o, .bool e.f, .int .i64 e.fault]
/-- may the byte c stand at place i of a name? -/
def letB (c : Int) : Bool := (decide (97 ≤ c) && decide (c ≤ 122)) || (decide (65 ≤ c) && decide (c ≤ 90)) || (c == 95)
def digB (c : Int) : Bool := decide (48 ≤ c) && decide (c ≤ 57)
def okB (i : Nat) (c : Int) : Bool := letB c || (digB c && !(i == 0))
def okG : Nat → List UInt8 → Bool
 | _, [] => true
 | i, c :: r => okB i (c.toNat : Int) && okG (i + 1) r
def nameB (s : ByteArray) : Bool := decide (0 < s.size) && decide (s.size ≤ 32) && okG 0 s.data.toList
theorem okG_step {l : List UInt8} {k : Nat} {c : UInt8} (h : l[k]? = some c) : okG k (l.drop k) = (okB k (c.toNat : Int) && okG (k + 1) (l.drop (k + 1))) := by
 rw [drop_cons' h]; rfl
theorem okG_end {l : List UInt8} {k : Nat} (h : ¬ k < l.length) : okG k (l.drop k) = true := by
 rw [List.drop_of_length_le (by omega)]; rfl
/-- is a name on the list? -/
def inB (pre : List ByteArray) (s : ByteArray) : Bool := pre.any (fun t => decide (t = s))
theorem inB_iff {pre : List ByteArray} {s : ByteArray} : inB pre s = true ↔ s ∈ pre := by simp [inB]
/-- the first fault of an event behind others -/
def evErr (pre : List ByteArray) (e : Ev) : Int :=
 if nameB e.nm = false then 7 else if inB pre e.nm = true then 8 else if e.fault < 0 ∨ 4 < e.fault then 2 else if e.fault ≠ 0 ∧ (e.c = true ∨ e.o = true) then 13 else 0
def chkG : List ByteArray → List Ev → Int
 | _, [] => 0
 | pre, e :: r => if evErr pre e ≠ 0 then evErr pre e else chkG (pre ++ [e.nm]) r
def chkE (l : List Ev) : Int := if 32 < l.length then 3 else chkG [] l
theorem chkG_stop {l : List Ev} {k : Nat} {e : Ev} {pre : List ByteArray} (h : l[k]? = some e) (he : evErr pre e ≠ 0) : chkG pre (l.drop k) = evErr pre e := by
 rw [drop_cons' h]; simp [chkG, he]
theorem chkG_go {l : List Ev} {k : Nat} {e : Ev} {pre : List ByteArray} (h : l[k]? = some e) (he : evErr pre e = 0) : chkG pre (l.drop k) = chkG (pre ++ [e.nm]) (l.drop (k + 1)) := by
 rw [drop_cons' h]; simp [chkG, he]
theorem chkG_end {l : List Ev} {k : Nat} {pre : List ByteArray} (h : ¬ k < l.length) : chkG pre (l.drop k) = 0 := by
 rw [List.drop_of_length_le (by omega)]; rfl
theorem names_snoc {l : List Ev} {k : Nat} {e : Ev} (h : l[k]? = some e) : (l.take (k + 1)).map Ev.nm = (l.take k).map Ev.nm ++ [e.nm] := by rw [take_snoc' h]; simp

/-- A slice of events: five cells each. -/
def RdE (w : World) (B : Nat) (A : Option Addr) (l : List Ev) : Prop :=
 ∀ k e, l[k]? = some e → ∃ ad, A = some ad ∧ ad.block < B ∧ e.nm.size ≤ 9223372036854775807 ∧ ∀ j u, e.cells[j]? = some u → w.cell? (ad.add (k * 5 + j)) = some u
section
variable {w w' : World} {B B' : Nat} {A : Option Addr} {l : List Ev}
theorem RdE.nil : RdE w B A [] := fun k u h => by simp at h
theorem RdE.keep (h : RdE w B A l) (hk : ∀ p : Addr, p.block < B → w'.cell? p = w.cell? p) : RdE w' B A l := fun k e hu => by
 obtain ⟨ad, e1, hb, hs, hc⟩ := h k e hu
 exact ⟨ad, e1, hb, hs, fun j u hj => (hk _ (by rw [block_of_add]; exact hb)).trans (hc j u hj)⟩
theorem RdE.more (h : RdE w B A l) (hB : B ≤ B') : RdE w B' A l := fun k e hu => by
 obtain ⟨ad, e1, hb, hs, hc⟩ := h k e hu
 exact ⟨ad, e1, by omega, hs, hc⟩
theorem RdE.below (h : RdE w B A l) (hb : Below B w w') : RdE w' B A l := h.keep fun _ hp => hb.cell hp
theorem RdE.take (h : RdE w B A l) (n : Nat) : RdE w B A (l.take n) := fun k u hu => h k u (by
 rw [List.getElem?_take] at hu
 split at hu
 ·exact hu
 ·cases hu)
theorem RdE.at_ {k : Nat} (h : RdE w B A l) (hk : k < l.length) : ∃ ad e, A = some ad ∧ ad.block < B ∧ l[k]? = some e ∧ e.nm.size ≤ 9223372036854775807 ∧
  w.cell? (ad.add (k * 5)) = some (.string e.nm) ∧ w.cell? (ad.add (k * 5 + 1)) = some (.bool e.c) ∧ w.cell? (ad.add (k * 5 + 2)) = some (.bool e.o) ∧ w.cell? (ad.add (k * 5 + 3)) = some (.bool e.f) ∧ w.cell? (ad.add (k * 5 + 4)) = some (.int .i64 e.fault) := by
 obtain ⟨ad, e1, hb, hs, hc⟩ := h k _ (List.getElem?_eq_getElem hk)
 exact ⟨ad, _, e1, hb, List.getElem?_eq_getElem hk, hs, hc 0 _ rfl, hc 1 _ rfl, hc 2 _ rfl, hc 3 _ rfl, hc 4 _ rfl⟩
end
end Go.Proofs.Ytddhaidimadliaa
namespace Go.Proofs.Ytddhaidimadliaa
open Go.RowKit Go

theorem okB_no {i : Nat} {c : Int} (h : ¬ (97 ≤ c ∧ c ≤ 122) ∧ ¬ (65 ≤ c ∧ c ≤ 90) ∧ ¬ c = 95 ∧ (¬ (48 ≤ c ∧ c ≤ 57) ∨ i = 0)) : okB i c = false := by
 unfold okB letB digB
 simp
 omega
theorem okB_yes {i : Nat} {c : Int} (h : (97 ≤ c ∧ c ≤ 122) ∨ (65 ≤ c ∧ c ≤ 90) ∨ c = 95 ∨ (48 ≤ c ∧ c ≤ 57 ∧ i ≠ 0)) : okB i c = true := by
 unfold okB letB digB
 simp
 omega
theorem get_byte {s : ByteArray} {k : Nat} (h : k < s.size) : s.data.toList[k]? = some s[k] := by
 rw [List.getElem?_eq_getElem (by simpa using h)]; rfl
theorem name_no {s : ByteArray} {k : Nat} {b r : Bool} (h : okG 0 s.data.toList = okG k (s.data.toList.drop k)) (h2 : okG k (s.data.toList.drop k) = (b && r)) (hb : b = false) : nameB s = false := by
 unfold nameB; rw [h, h2, hb]; simp
theorem name_go {s : ByteArray} {k : Nat} {b r : Bool} (h : okG 0 s.data.toList = okG k (s.data.toList.drop k)) (h2 : okG k (s.data.toList.drop k) = (b && r)) (hb : b = true) : okG 0 s.data.toList = r := by
 rw [h, h2, hb]; simp
theorem name_end {s : ByteArray} {k : Nat} (h : okG 0 s.data.toList = okG k (s.data.toList.drop k)) (hk : ¬ k < s.size) : nameB s = (decide (0 < s.size) && decide (s.size ≤ 32)) := by
 unfold nameB; rw [h, okG_end (by simpa using hk)]; simp

set_option maxHeartbeats 3200000 in
theorem alphabet_IsName (s : ByteArray) (w : World) (hs : s.size ≤ 9223372036854775807) :
  Calls Try.prog 114 #[.string s] w fun e w' => e = .returned (.bool (nameB s)) ∧ w = w' := by
 go_enter Try.func114, Try.ntmps114
 go_wp2
 go_loop [8] (fun i => ∃ k : Nat, k ≤ s.size ∧ i = .int .i64 k ∧ Hid (okG 0 s.data.toList = okG k (s.data.toList.drop k))) (fun i => s.size - (intOf i).toNat)
 case atStart => exact ⟨0, Nat.zero_le _, rfl, Lib.hid rfl⟩
 case round =>
  obtain ⟨k, hk, rfl, HX⟩ := hrel
  by_cases hlt : k < s.size
  ·have hst := okG_step (get_byte hlt)
   have HST := Lib.hid hst
   have hr := s[k].toNat_lt
   clear hst
   by_cases hk0 : k = 0
   ·subst hk0
    go_wp2
    all_goals
     try simp only [Bool.not_eq_true', Bool.not_eq_false', decide_eq_false_iff_not, decide_eq_true_eq, beq_iff_eq, beq_eq_false_iff_ne, ne_eq] at *
     first
     | (exfalso; omega)
     | (go_ret; exact ⟨ret_bool (name_no HX.out HST.out (okB_no (by omega))).symm, rfl⟩)
     | (go_round; (case rel => exact ⟨0 + 1, by omega, by go_num, Lib.hid (name_go HX.out HST.out (okB_yes (by omega)))⟩); (case measure => (simp [intOf] <;> omega)))
   ·go_wp2
    all_goals
     try simp only [Bool.not_eq_true', Bool.not_eq_false', decide_eq_false_iff_not, decide_eq_true_eq, beq_iff_eq, beq_eq_false_iff_ne, ne_eq] at *
     first
     | (exfalso; omega)
     | (go_ret; exact ⟨ret_bool (name_no HX.out HST.out (okB_no (by omega))).symm, rfl⟩)
     | (go_round; (case rel => exact ⟨k + 1, by omega, by go_num, Lib.hid (name_go HX.out HST.out (okB_yes (by omega)))⟩); (case measure => (simp [intOf] <;> omega)))
  ·have HE := Lib.hid (name_end HX.out hlt)
   go_wp2
   all_goals (go_ret; refine ⟨ret_bool ?_, rfl⟩; rw [HE.out, Bool.eq_iff_iff]; simp <;> omega)
end Go.Proofs.Ytddhaidimadliaa
namespace Go.Proofs.Ytddhaidimadliaa
open Go.RowKit Go Go.Maps

theorem strLawE : Keyed Try.prog 9 := string_keyed Try.underlying9
theorem zeroBool (w : World) : (zeroValue 4).run Try.prog w = .ok (.bool false) w := by kernel_rfl
theorem plainElem_bool_inv {H : Type} {P : Program} {e : TypeId} (he : P.underlying e = some .bool) {v : Value} {y : DataW H × List MemPlace} (h : plainElem P e v = some y) : ∃ x, v = .bool x ∧ y = (.lit (.bool x), []) := by
 unfold plainElem at h
 rw [he] at h
 cases v <;> simp at h
 rename_i b
 exact ⟨b, rfl, h.symm⟩
/-- Block b is a map that says of each name whether it is on the list. -/
def NamesIn (w : World) (b n : Nat) (names : List ByteArray) : Prop :=
 ∃ D : DataW Unit, w.ownsMap Try.prog 9 (plainElem Try.prog 4) b n D ∧ ∀ s : ByteArray, D.atKey (.string s.data.toList) (.lit (.bool false)) = .lit (.bool (inB names s))
section
variable {w w' : World} {b n : Nat} {names : List ByteArray}
theorem NamesIn.made (w : World) : NamesIn (w.alloc (.map #[] 0)) w.heap.size 0 [] := ⟨_, World.ownsMap_made _ _ _ _, fun _ => rfl⟩
theorem NamesIn.mono (h : NamesIn w b n names) {m : Nat} (hn : n ≤ m) : NamesIn w b m names := by
 obtain ⟨D, h1, h2⟩ := h
 exact ⟨D, h1.mono hn, h2⟩
theorem NamesIn.lt (h : NamesIn w b n names) : b < w.heap.size := by
 obtain ⟨D, h1, h2⟩ := h
 exact h1.lt
theorem NamesIn.kept (h : NamesIn w b n names) {row : Option Nat} (hg : w.grownBy w' row) (hne : some b ≠ row) : NamesIn w' b n names := by
 obtain ⟨D, h1, h2⟩ := h
 exact ⟨D, h1.kept hg hne, h2⟩
theorem NamesIn.alloc (h : NamesIn w b n names) (o : Obj) : NamesIn (w.alloc o) b n names := h.kept (World.grownBy_alloc w o none) (by simp)
end
theorem bytes_eq {s t : ByteArray} (h : s.data.toList = t.data.toList) : s = t := by
 cases s; cases t; simp at h; congr
section
variable {w w' : World} {b n : Nat} {names : List ByteArray}
theorem wpList_lookup_names {ops : Array Oper} {rest : List Oper} {o : Oper} {a : Act} {Q : Exit → Act → World → Prop} (hg : o.guard = none) (m x : Operand) (hop : o.op = Op.lookup 178 m x false)
  (hm : a.eval m = .map (some b)) (h : NamesIn w b n names) (s : ByteArray) (hx : a.eval x = .string s) (hs : s.size ≤ 9223372036854775807) (q : Bool) (hq : inB names s = q)
  (hK : wpList Try.prog ops Q rest (a.put o.dst (.bool q)) w) : wpList Try.prog ops Q (o :: rest) a w := by
 obtain ⟨D, h1, h2⟩ := h
 refine wpList_plain hg fun K' hK' => ?_
 obtain ⟨v, ps, hrun, hv⟩ := h1.lookup strLawE Try.underlying178 (zeroBool w) (plainElem_bool Try.underlying4 false) (key := .string s) (kl := .string s.data.toList) (WideMaps.keyOf_string_mk Try.underlying9 (by unfold maxLen; omega))
 obtain ⟨c, rfl, hy⟩ := plainElem_bool_inv Try.underlying4 hv
 rw [h2 s, hq] at hy
 simp only [Prod.mk.injEq, DataW.lit.injEq, Lit.bool.injEq] at hy
 obtain ⟨rfl, _⟩ := hy
 unfold Oper.wp
 simp [execOp, hop, hm, hx, hrun, Result.andThen]
 exact hK' _ _ hK
theorem wpList_add_name {ops : Array Oper} {rest : List Oper} {o : Oper} {a : Act} {Q : Exit → Act → World → Prop} (hg : o.guard = none) (m x v : Operand) (hop : o.op = Op.mapUpdate 178 m x v)
  (hm : a.eval m = .map (some b)) (h : NamesIn w b n names) (hn : n ≤ 1000000) (s : ByteArray) (hx : a.eval x = .string s) (hs : s.size ≤ 9223372036854775807) (hv : a.eval v = .bool true)
  (hK : ∀ w', NamesIn w' b (n + 1) (names ++ [s]) → w.grownBy w' (some b) → wpList Try.prog ops Q rest (a.put o.dst undef) w') : wpList Try.prog ops Q (o :: rest) a w := by
 obtain ⟨D, h1, h2⟩ := h
 refine wpList_mapUpdate_own w hg m x v _ hop _ _ strLawE Try.underlying178 _ b n D hm h1 (by unfold maxLen; omega) _ _ (.string s.data.toList) hx hv (WideMaps.keyOf_string_mk Try.underlying9 (by unfold maxLen; omega)) _ [] (plainElem_bool Try.underlying4 true) ?_
 intro w' h3 h4
 refine hK w' ⟨_, h3, fun u => ?_⟩ h4
 by_cases hu : u = s
 ·subst hu
  rw [atKey_put_same (h1.isMap) (show WideAt.IsKeyLit (.string _) from trivial), inB_iff.2 (by simp)]
 ·rw [atKey_put_other (fun e => hu (bytes_eq (by injection e))), h2 u]
  have this : inB (names ++ [s]) u = inB names u := by
   rw [Bool.eq_iff_iff, inB_iff, inB_iff, List.mem_append, List.mem_singleton]
   exact ⟨fun h => h.resolve_right hu, .inl⟩
  rw [this]
end
end Go.Proofs.Ytddhaidimadliaa
namespace Go.Proofs.Ytddhaidimadliaa
open Go.RowKit Go

theorem isName_q (s : ByteArray) (q : Bool) (hq : nameB s = q) (w : World) (hs : s.size ≤ 9223372036854775807) :
  Calls Try.prog 114 #[.string s] w fun e w' => e = .returned (.bool q) ∧ w = w' := by subst hq; exact alphabet_IsName s w hs
theorem ev7 {pre : List ByteArray} {e : Ev} (h : nameB e.nm = false) : evErr pre e = 7 := by simp [evErr, h]
theorem ev8 {pre : List ByteArray} {e : Ev} (h : nameB e.nm = true) (h2 : inB pre e.nm = true) : evErr pre e = 8 := by simp [evErr, h, h2]
theorem ev2 {pre : List ByteArray} {e : Ev} (h : nameB e.nm = true) (h2 : inB pre e.nm = false) (h3 : e.fault < 0 ∨ 4 < e.fault) : evErr pre e = 2 := by simp [evErr, h, h2, h3]
theorem ev13 {pre : List ByteArray} {e : Ev} (h : nameB e.nm = true) (h2 : inB pre e.nm = false) (h3 : ¬ (e.fault < 0 ∨ 4 < e.fault)) (h4 : e.fault ≠ 0) (h5 : e.c = true ∨ e.o = true) : evErr pre e = 13 := by simp [evErr, h, h2, h3, h4, h5]
theorem ev0 {pre : List ByteArray} {e : Ev} (h : nameB e.nm = true) (h2 : inB pre e.nm = false) (h3 : ¬ (e.fault < 0 ∨ 4 < e.fault)) (h4 : ¬ (e.fault ≠ 0 ∧ (e.c = true ∨ e.o = true))) : evErr pre e = 0 := by simp only [evErr, h, h2, if_neg h3, if_neg h4]; simp
theorem chk_stop {l : List Ev} {k : Nat} {e : Ev} {pre : List ByteArray} {r : Int} (hx : chkE l = chkG pre (l.drop k)) (he : l[k]? = some e) (hr : evErr pre e = r) (h0 : r ≠ 0) : chkE l = r := by
 rw [hx, chkG_stop he (by rw [hr]; exact h0), hr]
theorem chk_go {l : List Ev} {k : Nat} {e : Ev} (hx : chkE l = chkG ((l.take k).map Ev.nm) (l.drop k)) (he : l[k]? = some e) (hr : evErr ((l.take k).map Ev.nm) e = 0) : chkE l = chkG ((l.take (k + 1)).map Ev.nm) (l.drop (k + 1)) := by
 rw [hx, chkG_go he hr, names_snoc he]

theorem ev_cells {w : World} {ad : Addr} {m : Nat} {u : Value} {j : Nat} (h : w.cell? (ad.add (m + (j + 1))) = some u) : w.cell? ⟨(ad.add m).block, (ad.add m).off + (j + 1), none⟩ = some u := by
 rw [← add_of_add] at h
 exact cell_succ h


set_option maxRecDepth 100000 in
set_option maxHeartbeats 3200000 in
theorem alphabet_Check (A : Option Addr) (c n : Nat) (l : List Ev) (w : World) (hl : l.length = n) (h : RdE w w.heap.size A l) :
  Calls Try.prog 81 #[.slice A n c] w fun e w' => e = .returned (.int .i64 (chkE l)) ∧ Below w.heap.size w w' := by
 by_cases h32 : 32 < n
 ·have hr : chkE l = 3 := by unfold chkE; rw [if_pos (by omega)]
  rw [hr]
  clear hr hl
  go_enter Try.func81, Try.ntmps81
  go_wp2
  go_ret
  exact ⟨rfl, Below.refl _ _⟩
 ·have hg : chkE l = chkG ((l.take 0).map Ev.nm) (l.drop 0) := by unfold chkE; rw [if_neg (by omega)]; rfl
  have HL := Lib.hid hl; clear hl
  have HG := Lib.hid hg; clear hg
  have hmm := @run_makeMap Try.prog
  have hn0 := NamesIn.made w
  have HN0 := Lib.hid hn0
  clear hn0
  go_enter Try.func81, Try.ntmps81
  go_wp2
  go_loopw [12] (fun i wr => ∃ k : Nat, k ≤ n ∧ i = .int .i64 k ∧ Hid (chkE l = chkG ((l.take k).map Ev.nm) (l.drop k)) ∧ Hid (NamesIn wr w.heap.size k ((l.take k).map Ev.nm)) ∧ Below w.heap.size w wr) (fun i _ => n - (intOf i).toNat)
  case atStart => exact ⟨0, Nat.zero_le _, rfl, HG, HN0, (Below.refl _ _).alloc (Nat.le_refl _) _⟩
  case round =>
   obtain ⟨k, hk, rfl, HX, HNM, hbel⟩ := hrel
   clear HG HN0
   have hsz := hbel.size
   by_cases hlt : k < n
   ·obtain ⟨ad, e, rfl, hb, he, hs, q0, q1, q2, q3, q4⟩ := (h.below hbel).at_ (k := k) (by have := HL.out; omega)
    have HE := Lib.hid he; clear he
    have b1 : (k : Int) < (n : Int) := by omega
    have p1 : wr.cell? ⟨(ad.add (k * 5)).block, (ad.add (k * 5)).off + 1, none⟩ = some (.bool e.c) := ev_cells (j := 0) q1
    have p2 : wr.cell? ⟨(ad.add (k * 5)).block, (ad.add (k * 5)).off + 2, none⟩ = some (.bool e.o) := ev_cells (j := 1) q2
    have p3 : wr.cell? ⟨(ad.add (k * 5)).block, (ad.add (k * 5)).off + 3, none⟩ = some (.bool e.f) := ev_cells (j := 2) q3
    have p4 : wr.cell? ⟨(ad.add (k * 5)).block, (ad.add (k * 5)).off + 4, none⟩ = some (.int .i64 e.fault) := ev_cells (j := 3) q4
    clear q1 q2 q3 q4
    cases hnm : nameB e.nm with
    | false =>
     have HR := Lib.hid (chk_stop HX.out HE.out (ev7 hnm) (by decide))
     have HN := Lib.hid hnm; clear hnm
     go_wp2_with fail
     refine (isName_q e.nm false HN.out _ hs).mono ?_
     rintro e' w' ⟨rfl, rfl⟩
     go_wp2
     go_ret
     exact ⟨ret_int HR.out.symm, Below.alloc hbel hbel.size _⟩
    | true =>
     cases hin : inB ((l.take k).map Ev.nm) e.nm with
     | true =>
      have HR := Lib.hid (chk_stop HX.out HE.out (ev8 hnm hin) (by decide))
      have HN := Lib.hid hnm; clear hnm
      have HI := Lib.hid hin; clear hin
      go_wp2_with fail
      refine (isName_q e.nm true HN.out _ hs).mono ?_
      rintro e' w' ⟨rfl, rfl⟩
      go_wp2_with (at_lookup; refine wpList_lookup_names rfl _ _ rfl rfl (HNM.out.alloc _) e.nm rfl hs true HI.out ?_)
      go_ret
      exact ⟨ret_int HR.out.symm, Below.alloc hbel hbel.size _⟩
     | false =>
      by_cases f1 : e.fault < 0
      ·have HR := Lib.hid (chk_stop HX.out HE.out (ev2 hnm hin (.inl f1)) (by decide))
       have HN := Lib.hid hnm; clear hnm
       have HI := Lib.hid hin; clear hin
       go_wp2_with fail
       refine (isName_q e.nm true HN.out _ hs).mono ?_
       rintro e' w' ⟨rfl, rfl⟩
       go_wp2_with (at_lookup; refine wpList_lookup_names rfl _ _ rfl rfl (HNM.out.alloc _) e.nm rfl hs false HI.out ?_)
       go_ret
       exact ⟨ret_int HR.out.symm, Below.alloc hbel hbel.size _⟩
      ·by_cases f2 : 4 < e.fault
       ·have HR := Lib.hid (chk_stop HX.out HE.out (ev2 hnm hin (.inr f2)) (by decide))
        have HN := Lib.hid hnm; clear hnm
        have HI := Lib.hid hin; clear hin
        go_wp2_with fail
        refine (isName_q e.nm true HN.out _ hs).mono ?_
        rintro e' w' ⟨rfl, rfl⟩
        go_wp2_with (at_lookup; refine wpList_lookup_names rfl _ _ rfl rfl (HNM.out.alloc _) e.nm rfl hs false HI.out ?_)
        go_ret
        exact ⟨ret_int HR.out.symm, Below.alloc hbel hbel.size _⟩
       ·have f12 : ¬ (e.fault < 0 ∨ 4 < e.fault) := by omega
        have d1 : decide (e.fault < 0) = false := decide_eq_false f1
        have d2 : decide (4 < e.fault) = false := decide_eq_false f2
        by_cases f3 : e.fault = 0
        ·have HR := Lib.hid (ev0 hnm hin f12 (fun h => h.1 f3))
         have d3 : (e.fault != 0) = false := by simp [f3]
         have F3 := Lib.hid f3; clear f3
         have F12 := Lib.hid f12; clear f12
         have HN := Lib.hid hnm; clear hnm
         have HI := Lib.hid hin; clear hin
         go_wp2_with fail
         refine (isName_q e.nm true HN.out _ hs).mono ?_
         rintro e' w' ⟨rfl, rfl⟩
         go_wp2_with (first | (at_lookup; refine wpList_lookup_names rfl _ _ rfl rfl (HNM.out.alloc _) e.nm rfl hs false HI.out ?_) | (at_mapUpdate; refine wpList_add_name rfl _ _ _ rfl rfl (HNM.out.alloc _) (by omega) e.nm rfl hs rfl ?_; intro w2 hnm2 hg2))
         go_roundw
         case rel => exact ⟨k + 1, by omega, by go_num, Lib.hid (chk_go HX.out HE.out HR.out), Lib.hid (by rw [names_snoc HE.out]; exact hnm2), (Below.alloc hbel hbel.size _).grown hg2 (alloc_le _ hbel.size) (fun j hj => by cases hj; exact Nat.le_refl _)⟩
         case measure => simp [intOf]; omega
        ·have d3 : (e.fault != 0) = true := by simpa using f3
         cases hc : e.c with
         | true =>
          have HR := Lib.hid (chk_stop HX.out HE.out (ev13 hnm hin f12 f3 (.inl hc)) (by decide))
          rw [hc] at p1
          have HC := Lib.hid hc; clear hc
          have F12 := Lib.hid f12; clear f12
          have HN := Lib.hid hnm; clear hnm
          have HI := Lib.hid hin; clear hin
          go_wp2_with fail
          refine (isName_q e.nm true HN.out _ hs).mono ?_
          rintro e' w' ⟨rfl, rfl⟩
          go_wp2_with (at_lookup; refine wpList_lookup_names rfl _ _ rfl rfl (HNM.out.alloc _) e.nm rfl hs false HI.out ?_)
          go_ret
          exact ⟨ret_int HR.out.symm, Below.alloc hbel hbel.size _⟩
         | false =>
          cases ho : e.o with
          | true =>
           have HR := Lib.hid (chk_stop HX.out HE.out (ev13 hnm hin f12 f3 (.inr ho)) (by decide))
           rw [hc] at p1
           rw [ho] at p2
           have HC := Lib.hid hc; clear hc
           have HO := Lib.hid ho; clear ho
           have F12 := Lib.hid f12; clear f12
           have HN := Lib.hid hnm; clear hnm
           have HI := Lib.hid hin; clear hin
           go_wp2_with fail
           refine (isName_q e.nm true HN.out _ hs).mono ?_
           rintro e' w' ⟨rfl, rfl⟩
           go_wp2_with (at_lookup; refine wpList_lookup_names rfl _ _ rfl rfl (HNM.out.alloc _) e.nm rfl hs false HI.out ?_)
           go_ret
           exact ⟨ret_int HR.out.symm, Below.alloc hbel hbel.size _⟩
          | false =>
           have HR := Lib.hid (ev0 hnm hin f12 (fun h => by rw [hc, ho] at h; simp at h))
           rw [hc] at p1
           rw [ho] at p2
           have HC := Lib.hid hc; clear hc
           have HO := Lib.hid ho; clear ho
           have F12 := Lib.hid f12; clear f12
           have HN := Lib.hid hnm; clear hnm
           have HI := Lib.hid hin; clear hin
           go_wp2_with fail
           refine (isName_q e.nm true HN.out _ hs).mono ?_
           rintro e' w' ⟨rfl, rfl⟩
           go_wp2_with (first | (at_lookup; refine wpList_lookup_names rfl _ _ rfl rfl (HNM.out.alloc _) e.nm rfl hs false HI.out ?_) | (at_mapUpdate; refine wpList_add_name rfl _ _ _ rfl rfl (HNM.out.alloc _) (by omega) e.nm rfl hs rfl ?_; intro w2 hnm2 hg2))
           go_roundw
           case rel => exact ⟨k + 1, by omega, by go_num, Lib.hid (chk_go HX.out HE.out HR.out), Lib.hid (by rw [names_snoc HE.out]; exact hnm2), (Below.alloc hbel hbel.size _).grown hg2 (alloc_le _ hbel.size) (fun j hj => by cases hj; exact Nat.le_refl _)⟩
           case measure => simp [intOf]; omega
   ·have hfin : chkE l = 0 := by rw [HX.out, chkG_end (by have := HL.out; omega)]
    have HF := Lib.hid hfin; clear hfin
    go_wp2
    go_ret
    exact ⟨ret_int HF.out.symm, hbel⟩
end Go.Proofs.Ytddhaidimadliaa
