/- Plain laws on names and events; slices of events as they lie in memory. -/
import Derived.Test.YtcbhencebflgcaaBase
import Derived.Test.YtcbhencebflgcaaPl
namespace Go.Proofs.Ytcbhencebflgcaa
open Go.RowKit Go

/-- an event -/
structure Ev where
  nm : ByteArray
  c : Bool
  o : Bool
  f : Bool
  fault : Int
def Ev.cells (e : Ev) : List Value := [.string e.nm, .bool e.c, .bool e.o, .bool e.f, .int .i64 e.fault]
/-- may the byte c stand at place i of a name? -/
def letB (c : Int) : Bool := (decide (97 ≤ c) && decide (c ≤ 122)) || (decide (65 ≤ c) && decide (c ≤ 90)) || (c == 95)
def digB (c : Int) : Bool := decide (48 ≤ c) && decide (c ≤ 57)
def okB (i : Nat) (c : Int) : Bool := letB c || (digB c && !(i == 0))
def okG : Nat → List UInt8 → Bool
  | _, [] => true
  | i, c :: r => okB i (c.toNat : Int) && okG (i + 1) r
def nameB (s : ByteArray) : Bool := decide (0 < s.size) && decide (s.size ≤ 32) && okG 0 s.data.toList
theorem okG_step {l : List UInt8} {k : Nat} {c : UInt8} (h : l[k]? = some c) : okG k (l.drop k) = (okB k (c.toNat : Int) && okG (k + 1) (l.drop (k + 1))) := by
  rw [drop_cons' h]; rfl
theorem okG_end {l : List UInt8} {k : Nat} (h : ¬ k < l.length) : okG k (l.drop k) = true := by
  rw [List.drop_of_length_le (by omega)]; rfl
/-- is a name on the list? -/
def inB (pre : List ByteArray) (s : ByteArray) : Bool := pre.any (fun t => decide (t = s))
theorem inB_iff {pre : List ByteArray} {s : ByteArray} : inB pre s = true ↔ s ∈ pre := by simp [inB]
theorem inB_no {pre : List ByteArray} {s : ByteArray} : inB pre s = false ↔ s ∉ pre := by rw [← inB_iff, Bool.not_eq_true]
/-- the first fault of an event behind others -/
def evErr (pre : List ByteArray) (e : Ev) : Int :=
  if nameB e.nm = false then 7 else if inB pre e.nm = true then 8 else if e.fault < 0 ∨ 4 < e.fault then 2 else if e.fault ≠ 0 ∧ (e.c = true ∨ e.o = true) then 13 else 0
def chkG : List ByteArray → List Ev → Int
  | _, [] => 0
  | pre, e :: r => if evErr pre e ≠ 0 then evErr pre e else chkG (pre ++ [e.nm]) r
def chkE (l : List Ev) : Int := if 32 < l.length then 3 else chkG [] l
theorem chkG_stop {l : List Ev} {k : Nat} {e : Ev} {pre : List ByteArray} (h : l[k]? = some e) (he : evErr pre e ≠ 0) : chkG pre (l.drop k) = evErr pre e := by
  rw [drop_cons' h]; simp [chkG, he]
theorem chkG_go {l : List Ev} {k : Nat} {e : Ev} {pre : List ByteArray} (h : l[k]? = some e) (he : evErr pre e = 0) : chkG pre (l.drop k) = chkG (pre ++ [e.nm]) (l.drop (k + 1)) := by
  rw [drop_cons' h]; simp [chkG, he]
theorem chkG_end {l : List Ev} {k : Nat} {pre : List ByteArray} (h : ¬ k < l.length) : chkG pre (l.drop k) = 0 := by
  rw [List.drop_of_length_le (by omega)]; rfl
theorem names_snoc {l : List Ev} {k : Nat} {e : Ev} (h : l[k]? = some e) : (l.take (k + 1)).map Ev.nm = (l.take k).map Ev.nm ++ [e.nm] := by rw [take_snoc' h]; simp

/-- A slice of events: five cells each. -/
def RdE (w : World) (B : Nat) (A : Option Addr) (l : List Ev) : Prop :=
  ∀ k e, l[k]? = some e → ∃ ad, A = some ad ∧ ad.block < B ∧ e.nm.size ≤ 9223372036854775807 ∧ ∀ j u, e.cells[j]? = some u → w.cell? (ad.add (k * 5 + j)) = some u
section
variable {w w' : World} {B B' : Nat} {A : Option Addr} {l : List Ev}
theorem RdE.nil : RdE w B A [] := fun k u h => by simp at h
theorem RdE.keep (h : RdE w B A l) (hk : ∀ p : Addr, p.block < B → w'.cell? p = w.cell? p) : RdE w' B A l := fun k e hu => by
  obtain ⟨ad, e1, hb, hs, hc⟩ := h k e hu
  exact ⟨ad, e1, hb, hs, fun j u hj => (hk _ (by rw [block_of_add]; exact hb)).trans (hc j u hj)⟩
theorem RdE.more (h : RdE w B A l) (hB : B ≤ B') : RdE w B' A l := fun k e hu => by
  obtain ⟨ad, e1, hb, hs, hc⟩ := h k e hu
  exact ⟨ad, e1, by omega, hs, hc⟩
theorem RdE.below (h : RdE w B A l) (hb : Below B w w') : RdE w' B A l := h.keep fun _ hp => hb.cell hp
theorem RdE.take (h : RdE w B A l) (n : Nat) : RdE w B A (l.take n) := fun k u hu => h k u (by
  rw [List.getElem?_take] at hu
  split at hu
  · exact hu
  · cases hu)
theorem RdE.at_ {k : Nat} (h : RdE w B A l) (hk : k < l.length) : ∃ ad e, A = some ad ∧ ad.block < B ∧ l[k]? = some e ∧ e.nm.size ≤ 9223372036854775807 ∧
    w.cell? (ad.add (k * 5)) = some (.string e.nm) ∧ w.cell? (ad.add (k * 5 + 1)) = some (.bool e.c) ∧ w.cell? (ad.add (k * 5 + 2)) = some (.bool e.o) ∧ w.cell? (ad.add (k * 5 + 3)) = some (.bool e.f) ∧ w.cell? (ad.add (k * 5 + 4)) = some (.int .i64 e.fault) := by
  obtain ⟨ad, e1, hb, hs, hc⟩ := h k _ (List.getElem?_eq_getElem hk)
  exact ⟨ad, _, e1, hb, List.getElem?_eq_getElem hk, hs, hc 0 _ rfl, hc 1 _ rfl, hc 2 _ rfl, hc 3 _ rfl, hc 4 _ rfl⟩
end
end Go.Proofs.Ytcbhencebflgcaa
