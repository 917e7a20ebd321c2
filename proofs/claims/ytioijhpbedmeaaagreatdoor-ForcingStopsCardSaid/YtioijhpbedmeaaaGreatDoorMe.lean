/- Walks: strings.Builder at this dump; the key of a tuple. -/
import Derived.Test.YtioijhpbedmeaaaGreatDoorShelf
import Derived.Test.YtioijhpbedmeaaaGreatDoorSa
import Derived.Test.YtioijhpbedmeaaaGreatDoorAa
import Derived.Shelf.Strings.Builder1
import Derived.Shelf.Abstract
import Derived.Test.YtioijhpbedmeaaaGreatDoorQa
import Derived.Test.YtioijhpbedmeaaaGreatDoorMa
namespace Go.Proofs.YtioijhpbedmeaaaGreatDoor
open Go.RowKit Go Go.Maps

theorem bldSize : (Tryz.prog.info? 154).map (·.size) = some 2 := by kernel_rfl
theorem bldLies : liesAt Tryz.prog Tryz.prog.depth 154 (2 / Tryz.prog.cellsOf 154) 0 154 1 = true := by kernel_rfl
theorem byte_info : (Tryz.prog.info? 5).map (fun i => (i.zero, i.size, i.bytes)) = some (some (.int .u8 0), 1, 1) := by kernel_rfl

set_option maxHeartbeats 1000000 in
set_option maxRecDepth 100000 in
theorem copyCheck_used (b : Nat) (w : World) (h0 : w.cell? ⟨b, 0, none⟩ = some (.pointer (some ⟨b, 0, none⟩))) :
  Calls Tryz.prog 115 #[.pointer (some ⟨b, 0, none⟩)] w fun e w' => e = .returned (.tuple #[]) ∧ w' = w := by
 obtain ⟨j, hj, _⟩ := Option.map_eq_some_iff.1 bldSize
 go_enter Tryz.func115, Tryz.ntmps115
 go_wp2
 rw [Lib.run_neq_ptr_same w _ Tryz.underlying151 hj]
 go_wp2
 go_end0
 exact ⟨rfl, rfl⟩
set_option maxHeartbeats 1000000 in
set_option maxRecDepth 100000 in
theorem copyCheck_fresh (b : Nat) (w : World) (h0 : w.cell? ⟨b, 0, none⟩ = some (.pointer none)) (hsh : w.shape? b = some (154, 2)) (hfz : w.frozen? ⟨b, 0, none⟩ = false) :
  Calls Tryz.prog 115 #[.pointer (some ⟨b, 0, none⟩)] w fun e w' => e = .returned (.tuple #[]) ∧ w' = w.setCell ⟨b, 0, none⟩ (.pointer (some ⟨b, 0, none⟩)) := by
 obtain ⟨j, hj, hjs⟩ := Option.map_eq_some_iff.1 bldSize
 go_enter Tryz.func115, Tryz.ntmps115
 go_wp2
 rw [Lib.run_to_unsafe w ⟨b, 0, none⟩ Tryz.underlying151 Tryz.underlying168 hj (by rw [hjs]; decide) hsh (Nat.zero_lt_succ 1)]
 simp only [Result.andThen]
 rw [Oper.upon_value]
 go_wp2
 rw [run_callFunc_extern Tryz.func123 (by kernel_rfl) (by kernel_rfl) (by kernel_rfl) (e := Extern.AbiNoEscape.same) (by kernel_rfl)]
 rw [Lib.run_noEscape]
 simp only [Result.andThen]
 rw [Oper.upon_value]
 go_wp2
 rw [Lib.run_from_unsafe w ⟨b, 0, none⟩ Tryz.underlying168 Tryz.underlying151 hj hsh bldLies]
 simp only [Result.andThen]
 rw [Oper.upon_value]
 go_wp2
 go_end0
 exact ⟨rfl, rfl⟩
theorem copyCheck (B b : Nat) (bs : List Value) (w : World) (h : Lib.IsBuilder 154 5 B b bs w) :
  Calls Tryz.prog 115 #[.pointer (some ⟨b, 0, none⟩)] w fun e w' => e = .returned (.tuple #[]) ∧ (Lib.BuilderAt 154 5 B b (.pointer (some ⟨b, 0, none⟩)) bs w' ∧ Below B w w') := by
 rcases h with h | h
 ·refine (copyCheck_fresh b w h.cell0 h.shape h.frozen0).mono ?_
  rintro e w' ⟨rfl, rfl⟩
  exact ⟨rfl, h.used _, (Below.refl B w).setCell (p := ⟨b, 0, none⟩) h.1 _⟩
 ·refine (copyCheck_used b w h.cell0).mono ?_
  rintro e w' ⟨rfl, rfl⟩
  exact ⟨rfl, h, Below.refl B _⟩

set_option maxHeartbeats 2000000 in
set_option maxRecDepth 100000 in
theorem bld_WriteByte (B b : Nat) (bs : List Value) (c : Int) (w : World) (h : Lib.IsBuilder 154 5 B b bs w) (hlen : bs.length + 1 ≤ 140737488355328) (hBw : B ≤ w.heap.size) :
  Calls Tryz.prog 106 #[.pointer (some ⟨b, 0, none⟩), .int .u8 c] w fun e w' => e = .returned .nilIface ∧ (Lib.BuilderAt 154 5 B b (.pointer (some ⟨b, 0, none⟩)) (bs ++ [.int .u8 c]) w' ∧ Below B w w') := by
 obtain ⟨i0, hi, hz0, hz1, hz2⟩ := info_parts byte_info
 have HC := Lib.hid (fun W hW => copyCheck B b bs W hW)
 go_enter Tryz.func106, Tryz.ntmps106
 go_wp2_with fail
 refine (HC.out _ h).mono ?_
 rintro e w1 ⟨rfl, h1, hb1⟩
 obtain ⟨hB, v, hbk, hown, hne⟩ := h1
 have c0 : w1.cell? ⟨b, 0, none⟩ = some (.pointer (some ⟨b, 0, none⟩)) := by rw [Lib.cell_of_heap hbk]; rfl
 have c1 : w1.cell? ⟨b, 1, none⟩ = some v := by rw [Lib.cell_of_heap hbk]; rfl
 go_wp2_with (at_builtin; refine wpList_append_own _ rfl _ _ 152 rfl B 5 i0 (.int .u8 0) 1 1 Tryz.underlying152 hi hz0 hz1 hz2 rfl (by decide) _ _ _ rfl (hown.alloc _) ⟨w1.heap.size, 0, none⟩ 1 1 [.int .u8 c] rfl rfl ?c1 ?c2 ?c3 ?c4 ?c5 ?_)
 case c1 =>
  intro j u hj
  match j, hj with
  | 0, hj => simp at hj; subst hj; simp [Addr.add]
  | j + 1, hj => simp at hj
 case c2 => intro u hu; simp at hu; subst hu; rfl
 case c3 => unfold maxLen; omega
 case c4 => omega
 case c5 => have := hb1.size; simp; omega
 intro v' w2 hown' hgrow _
 have hlt : b < w1.heap.size := by
  rcases Nat.lt_or_ge b w1.heap.size with h' | h'
  ·exact h'
  ·simp [Array.getElem?_eq_none h'] at hbk
 have hb2 : w2.heap[b]? = some (.cells #[.pointer (some ⟨b, 0, none⟩), v] 154 (0, 0)) := by
  rw [hgrow.block b (by simp; omega) (fun e => hne e.symm), Lib.alloc_old w1 _ b hlt]
  exact hbk
 have d0 : w2.cell? ⟨b, 0, none⟩ = some (.pointer (some ⟨b, 0, none⟩)) := by rw [Lib.cell_of_heap hb2]; rfl
 have d1 : w2.cell? ⟨b, 1, none⟩ = some v := by rw [Lib.cell_of_heap hb2]; rfl
 have f1 : w2.frozen? ⟨b, 1, none⟩ = false := Lib.frozen_of_heap hb2 1
 obtain ⟨g, cap, rfl⟩ : ∃ g cap, v' = .slice (some ⟨g, 0, none⟩) (bs.length + 1) cap := by
  rcases hown'.2 with ⟨_, h0⟩ | ⟨g, cap, cur, hv, _⟩
  ·omega
  ·exact ⟨g, cap, hv⟩
 go_wp2
 go_ret
 refine ⟨rfl, ?_, ?_⟩
 ·exact Lib.BuilderAt.put (T := 154) (e := 5) hB hb2 (bs' := bs ++ [.int .u8 c]) (by simpa using hown') (by decide)
 ·exact ((hb1.alloc (by have := hb1.size; omega) _).grown hgrow (by have := hb1.size; simp; omega) (fun k hk => (hown.lt k hk).1)).setCell (p := ⟨b, 1, none⟩) hB _

set_option maxHeartbeats 2000000 in
set_option maxRecDepth 100000 in
theorem bld_WriteString (B b : Nat) (bs : List Value) (s : ByteArray) (w : World) (h : Lib.IsBuilder 154 5 B b bs w) (hlen : bs.length + s.size ≤ 140737488355328) (hBw : B ≤ w.heap.size) :
  Calls Tryz.prog 104 #[.pointer (some ⟨b, 0, none⟩), .string s] w fun e w' => e = .returned (.tuple #[.int .i64 s.size, .nilIface]) ∧ (Lib.BuilderAt 154 5 B b (.pointer (some ⟨b, 0, none⟩)) (bs ++ Lib.strCells s) w' ∧ Below B w w') := by
 obtain ⟨i0, hi, hz0, hz1, hz2⟩ := info_parts byte_info
 have HC := Lib.hid (fun W hW => copyCheck B b bs W hW)
 go_enter Tryz.func104, Tryz.ntmps104
 go_wp2_with fail
 refine (HC.out _ h).mono ?_
 rintro e w1 ⟨rfl, h1, hb1⟩
 obtain ⟨hB, v, hbk, hown, hne⟩ := h1
 have c0 : w1.cell? ⟨b, 0, none⟩ = some (.pointer (some ⟨b, 0, none⟩)) := by rw [Lib.cell_of_heap hbk]; rfl
 have c1 : w1.cell? ⟨b, 1, none⟩ = some v := by rw [Lib.cell_of_heap hbk]; rfl
 go_wp2_with (at_builtin; refine Lib.wpList_append_own_string _ rfl _ _ 152 9 rfl B 5 i0 Tryz.underlying152 Tryz.underlying9 hi hz0 hz1 hz2 _ _ _ rfl hown s rfl ?c3 ?c4 ?c5 ?_)
 case c3 => unfold maxLen; omega
 case c4 => omega
 case c5 => have := hb1.size; omega
 intro v' w2 hown' hgrow _
 have hlt : b < w1.heap.size := by
  rcases Nat.lt_or_ge b w1.heap.size with h' | h'
  ·exact h'
  ·simp [Array.getElem?_eq_none h'] at hbk
 have hb2 : w2.heap[b]? = some (.cells #[.pointer (some ⟨b, 0, none⟩), v] 154 (0, 0)) := by
  rw [hgrow.block b hlt (fun e => hne e.symm)]
  exact hbk
 have d0 : w2.cell? ⟨b, 0, none⟩ = some (.pointer (some ⟨b, 0, none⟩)) := by rw [Lib.cell_of_heap hb2]; rfl
 have d1 : w2.cell? ⟨b, 1, none⟩ = some v := by rw [Lib.cell_of_heap hb2]; rfl
 have f1 : w2.frozen? ⟨b, 1, none⟩ = false := Lib.frozen_of_heap hb2 1
 obtain ⟨ao, n', cap, rfl⟩ : ∃ ao n' cap, v' = .slice ao n' cap := by
  rcases hown'.2 with ⟨hv, _⟩ | ⟨g, cap, cur, hv, _⟩
  ·exact ⟨_, _, _, hv⟩
  ·exact ⟨_, _, _, hv⟩
 go_wp2
 go_ret2
 refine ⟨rfl, ?_, ?_⟩
 ·exact Lib.BuilderAt.put (T := 154) (e := 5) hB hb2 (bs' := bs ++ Lib.strCells s) (by simpa [Lib.strCells_length] using hown') (by decide)
 ·exact (hb1.grown hgrow (by have := hb1.size; omega) (fun k hk => (hown.lt k hk).1)).setCell (p := ⟨b, 1, none⟩) hB _
end Go.Proofs.YtioijhpbedmeaaaGreatDoor

/- Walks: the key of a tuple. -/
namespace Go.Proofs.YtioijhpbedmeaaaGreatDoor
open Go.RowKit Go Go.Maps

theorem cells_app (a b : List UInt8) : Lib.byteCells (a ++ b) = Lib.byteCells a ++ Lib.byteCells b := by simp [Lib.byteCells]
theorem cells_str (l : List UInt8) : Lib.strCells ⟨l.toArray⟩ = Lib.byteCells l := by simp [Lib.strCells, Lib.byteCells]
set_option maxRecDepth 100000 in
set_option maxHeartbeats 1600000 in
theorem product_key (T : Option Addr) (n c : Nat) (t : List Int) (w : World) (ht : t.length = n) (hT : RdI w w.heap.size T t) (hn : n ≤ 12) (hr : ∀ x ∈ t, 0 ≤ x ∧ x < 100) :
  Calls Tryz.prog 77 #[.slice T n c] w fun e w' => e = .returned (.string (keyS t)) ∧ Below w.heap.size w w' := by
 have hB0 := box_below' w (.cells #[.pointer none, .slice none 0 0] 154)
 have hf := Lib.fresh_isBuilder 154 5 w
 have HF := Lib.hid (show Lib.IsBuilder 154 5 w.heap.size w.heap.size (Lib.byteCells (keyL (t.take 0))) (w.alloc (.cells #[.pointer none, .slice none 0 0] 154)) from hf)
 clear hf
 have HL := Lib.hid ht; clear ht
 have HR := Lib.hid hr; clear hr
 go_enter Tryz.func77, Tryz.ntmps77
 go_wp2
 go_loopw [8] (fun i wr => ∃ k : Nat, k ≤ n ∧ i = .int .i64 k ∧ Hid (Lib.IsBuilder 154 5 w.heap.size w.heap.size (Lib.byteCells (keyL (t.take k))) wr) ∧ Below w.heap.size w wr) (fun i _ => n - (intOf i).toNat)
 case atStart => exact ⟨0, Nat.zero_le _, rfl, HF, hB0⟩
 case round =>
  obtain ⟨k, hk, rfl, HB, hbel⟩ := hrel
  clear HF
  have hsz := hbel.size
  by_cases hlt : k < n
  ·obtain ⟨td, x, rfl, hbt, hx, hcx⟩ := ((hT.below hbel).more hsz).at_ (k := k) (by have := HL.out; omega)
   have b1 : (k : Int) < (n : Int) := by omega
   have hrx := HR.out x (List.mem_of_getElem? hx)
   obtain ⟨i, rfl⟩ : ∃ i : Nat, x = (i : Int) := ⟨x.toNat, by omega⟩
   have hi : i < 100 := by omega
   have hlen : (keyL (t.take k)).length ≤ 3 * 12 := by
    have := keyL_len (t := t.take k) (fun y hy => HR.out y (List.mem_of_mem_take hy))
    rw [List.length_take] at this; omega
   have hdl := dd_len hi
   have hks := keyL_snoc hx
   rw [Int.toNat_natCast] at hks
   have HI := Lib.hid (Tryz.strconv_Itoa_small i hi wr)
   have HW := Lib.hid (bld_WriteString w.heap.size w.heap.size (Lib.byteCells (keyL (t.take k))) ⟨(Lib.decDigits i).toArray⟩ wr HB.out (by rw [Lib.byteCells_length]; simp [ByteArray.size]; omega) hsz)
   have HWB := Lib.hid (fun (W : World) (hW : Lib.IsBuilder 154 5 w.heap.size w.heap.size (Lib.byteCells (keyL (t.take k)) ++ Lib.strCells ⟨(Lib.decDigits i).toArray⟩) W) (hs : w.heap.size ≤ W.heap.size) => bld_WriteByte w.heap.size w.heap.size _ 32 W hW (by rw [List.length_append, Lib.byteCells_length, Lib.strCells_length]; simp [ByteArray.size]; omega) hs)
   have HKS := Lib.hid hks; clear hks
   have HX := Lib.hid hx; clear hx
   clear hlen hdl hrx hi HB
   go_wp2_with fail
   refine HI.out.mono ?_
   rintro e w' ⟨rfl, rfl⟩
   go_wp2_with fail
   refine HW.out.mono ?_
   rintro e w3 ⟨rfl, hb3, hbl3⟩
   have F3 := hbel.trans hbl3
   go_wp2_with fail
   refine (HWB.out w3 (.inr hb3) F3.size).mono ?_
   rintro e w4 ⟨rfl, hb4, hbl4⟩
   go_wp2
   go_roundw
   case rel =>
    refine ⟨k + 1, by omega, by go_num, Lib.hid ?_, F3.trans hbl4⟩
    rw [HKS.out, cells_app, cells_app, ← List.append_assoc, ← cells_str (Lib.decDigits i)]
    exact .inr hb4
   case measure => simp [intOf]; omega
  ·have HS := Lib.hid (Tryz.Builder_String_any w.heap.size w.heap.size (keyL (t.take k)) wr HB.out hsz)
   have hf : (⟨(keyL (t.take k)).toArray⟩ : ByteArray) = keyS t := by rw [List.take_of_length_le (by have := HL.out; omega)]; rfl
   rw [hf] at HS
   go_wp2_with fail
   refine HS.out.mono ?_
   rintro e w3 ⟨rfl, hb3⟩
   go_wp2
   go_ret
   exact ⟨rfl, hbel.trans hb3⟩
end Go.Proofs.YtioijhpbedmeaaaGreatDoor

/- The state of product.Synchronous as it stands in memory; what each of its steps leaves of it. -/
namespace Go.Proofs.YtioijhpbedmeaaaGreatDoor
open Go.RowKit Go Go.Maps

theorem ints_info : (Tryz.prog.info? 30).map (fun i => (i.zero, i.size, i.bytes)) = some (some (.slice none 0 0), 1, 24) := by kernel_rfl
theorem edge_info : (Tryz.prog.info? 49).map (fun i => (i.zero, i.size, i.bytes)) = some (some (.agg #[.int .i64 0, .int .i64 0, .int .i64 0]), 3, 24) := by kernel_rfl
theorem strLaw : Keyed Tryz.prog 9 := string_keyed Tryz.underlying9
/-- the place in a list, if any -/
def idxO {σ : Type} [DecidableEq σ] (l : List σ) (x : σ) : Option Int := if idx l x < 0 then none else some (idx l x)
theorem idx_snoc_other {σ : Type} [DecidableEq σ] : ∀ {l : List σ} {x y : σ}, y ≠ x → idx (l ++ [y]) x = idx l x
 | [], x, y, h => by simp [idx, h]
 | z :: r, x, y, h => by
  have ih := idx_snoc_other (l := r) h
  show idx (z :: (r ++ [y])) x = _
  unfold idx
  rw [ih]
theorem idxO_snoc_new {σ : Type} [DecidableEq σ] {l : List σ} {x : σ} (h : x ∉ l) : idxO (l ++ [x]) x = some (l.length : Int) := by
 unfold idxO; rw [idx_new h, if_neg (by omega)]
theorem idxO_snoc_other {σ : Type} [DecidableEq σ] {l : List σ} {x y : σ} (h : y ≠ x) : idxO (l ++ [y]) x = idxO l x := by
 unfold idxO; rw [idx_snoc_other h]

theorem own_ne {w : World} {base base' : Nat} {e e' : TypeId} {size size' n n' : Nat} {v v' : Value} {xs xs' : List Value} (h : w.ownsRow base e size v n xs) (h' : w.ownsRow base' e' size' v' n' xs') (hne : e ≠ e') : v.ownBlock = none ∨ v.ownBlock ≠ v'.ownBlock := by
 rcases h.2 with ⟨rfl, _⟩ | ⟨g, cap, cur, rfl, _, hg, _⟩
 ·exact .inl rfl
 ·right
  rcases h'.2 with ⟨rfl, _⟩ | ⟨g', cap', cur', rfl, _, hg', _⟩
  ·simp [Value.ownBlock]
  ·intro e0
   simp only [Value.ownBlock, Option.some.injEq] at e0
   subst e0
   rw [hg] at hg'
   injection hg' with hg'
   injection hg' with _ h2 _
   exact hne h2
theorem own_kept_ne {w w' : World} {base base' : Nat} {e e' : TypeId} {size size' n n' : Nat} {v v' : Value} {xs xs' : List Value} (h : w.ownsRow base e size v n xs) (h' : w.ownsRow base' e' size' v' n' xs') (hne : e ≠ e') (hg : w.grownBy w' v'.ownBlock) : w'.ownsRow base e size v n xs := h.kept hg (own_ne h h' hne)
theorem own_lt_ne {w : World} {base r : Nat} {e : TypeId} {size n : Nat} {v : Value} {xs : List Value} (h : w.ownsRow base e size v n xs) (hr : r < base) : some r ≠ v.ownBlock := fun e0 => by have := (h.lt r e0.symm).1; omega
theorem tab_ne_own' {α : Type} {P : Program} {K E : TypeId} {key : α → Value} {w : World} {b n : Nat} {g : α → Option Int} (h : TabI P K E key w b n g) {base : Nat} {e : TypeId} {size m : Nat} {v : Value} {xs : List Value} (ho : w.ownsRow base e size v m xs) : some b ≠ v.ownBlock := by
 obtain ⟨D, ⟨es, clock, hb, _⟩, _⟩ := h
 rcases ho.2 with ⟨rfl, _⟩ | ⟨g, cap, cur, rfl, _, hg, _⟩
 ·simp [Value.ownBlock]
 ·intro he
  simp only [Value.ownBlock, Option.some.injEq] at he
  subst he
  rw [hb] at hg; cases hg

/-- The constants of a call: the result's block ra, the machine's mb, the map's mp, and the machine's value. -/
structure Cst where
 ra : Nat
 mb : Nat
 mp : Nat
 L : Option Addr
 n : Nat
 c : Nat
 V : Option Addr
 nv : Nat
 cv : Nat
 G : Option Addr
 cg : Nat
 xs : List AV
/-- a tuple that may be told by its key -/
def TupS (x : List Int) : Prop := ∀ s ∈ x, 0 ≤ s ∧ s < 100
structure SynI (k : Cst) (w0 w : World) (tv mv ev : Value) (nt km ke : Nat) (ts : List SlV) (s : Bs (List Int)) (mk : List Int) : Prop where
 tsl : ts.map SlV.l = s.ts
 tn : ts.length = nt
 own : w.ownsRow (k.mb + 1) 30 1 tv nt (ts.map SlV.v)
 tup : ∀ x ∈ ts, w.ownsRow (k.mb + 1) 3 1 x.v k.n (iv x.l) ∧ x.l.length = k.n ∧ (x.v.ownBlock = none ∨ x.v.ownBlock ≠ mv.ownBlock)
 tab : TabI Tryz.prog 9 3 Value.string w k.mp nt (idxO (s.ts.map keyS))
 blk : Blk w k.ra 33 [.slice k.V k.nv k.cv, .int .i64 0, mv, ev]
 mbk : Blk w k.mb 122 [.slice k.L k.n k.c, .slice k.V k.nv k.cv, .slice k.G k.n k.cg]
 mrk : w.ownsRow (k.mb + 1) 3 1 mv km (iv mk)
 mkl : mk.length = km
 edg : w.ownsRow (k.mb + 1) 49 3 ev ke (s.es.flatMap edc)
 edl : s.es.length = ke
 mach : MachF w k.ra k.mb k.L k.n k.c k.V k.nv k.cv k.G k.cg k.xs
 rm : k.ra < k.mb
 mpl : k.mb < k.mp
 tok : ∀ t ∈ s.ts, TupS t
 bel : Below k.ra w0 w
section
variable {k : Cst} {w0 w w' : World} {tv mv ev : Value} {nt km ke : Nat} {ts : List SlV} {s : Bs (List Int)} {mk : List Int}
theorem SynI.quiet (h : SynI k w0 w tv mv ev nt km ke ts s mk) (hb : Below w.heap.size w w') : SynI k w0 w' tv mv ev nt km ke ts s mk := by
 have hg := grown_below hb none
 exact ⟨h.tsl, h.tn, own_below h.own hb, fun x hx => ⟨own_below (h.tup x hx).1 hb, (h.tup x hx).2⟩, h.tab.kept hg (by simp), h.blk.kept hg (by simp), h.mbk.kept hg (by simp), own_below h.mrk hb, h.mkl, own_below h.edg hb, h.edl,
  h.mach.keep (Nat.le_of_lt h.rm) (fun j hj _ => hb.block j (by have := h.mbk.lt; omega)), h.rm, h.mpl, h.tok, h.bel.trans (hb.mono (Nat.le_of_lt h.blk.lt))⟩
theorem SynI.drewN (h : SynI k w0 w tv mv ev nt km ke ts s mk) (p : Nat) : SynI k w0 (w.drewN p) tv mv ev nt km ke ts s mk := h.quiet (below_drewN (Below.refl _ _) p)
/-- The marks have grown by one, and the result's field is stored. -/
theorem SynI.mark (h : SynI k w0 w tv mv ev nt km ke ts s mk) {A : Option Addr} {c : Nat} {i : Int} (ho : w'.ownsRow (k.mb + 1) 3 1 (.slice A (km + 1) c) (km + 1) (iv (mk ++ [i]))) (hg : w.grownBy w' mv.ownBlock)
  (hl : (Value.slice A (km + 1) c).ownBlock = mv.ownBlock ∨ ∃ g, (Value.slice A (km + 1) c).ownBlock = some g ∧ w.heap.size ≤ g) :
  SynI k w0 (w'.setCell ⟨k.ra, 2, none⟩ (.slice A (km + 1) c)) tv (.slice A (km + 1) c) ev nt (km + 1) ke ts s (mk ++ [i]) := by
 have r1 : k.ra < k.mb + 1 := by have := h.rm; omega
 have hs := grown_setCell w' k.ra 2 (.slice A (km + 1) c)
 have hbl := h.blk.kept hg (own_lt_ne h.mrk r1)
 refine ⟨h.tsl, h.tn, own_kept_low (own_kept_ne h.own h.mrk (by decide) hg) hs r1, fun x hx => ?_, ?_, hbl.set (by simp) _, (h.mbk.kept hg (own_lt_ne h.mrk (Nat.lt_succ_self _))).kept hs (by intro e; injection e with e; have := h.rm; omega), own_kept_low ho hs r1, by simp [h.mkl],
  own_kept_low (own_kept_ne h.edg h.mrk (by decide) hg) hs r1, h.edl, ?_, h.rm, h.mpl, h.tok, ?_⟩
 ·obtain ⟨h1, h2, h3⟩ := h.tup x hx
  refine ⟨own_kept_low (h1.kept hg h3) hs r1, h2, ?_⟩
  rcases hl with hl | ⟨g, hl, hgs⟩
  ·rw [hl]; exact h3
  ·cases hv : x.v.ownBlock with
   | none => exact .inl rfl
   | some b =>
    right
    rw [hl]
    have := (h1.lt b hv).2
    intro e; injection e with e; omega
 ·exact (h.tab.kept hg (tab_ne_own' h.tab h.mrk)).kept hs (by intro e; injection e with e; have := h.rm; have := h.mpl; omega)
 ·refine h.mach.keep (Nat.le_of_lt h.rm) (fun j hj hne => ?_)
  rw [hs.block j (Nat.lt_of_lt_of_le (by have := h.mbk.lt; omega) hg.size) (by intro e; injection e with e; exact hne e)]
  exact hg.block j (by have := h.mbk.lt; omega) (own_lt_ne h.mrk (by omega))
 ·exact (h.bel.grown hg (Nat.le_of_lt h.blk.lt) (fun j hj => by have := (h.mrk.lt j hj).1; omega)).setCell (Nat.le_refl _) _
/-- An edge more. -/
theorem SynI.edge (h : SynI k w0 w tv mv ev nt km ke ts s mk) {A : Option Addr} {c : Nat} {x : Ed} (ho : w'.ownsRow (k.mb + 1) 49 3 (.slice A (ke + 1) c) (ke + 1) (s.es.flatMap edc ++ edc x)) (hg : w.grownBy w' ev.ownBlock) :
  SynI k w0 (w'.setCell ⟨k.ra, 3, none⟩ (.slice A (ke + 1) c)) tv mv (.slice A (ke + 1) c) nt km (ke + 1) ts ⟨s.ts, s.es ++ [x]⟩ mk := by
 have r1 : k.ra < k.mb + 1 := by have := h.rm; omega
 have hs := grown_setCell w' k.ra 3 (.slice A (ke + 1) c)
 have hbl := h.blk.kept hg (own_lt_ne h.edg r1)
 refine ⟨h.tsl, h.tn, own_kept_low (own_kept_ne h.own h.edg (by decide) hg) hs r1, fun x hx => ?_, ?_, hbl.set (by simp) _, (h.mbk.kept hg (own_lt_ne h.edg (Nat.lt_succ_self _))).kept hs (by intro e; injection e with e; have := h.rm; omega), own_kept_low (own_kept_ne h.mrk h.edg (by decide) hg) hs r1, h.mkl,
  own_kept_low (by simpa using ho) hs r1, by simp [h.edl], ?_, h.rm, h.mpl, h.tok, ?_⟩
 ·obtain ⟨h1, h2, h3⟩ := h.tup x hx
  exact ⟨own_kept_low (own_kept_ne h1 h.edg (by decide) hg) hs r1, h2, h3⟩
 ·exact (h.tab.kept hg (tab_ne_own' h.tab h.edg)).kept hs (by intro e; injection e with e; have := h.rm; have := h.mpl; omega)
 ·refine h.mach.keep (Nat.le_of_lt h.rm) (fun j hj hne => ?_)
  rw [hs.block j (Nat.lt_of_lt_of_le (by have := h.mbk.lt; omega) hg.size) (by intro e; injection e with e; exact hne e)]
  exact hg.block j (by have := h.mbk.lt; omega) (own_lt_ne h.edg (by omega))
 ·exact (h.bel.grown hg (Nat.le_of_lt h.blk.lt) (fun j hj => by have := (h.edg.lt j hj).1; omega)).setCell (Nat.le_refl _) _
/-- A tuple more: its row w2 has, the map knows it (w3), the list holds it (w4). -/
theorem SynI.tuple (h : SynI k w0 w tv mv ev nt km ke ts s mk) {A B : Option Addr} {cx ct : Nat} {x : List Int} {w3 w4 : World} (hx : w.ownsRow (k.mb + 1) 3 1 (.slice A k.n cx) k.n (iv x)) (hxl : x.length = k.n) (hxo : (Value.slice A k.n cx).ownBlock = none ∨ (Value.slice A k.n cx).ownBlock ≠ mv.ownBlock) (hxs : TupS x)
  (ht : TabI Tryz.prog 9 3 Value.string w3 k.mp (nt + 1) (idxO ((s.ts ++ [x]).map keyS))) (hg3 : w.grownBy w3 (some k.mp))
  (ho : w4.ownsRow (k.mb + 1) 30 1 (.slice B (nt + 1) ct) (nt + 1) (ts.map SlV.v ++ [.slice A k.n cx])) (hg4 : w3.grownBy w4 tv.ownBlock) :
  SynI k w0 w4 (.slice B (nt + 1) ct) mv ev (nt + 1) km ke (ts ++ [⟨A, cx, x⟩]) ⟨s.ts ++ [x], s.es⟩ mk := by
 have hmp : w.grownBy w3 (some k.mp) := hg3
 have kp : ∀ {base : Nat} {e : TypeId} {size n : Nat} {v : Value} {zs : List Value}, w.ownsRow base e size v n zs → w3.ownsRow base e size v n zs := fun {base e size n v zs} hz => hz.kept hg3 (by
  have := tab_ne_own' h.tab hz
  exact .inr (fun e0 => this e0.symm))
 have ho3 := kp h.own
 have hx3 := kp hx
 have r1 : k.ra < k.mb + 1 := by have := h.rm; omega
 refine ⟨by simp [h.tsl], by simp [h.tn], by simpa [SlV.v, hxl] using ho, fun y hy => ?_, ht.kept hg4 (tab_ne_own' ht ho3), ?_, ?_, own_kept_ne (kp h.mrk) ho3 (by decide) hg4, h.mkl, own_kept_ne (kp h.edg) ho3 (by decide) hg4, h.edl, ?_, h.rm, h.mpl, fun t htm => ?_, ?_⟩
 ·rcases List.mem_append.1 hy with hy | hy
  ·obtain ⟨h1, h2, h3⟩ := h.tup y hy
   exact ⟨own_kept_ne (kp h1) ho3 (by decide) hg4, h2, h3⟩
  ·obtain rfl := List.mem_singleton.1 hy
   refine ⟨?_, hxl, ?_⟩
   ·show w4.ownsRow _ _ _ (.slice A x.length cx) _ _
    rw [hxl]; exact own_kept_ne hx3 ho3 (by decide) hg4
   ·show (Value.slice A x.length cx).ownBlock = none ∨ (Value.slice A x.length cx).ownBlock ≠ mv.ownBlock
    rw [hxl]; exact hxo
 ·exact (h.blk.kept hg3 (by intro e; injection e with e; have := h.rm; have := h.mpl; omega)).kept hg4 (own_lt_ne ho3 r1)
 ·exact (h.mbk.kept hg3 (by intro e; injection e with e; have := h.mpl; omega)).kept hg4 (own_lt_ne ho3 (Nat.lt_succ_self _))
 ·refine h.mach.keep (Nat.le_of_lt h.rm) (fun j hj hne => ?_)
  rw [hg4.block j (Nat.lt_of_lt_of_le (by have := h.mbk.lt; omega) hg3.size) (own_lt_ne ho3 (by omega))]
  exact hg3.block j (by have := h.mbk.lt; omega) (by intro e; injection e with e; have := h.mpl; omega)
 ·rcases List.mem_append.1 htm with htm | htm
  ·exact h.tok t htm
  ·obtain rfl := List.mem_singleton.1 htm; exact hxs
 ·exact (h.bel.grown hg3 (Nat.le_of_lt h.blk.lt) (fun j hj => by injection hj with hj; have := h.rm; have := h.mpl; omega)).grown hg4 (Nat.le_trans (Nat.le_of_lt h.blk.lt) hg3.size) (fun j hj => by have := (ho3.lt j hj).1; omega)
end
theorem MachR.same {w w' : World} {B B' : Nat} {L V G : Option Addr} {n c nv cv cg : Nat} {xs : List AV} (h : MachR w B L n c V nv cv G cg xs) (hh : w'.heap = w.heap) (hB : B ≤ B') : MachR w' B' L n c V nv cv G cg xs := by
 have hc : ∀ p : Addr, p.block < B → w'.cell? p = w.cell? p := fun p _ => World.cell?_of_block (by rw [hh])
 refine MachR.more ⟨h.ll, h.lc, h.cL, h.rl.keep hc, h.lv, h.vc, h.cV, h.rv.keep hc, h.gc, h.cG, fun k a ha => ?_⟩ hB
 obtain ⟨ad, b, m, e, h1, h2, h3, h4⟩ := h.rg k a ha
 exact ⟨ad, b, m, e, h1, h2, (World.cell?_of_block (by rw [hh])).trans h3, TabI.block h4 (by rw [hh])⟩
/-- what is left of a search behind a state's events -/
def bsC {σ : Type} [DecidableEq σ] (C : Nat) (st : σ → Int → Option σ) (V : List Int) (n i : Nat) : Option (Bs σ) → Option (Bs σ)
 | none => none
 | some s => bsR C st V n (i + 1) s
theorem bsR_bsC {σ : Type} [DecidableEq σ] {C : Nat} {st : σ → Int → Option σ} {V : List Int} {n i : Nat} {s : Bs σ} {t : σ} (h : s.ts[i]? = some t) : bsR C st V (n + 1) i s = bsC C st V n i (bsF C st i t (V.drop 0) s) := by
 rw [bsR, h, List.drop_zero]
 simp only
 cases hb : bsF C st i t V s <;> simp [bsC]
theorem idxO_key {ts : List (List Int)} {x : List Int} (h : ∀ t ∈ ts, TupS t) (hx : TupS x) : idxO (ts.map keyS) (keyS x) = idxO ts x := by
 unfold idxO
 rw [idx_map fun y hy e => keyS_inj (h y hy) hx e]
theorem tup_ok {l : List Aut} {t : List Int} (h : Tup l t) (hs : ∀ a ∈ l, a.st ≤ 100) : TupS t := fun s hsm => by
 obtain ⟨k, hk⟩ := List.getElem?_of_mem hsm
 have hl := h.len
 have hlt := (List.getElem?_eq_some_iff.1 hk).1
 have ha : l[k]? = some l[k] := List.getElem?_eq_getElem (by omega)
 have h1 := h.at_ ha hk
 have h2 := hs _ (List.mem_of_getElem? ha)
 exact ⟨h1.1, by omega⟩
theorem SynI.putOwn {k : Cst} {w0 w w3 : World} {tv mv ev : Value} {nt km ke : Nat} {ts : List SlV} {s : Bs (List Int)} {mk : List Int} (h : SynI k w0 w tv mv ev nt km ke ts s mk) (hg3 : w.grownBy w3 (some k.mp)) : w3.ownsRow (k.mb + 1) 30 1 tv nt (ts.map SlV.v) :=
 h.own.kept hg3 (.inr (fun e0 => tab_ne_own' h.tab h.own e0.symm))
theorem fresh_ne {w w' : World} {base base' : Nat} {e e' : TypeId} {size size' n n' : Nat} {v v' : Value} {xs xs' : List Value} (h : w'.ownsRow base e size v n xs) (hb : w.heap.size ≤ base) (h' : w.ownsRow base' e' size' v' n' xs') : v.ownBlock = none ∨ v.ownBlock ≠ v'.ownBlock := by
 cases hv : v.ownBlock with
 | none => exact .inl rfl
 | some g =>
  right
  have h1 := (h.lt g hv).1
  intro e0
  have h2 := (h'.lt g e0.symm).2
  omega
theorem cap_of_own {w : World} {base : Nat} {e : TypeId} {size n c : Nat} {A : Option Addr} {xs : List Value} (h : w.ownsRow base e size (.slice A n c) n xs) : n ≤ c ∧ c ≤ 9223372036854775807 := own_cap' h
/-- What the state holds in the end. -/
theorem SynI.fin {k : Cst} {w0 w w' : World} {TA MA EA : Option Addr} {tc mc ec nt km ke : Nat} {ts : List SlV} {s : Bs (List Int)} {mk : List Int} {p : List Int → Bool} (h : SynI k w0 w (.slice TA nt tc) (.slice MA km mc) (.slice EA ke ec) nt km ke ts s mk) (hg : w.grownBy w' (some k.ra)) (hmk : mk = mksN p s.ts s.ts.length) :
  AutR w' w'.heap.size k.V k.nv k.cv MA km mc EA ke ec (autOf (evs (k.xs.map AV.a)) p s) ∧ RdS w' w'.heap.size TA ts ∧ nt ≤ tc ∧ tc ≤ 9223372036854775807 := by
 have r1 : k.ra < k.mb + 1 := by have := h.rm; omega
 have hM := h.mach.keep (w' := w') (Nat.le_of_lt h.rm) (fun j hj hne => hg.block j (by have := h.mbk.lt; omega) (by intro e; injection e with e; exact hne e))
 have hm := own_kept_low h.mrk hg r1
 have he := own_kept_low h.edg hg r1
 have ho := own_kept_low h.own hg r1
 obtain ⟨m1, m2⟩ := cap_of_own hm
 obtain ⟨e1, e2⟩ := cap_of_own he
 obtain ⟨o1, o2⟩ := cap_of_own ho
 refine ⟨⟨hM.lv, hM.vc, hM.cV, hM.rv.more (Nat.le_trans (Nat.le_of_lt h.mbk.lt) hg.size), ?_, m1, m2, ?_, h.edl, e1, e2, RdR.of_own (by decide) (fun x _ => rfl) he⟩, ⟨RdV.of_own ho, fun x hx => ?_⟩, o1, o2⟩
 ·show (mksN p s.ts s.ts.length).length = km
  rw [← hmk]; exact h.mkl
 ·show RdI w' w'.heap.size MA (mksN p s.ts s.ts.length)
  rw [← hmk]; exact RdI.of_own hm
 ·obtain ⟨h1, h2, _⟩ := h.tup x hx
  have h3 := own_kept_low h1 hg r1
  unfold SlV.v at h3
  rw [h2] at h3
  obtain ⟨c1, c2⟩ := cap_of_own h3
  exact ⟨RdI.of_own h3, by rw [h2]; exact c1, c2⟩
theorem own_lit (w : World) (us : List Value) (base : Nat) (e : TypeId) (hb : base ≤ w.heap.size) (hn : us.length ≤ 9223372036854775807) : (w.alloc (.cells us.toArray e)).ownsRow base e 1 (.slice (some ⟨w.heap.size, 0, none⟩) us.length us.length) us.length us :=
 ⟨by simp, .inr ⟨w.heap.size, us.length, us.toArray, rfl, hb, heap_alloc_new w _, Nat.le_refl _, by unfold maxLen; omega, by simp, by simp⟩⟩
theorem strKey (s : ByteArray) (h : s.size ≤ 1000000) : ∃ kl, keyOf Tryz.prog 9 (.string s) = some kl := ⟨_, WideMaps.keyOf_string_mk Tryz.underlying9 (by unfold maxLen; omega)⟩
theorem SynI.start {k : Cst} {w0 w3 w5 w6 : World} {A3 : Option Addr} {c3 : Nat} {x : List Int} (hb : Blk w3 k.ra 33 [.slice k.V k.nv k.cv, .int .i64 0, .slice none 0 0, .slice none 0 0])
  (hm : Blk w3 k.mb 122 [.slice k.L k.n k.c, .slice k.V k.nv k.cv, .slice k.G k.n k.cg]) (hM : MachF w3 k.ra k.mb k.L k.n k.c k.V k.nv k.cv k.G k.cg k.xs) (hF : Below k.ra w0 w3)
  (ho : w3.ownsRow (k.mb + 1) 3 1 (.slice A3 k.n c3) k.n (iv x)) (hx : x.length = k.n) (hrm : k.ra < k.mb) (hmp : k.mp = w3.heap.size + 1)
  (h5 : Below ((w3.alloc (.cells #[.slice A3 k.n c3] 30)).alloc (.map #[] 0)).heap.size ((w3.alloc (.cells #[.slice A3 k.n c3] 30)).alloc (.map #[] 0)) w5)
  (ht : TabI Tryz.prog 9 3 Value.string w6 k.mp 1 (idxO [keyS x])) (hg : w5.grownBy w6 (some k.mp)) (hxs : TupS x) :
  SynI k w0 w6 (.slice (some ⟨w3.heap.size, 0, none⟩) 1 1) (.slice none 0 0) (.slice none 0 0) 1 0 0 [⟨A3, c3, x⟩] ⟨[x], []⟩ [] := by
 have hl := hm.lt
 have hB : Below w3.heap.size w3 w6 := ((((Below.refl _ _).alloc (Nat.le_refl _) _).alloc (by simp) _).trans (h5.mono (by simp; omega))).grown hg (by have := h5.size; simp at this; omega) (fun j hj => by injection hj with hj; omega)
 have ho1 : (w3.alloc (.cells #[.slice A3 k.n c3] 30)).ownsRow (k.mb + 1) 30 1 (.slice (some ⟨w3.heap.size, 0, none⟩) 1 1) 1 [.slice A3 k.n c3] := own_lit w3 [.slice A3 k.n c3] (k.mb + 1) _ (by omega) (by simp)
 have ho2 := (own_below (ho1.alloc (.map #[] 0)) h5).kept hg (.inr (by simp only [Value.ownBlock]; intro e; injection e with e; omega))
 refine ⟨rfl, rfl, by simpa [SlV.v, hx] using ho2, fun y hy => ?_, ht, hb.below hB (by omega), hm.below hB hl, World.ownsRow_nil _ _ _ _, rfl, World.ownsRow_nil _ _ _ _, rfl, hM.keep (Nat.le_of_lt hrm) (fun j hj _ => hB.block j (by omega)), hrm, by omega, fun t htm => by simp at htm; subst htm; exact hxs, hF.trans (hB.mono (by omega))⟩
 obtain rfl := List.mem_singleton.1 hy
 refine ⟨?_, hx, ?_⟩
 ·show w6.ownsRow _ _ _ (.slice A3 x.length c3) _ _
  rw [hx]; exact own_below ho hB
 ·cases A3 with
  | none => exact .inl rfl
  | some ad => right; simp [SlV.v, Value.ownBlock]
theorem wpList_tab_insert {α : Type} {P : Program} {K E : TypeId} {key : α → Value} {w : World} {b n : Nat} {g : α → Option Int} {ops : Array Oper} {rest : List Oper} {o : Oper} {a : Act} {Q : Exit → Act → World → Prop} (hg : o.guard = none) (m x v : Operand) (t : TypeId) (hop : o.op = Op.insert t m x v)
  (KK : Keyed P K) (ht : P.underlying t = some (.map K E)) (he : P.underlying E = some (.int .i64))
  (hm : a.eval m = .map (some b)) (h : TabI P K E key w b n g) (hn : n ≤ 1000000000) (c : α) (hx : a.eval x = key c) (hk : ∃ kl, keyOf P K (key c) = some kl) (y : Int) (hv : a.eval v = .int .i64 y) (hw : (Lit.int .i64 y).wf = true)
  (g' : α → Option Int) (hg1 : ∀ d, key d = key c → g' d = some y) (hg2 : ∀ d, key d ≠ key c → g' d = g d)
  (hK : ∀ w', TabI P K E key w' b (n + 1) g' → w.grownBy w' (some b) → wpList P ops Q rest (a.put o.dst undef) w') : wpList P ops Q (o :: rest) a w := by
 obtain ⟨D, h1, h2⟩ := h
 obtain ⟨kl, hkl⟩ := hk
 refine wpList_plain hg fun K' hK' => ?_
 obtain ⟨w', hrun, h3, h4⟩ := h1.update KK ht (Nat.lt_of_le_of_lt hn (by unfold maxLen; omega)) hkl (plainElem_int he hw)
 unfold Oper.wp
 simp [execOp, hop, hm, hx, hv, hrun, Result.andThen]
 refine hK' _ _ (hK w' ⟨_, h3, fun d kd hkd => ?_⟩ h4)
 by_cases hd : key d = key c
 ·have : kd = kl := by rw [hd, hkl] at hkd; injection hkd with e; exact e.symm
  subst this
  rw [hg1 d hd]
  exact ⟨Maps.has_put_same h1.isMap (KK.key hkl) _, fun z hz => by injection hz with hz; subst hz; exact Maps.atKey_put_same h1.isMap (KK.key hkl) _ _⟩
 ·have hne : kd ≠ kl := fun e => hd (KK.inj (by rw [← e]; exact hkd) hkl)
  rw [hg2 d hd, Maps.has_put_other hne, Maps.atKey_put_other hne]
  exact h2 d kd hkd
end Go.Proofs.YtioijhpbedmeaaaGreatDoor
