/- Walks: the machine's initial tuple, its marked tuples. -/
import Derived.Test.YtbdliebjalghmaaDoorMb
namespace Go.Proofs.YtbdliebjalghmaaDoor
open Go.RowKit Go Go.Maps

/-- A list of ints of the call's own, and a bool. -/
def RetOB (l : List Int) (q : Bool) (w : World) (e : Ending) (w' : World) : Prop := ∃ v, e = .returned (.tuple #[v, .bool q]) ∧ w'.ownsRow w.heap.size 3 1 v l.length (iv l) ∧ Below w.heap.size w w'


set_option maxRecDepth 100000 in
set_option maxHeartbeats 1600000 in
theorem mach_initial (L : Option Addr) (n c : Nat) (V : Option Addr) (nv cv : Nat) (G : Option Addr) (cg : Nat) (xs : List AV) (w : World) (h : MachR w w.heap.size L n c V nv cv G cg xs) (hn : n ≤ 12) :
    Calls Tryd.prog 47 #[.agg #[.slice L n c, .slice V nv cv, .slice G n cg]] w (RetOB (if noSt (xs.map AV.a) = true then [] else ini (xs.map AV.a)) (!noSt (xs.map AV.a)) w) := by
  have hB0 := box_below w (.cells #[.slice L n c, .slice V nv cv, .slice G n cg] 91)
  obtain ⟨R, hR⟩ : ∃ R, (if noSt (xs.map AV.a) = true then [] else ini (xs.map AV.a)) = R := ⟨_, rfl⟩
  obtain ⟨q, hq⟩ : ∃ q, noSt (xs.map AV.a) = q := ⟨_, rfl⟩
  have hll := h.ll
  have hlc := h.lc
  have hcL := h.cL
  rw [hR, hq]
  rw [hq] at hR
  have HL := Lib.hid hll; clear hll
  have HQ := Lib.hid hq; clear hq
  have HR := Lib.hid hR; clear hR
  have hm : ∀ W : World, (Instr.makeSlice 26 (.int .i64 (n : Int)) (.int .i64 (n : Int))).run Tryd.prog W = .ok (.slice (some ⟨W.heap.size, 0, none⟩) n n) (W.alloc (.cells (madeCells #[.int .i64 0] n) 3)) := fun W => run_make_row' 26 3 (.int .i64 0) 8 Tryd.underlying26 int_info rfl .i64 .i64 n (by omega) (by omega) W
  go_enter Tryd.func47, Tryd.ntmps47
  go_wp2
  go_loopw [9] (fun i wr => ∃ k : Nat, k ≤ n ∧ i = .int .i64 k ∧ Hid (stTo (xs.map AV.a) k) ∧ Below (w.heap.size + 1) (w.alloc (.cells #[.slice L n c, .slice V nv cv, .slice G n cg] 91)) wr) (fun i _ => n - (intOf i).toNat)
  case atStart => exact ⟨0, Nat.zero_le _, rfl, Lib.hid (fun j a hj => by omega), Below.refl _ _⟩
  case round =>
    obtain ⟨k, hk, rfl, HX, hbel⟩ := hrel
    have hsz1 : w.heap.size + 1 ≤ wr.heap.size := by have := hbel.size; simpa using this
    have hsz : w.heap.size ≤ wr.heap.size := by omega
    have hsz2 : w.heap.size < wr.heap.size := by omega
    have hbl := hB0.trans (hbel.mono (Nat.le_succ _))
    have c0 : wr.cell? ⟨w.heap.size, 0, none⟩ = some (.slice L n c) := box_cells (us := [_, _, _]) hbel rfl
    by_cases hlt : k < n
    · skip
      obtain ⟨ad, A', na, ca, M, nm, cm, E, ne, ce, a, rfl, hbb, hx, q0, q1, q2, q3, haR⟩ := ((h.rl.below hbl).more hsz).at_ (k := k) (by have := HL.out; omega)
      have b1 : (k : Int) < (n : Int) := by omega
      have p1 : wr.cell? ⟨(ad.add (k * 4)).block, (ad.add (k * 4)).off + 1, none⟩ = some (.int .i64 a.st) := st_cells (j := 0) q1
      have p2 : wr.cell? ⟨(ad.add (k * 4)).block, (ad.add (k * 4)).off + 2, none⟩ = some (.slice M nm cm) := st_cells (j := 1) q2
      have p3 : wr.cell? ⟨(ad.add (k * 4)).block, (ad.add (k * 4)).off + 3, none⟩ = some (.slice E ne ce) := st_cells (j := 2) q3
      clear q1 q2 q3
      have hxa : (xs.map AV.a)[k]? = some a := by simp [hx]
      clear haR
      by_cases h0 : a.st = 0
      · have hqt := HQ.out.symm.trans (noSt_hit hxa h0)
        have hb0 : (a.st == 0) = true := by simpa using h0
        have HXA := Lib.hid hxa; clear hxa
        have HX2 := Lib.hid hx; clear hx
        subst hqt
        have hr := HR.out
        rw [if_pos rfl] at hr
        have HR2 := Lib.hid hr; clear hr
        have H00 := Lib.hid h0; clear h0
        go_wp2
        go_ret2
        rw [← HR2.out]
        exact ⟨_, rfl, World.ownsRow_nil _ _ _ _, hbl.alloc hsz _⟩
      · have hb0 : (a.st == 0) = false := by simpa using h0
        have HS := Lib.hid (stTo_step HX.out hxa h0)
        have HXA := Lib.hid hxa; clear hxa
        have HX2 := Lib.hid hx; clear hx
        have H00 := Lib.hid h0; clear h0
        go_wp2
        go_roundw
        case rel => exact ⟨k + 1, by omega, by go_num, HS, hbel.alloc hsz1 _⟩
        case measure => simp [intOf]; omega
    · obtain rfl : k = n := by omega
      have hqf := HQ.out.symm.trans (stTo_end HX.out (by rw [List.length_map, HL.out]; exact Nat.le_refl _))
      subst hqf
      have hr := HR.out
      rw [if_neg (by simp)] at hr
      have hlen : R.length = k := by rw [← hr]; simp [ini, HL.out]
      have ho := own_made wr w.heap.size k 3 hsz (by omega)
      rw [show List.replicate k (0 : Int) = R by rw [← hr]; simp [ini, HL.out]] at ho
      have HO := Lib.hid ho; clear ho
      have HR2 := Lib.hid hr; clear hr
      have HLEN := Lib.hid hlen; clear hlen
      go_wp2
      go_ret2
      exact ⟨_, rfl, by rw [HLEN.out]; exact HO.out, hbl.alloc hsz _⟩

set_option maxRecDepth 100000 in
set_option maxHeartbeats 1600000 in
theorem mach_marked (L : Option Addr) (n c : Nat) (V : Option Addr) (nv cv : Nat) (G : Option Addr) (cg : Nat) (xs : List AV) (T : Option Addr) (ct : Nat) (t : List Int) (q : Bool) (w : World) (h : MachR w w.heap.size L n c V nv cv G cg xs) (ht : t.length = n) (hT : RdI w w.heap.size T t) (hct : n ≤ ct)
    (hw : ∀ a ∈ xs.map AV.a, WF a) (hq : mkT (xs.map AV.a) t = q) :
    Calls Tryd.prog 49 #[.agg #[.slice L n c, .slice V nv cv, .slice G n cg], .slice T n ct] w fun e w' => e = .returned (.bool q) ∧ Below w.heap.size w w' := by
  have hB0 := box_below w (.cells #[.slice L n c, .slice V nv cv, .slice G n cg] 91)
  have hll := h.ll
  have hlc := h.lc
  have hcL := h.cL
  have HL := Lib.hid hll; clear hll
  have HTL := Lib.hid ht; clear ht
  have HQ := Lib.hid hq; clear hq
  have HW := Lib.hid hw; clear hw
  go_enter Tryd.func49, Tryd.ntmps49
  go_wp2
  go_loopw [10] (fun i wr => ∃ k : Nat, k ≤ n ∧ i = .int .i64 k ∧ Hid (mkTo (xs.map AV.a) t k) ∧ Below (w.heap.size + 1) (w.alloc (.cells #[.slice L n c, .slice V nv cv, .slice G n cg] 91)) wr) (fun i _ => n - (intOf i).toNat)
  case atStart => exact ⟨0, Nat.zero_le _, rfl, Lib.hid (fun j a s hj => by omega), Below.refl _ _⟩
  case round =>
    obtain ⟨k, hk, rfl, HX, hbel⟩ := hrel
    have hsz1 : w.heap.size + 1 ≤ wr.heap.size := by have := hbel.size; simpa using this
    have hsz : w.heap.size ≤ wr.heap.size := by omega
    have hsz2 : w.heap.size < wr.heap.size := by omega
    have hbl := hB0.trans (hbel.mono (Nat.le_succ _))
    have c0 : wr.cell? ⟨w.heap.size, 0, none⟩ = some (.slice L n c) := box_cells (us := [_, _, _]) hbel rfl
    by_cases hlt : k < n
    · skip
      obtain ⟨ad, A', na, ca, M, nm, cm, E, ne, ce, a, rfl, hbb, hx, q0, q1, q2, q3, haR⟩ := ((h.rl.below hbl).more hsz).at_ (k := k) (by have := HL.out; omega)
      have b1 : (k : Int) < (n : Int) := by omega
      have p1 : wr.cell? ⟨(ad.add (k * 4)).block, (ad.add (k * 4)).off + 1, none⟩ = some (.int .i64 a.st) := st_cells (j := 0) q1
      have p2 : wr.cell? ⟨(ad.add (k * 4)).block, (ad.add (k * 4)).off + 2, none⟩ = some (.slice M nm cm) := st_cells (j := 1) q2
      have p3 : wr.cell? ⟨(ad.add (k * 4)).block, (ad.add (k * 4)).off + 3, none⟩ = some (.slice E ne ce) := st_cells (j := 2) q3
      clear q1 q2 q3
      have hxa : (xs.map AV.a)[k]? = some a := by simp [hx]
      have hBA := box_below wr (.cells #[.slice A' na ca, .int .i64 a.st, .slice M nm cm, .slice E ne ce] 29)
      obtain ⟨td, s, rfl, hbt, hts, hcs⟩ := ((hT.below hbl).more hsz).at_ (k := k) (by have := HTL.out; omega)
      have hcs' : (wr.alloc (.cells #[.slice A' na ca, .int .i64 a.st, .slice M nm cm, .slice E ne ce] 29)).cell? (td.add k) = some (.int .i64 s) := (World.cell?_alloc_lt wr _ _ (by rw [block_of_add]; exact hbt)).trans hcs
      have hma : ∀ p : Nat, RdI ((wr.alloc (.cells #[.slice A' na ca, .int .i64 a.st, .slice M nm cm, .slice E ne ce] 29)).drewN p) ((wr.alloc (.cells #[.slice A' na ca, .int .i64 a.st, .slice M nm cm, .slice E ne ce] 29)).drewN p).heap.size M a.ma := fun p => (haR.rm.after hBA (Nat.le_refl _)).more hBA.size
      have HMA := Lib.hid hma
      have HLM := Lib.hid haR.lm
      have hmc := haR.mc
      have hcM := haR.cM
      have hwa := HW.out a (List.mem_of_getElem? hxa)
      have HMI := Lib.hid hwa.minc
      have hml : nm ≤ 4096 := by
        have := inc_len (n := 4096) hwa.minc (fun x hx => by have := hwa.mrng x hx; have := hwa.st1; omega)
        rwa [HLM.out] at this
      have d1 : (k : Int) < (ct : Int) := by omega
      have d2 : k < n := by omega
      clear hma haR hwa hcs
      cases hh : hasB a.ma s with
      | false =>
        have hqf := HQ.out.symm.trans (mkTo_no hxa hts hh)
        subst hqf
        have HH := Lib.hid hh; clear hh
        have HXA := Lib.hid hxa; clear hxa
        have HX2 := Lib.hid hx; clear hx
        have HTS := Lib.hid hts; clear hts
        go_wp2
        go_quiet ((go_at_call 56; refine quiet_eq (alphabet_Contains_n M cm nm a.ma s false _ HLM.out HH.out (HMA.out _) (by omega) HMI.out)))
        go_wp2
        go_ret
        exact ⟨rfl, below_drewN (hbl.alloc hsz _) _⟩
      | true =>
        have HS := Lib.hid (mkTo_step HX.out hxa hts hh)
        have HH := Lib.hid hh; clear hh
        have HXA := Lib.hid hxa; clear hxa
        have HX2 := Lib.hid hx; clear hx
        have HTS := Lib.hid hts; clear hts
        go_wp2
        go_quiet ((go_at_call 56; refine quiet_eq (alphabet_Contains_n M cm nm a.ma s true _ HLM.out HH.out (HMA.out _) (by omega) HMI.out)))
        go_wp2
        go_roundw
        case rel => exact ⟨k + 1, by omega, by go_num, HS, below_drewN (hbel.alloc hsz1 _) _⟩
        case measure => simp [intOf]; omega
    · have hqt := HQ.out.symm.trans (mkTo_end HX.out (by rw [List.length_map, HL.out]; omega))
      subst hqt
      go_wp2
      go_ret
      exact ⟨rfl, hbl⟩
end Go.Proofs.YtbdliebjalghmaaDoor
