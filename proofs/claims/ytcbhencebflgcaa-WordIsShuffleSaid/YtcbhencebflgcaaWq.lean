/- Walks: word.IsShuffle (a table of one row). -/
import Derived.Test.YtcbhencebflgcaaWp
import Derived.Deep.OwnRows
import Derived.IntWalk
import Derived.Deep.RegionHeld3
namespace Go.Proofs.Ytcbhencebflgcaa
open Go.RowKit Go

theorem bool_info : (Try.prog.info? 4).map (fun i => (i.zero, i.size, i.bytes)) = some (some (.bool false), 1, 1) := by kernel_rfl
/-- bools as cells -/
def ov (l : List Bool) : List Value := l.map Value.bool
theorem ov_set (l : List Bool) (j : Nat) (q : Bool) : (ov l).set j (.bool q) = ov (l.set j q) := by simp [ov, List.map_set]
theorem ov_get {l : List Bool} {j : Nat} {q : Bool} (h : l[j]? = some q) : (ov l)[j]? = some (.bool q) := by simp [ov, h]
/-- the row after i rounds; the row in round i when j entries are new -/
def rowB (w a b : List Int) : Nat → Nat → Bool
  | 0, j => j == 0
  | i + 1, j => tabB w a b i j
def curB (w a b : List Int) (i j k : Nat) : Bool := if k < j then tabB w a b i k else rowB w a b i k
def CurB (w a b : List Int) (i j nb : Nat) (tab : List Bool) : Prop := tab.length = nb + 1 ∧ ∀ k, k ≤ nb → tab[k]? = some (curB w a b i j k)
theorem cur_start (w a b : List Int) (nb : Nat) : CurB w a b 0 0 nb ((List.replicate (nb + 1) false).set 0 true) := by
  refine ⟨by simp, fun k hk => ?_⟩
  unfold curB rowB
  rw [if_neg (by omega), List.getElem?_set]
  by_cases h : k = 0
  · subst h; simp
  · rw [if_neg (fun e => h e.symm), List.getElem?_replicate, if_pos (by omega)]; simp [h]
theorem cur_next {w a b : List Int} {i nb : Nat} {tab : List Bool} (h : CurB w a b i (nb + 1) nb tab) : CurB w a b (i + 1) 0 nb tab := by
  refine ⟨h.1, fun k hk => ?_⟩
  rw [h.2 k hk]
  unfold curB
  rw [if_pos (by omega), if_neg (by omega)]
  rfl
theorem cur_set {w a b : List Int} {i j nb : Nat} {tab : List Bool} {q : Bool} (h : CurB w a b i j nb tab) (hj : j ≤ nb) (hq : tabB w a b i j = q) : CurB w a b i (j + 1) nb (tab.set j q) := by
  refine ⟨by rw [List.length_set]; exact h.1, fun k hk => ?_⟩
  rw [List.getElem?_set]
  by_cases e : j = k
  · subst e
    rw [if_pos rfl, if_pos (by rw [h.1]; omega)]
    unfold curB
    rw [if_pos (by omega), hq]
  · rw [if_neg e, h.2 k hk]
    unfold curB
    by_cases hk : k < j
    · rw [if_pos hk, if_pos (by omega)]
    · rw [if_neg hk, if_neg (by omega)]
theorem cur_skip {w a b : List Int} {nb : Nat} {tab : List Bool} (h : CurB w a b 0 0 nb tab) : CurB w a b 0 1 nb tab := by
  refine ⟨h.1, fun k hk => ?_⟩
  rw [h.2 k hk]
  unfold curB
  rw [if_neg (by omega)]
  by_cases e : k < 1
  · obtain rfl : k = 0 := by omega
    rw [if_pos e, tabB_00]; rfl
  · rw [if_neg e]
theorem cur_at {w a b : List Int} {i j nb : Nat} {tab : List Bool} (h : CurB w a b (i + 1) j nb tab) (hj : j ≤ nb) {q : Bool} (hq : tabB w a b i j = q) : tab[j]? = some q := by
  rw [h.2 j hj, ← hq]; unfold curB; rw [if_neg (by omega)]; rfl
theorem cur_bef {w a b : List Int} {i j nb : Nat} {tab : List Bool} (h : CurB w a b i (j + 1) nb tab) (hj : j + 1 ≤ nb) {q : Bool} (hq : tabB w a b i j = q) : tab[j]? = some q := by
  rw [h.2 j (by omega), ← hq]; unfold curB; rw [if_pos (by omega)]
theorem cur_end {w a b : List Int} {nb : Nat} {tab : List Bool} (h : CurB w a b (a.length + 1) 0 nb tab) (hb : b.length = nb) (hl : w.length = a.length + b.length) {q : Bool} (hq : shB w a b = q) : tab[nb]? = some q := by
  rw [h.2 nb (Nat.le_refl _), ← hq]; unfold curB; rw [if_neg (by omega), ← hb]
  show some (tabB w a b a.length b.length) = _
  rw [tabB_end hl]

theorem word_IsShuffle_len (W A B : Option Addr) (nw na nb cw ca cb : Nat) (wd : World) (h : nw ≠ na + nb) (h1 : na ≤ 1000000) (h2 : nb ≤ 1000000) :
    Calls Try.prog 35 #[.slice W nw cw, .slice A na ca, .slice B nb cb] wd fun e w' => e = .returned (.bool false) ∧ Below wd.heap.size wd w' := by
  have hne : ((nw : Int) != (na : Int) + (nb : Int)) = true := by rw [bne_iff_ne]; omega
  clear h
  go_enter Try.func35, Try.ntmps35
  go_wp2
  go_ret
  exact ⟨rfl, Below.refl _ _⟩


set_option maxRecDepth 100000 in
set_option maxHeartbeats 6400000 in
theorem word_IsShuffle (W A B : Option Addr) (nw na nb cw ca cb : Nat) (w a b : List Int) (r : Bool) (wd : World) (hw : w.length = nw) (ha' : a.length = na) (hb' : b.length = nb) (hr : shB w a b = r)
    (hrW : RdI wd wd.heap.size W w) (hw1 : nw ≤ cw) (hw2 : cw ≤ 9223372036854775807) (ha : RdI wd wd.heap.size A a) (ha3 : na ≤ 1000000) (hb : RdI wd wd.heap.size B b) (hb3 : nb ≤ 1000000) :
    Calls Try.prog 35 #[.slice W nw cw, .slice A na ca, .slice B nb cb] wd fun e w' => e = .returned (.bool r) ∧ Below wd.heap.size wd w' := by
  by_cases h0 : nw = na + nb
  · subst h0
    have hne : (((na + nb : Nat) : Int) != (na : Int) + (nb : Int)) = false := by rw [bne_eq_false_iff_eq]; omega
    have HW := Lib.hid hw; clear hw
    have HA := Lib.hid ha'; clear ha'
    have HB := Lib.hid hb'; clear hb'
    have HR := Lib.hid hr; clear hr
    have hmk : ∀ X : World, (Instr.makeSlice 77 (.int .i64 ((nb : Int) + 1)) (.int .i64 ((nb : Int) + 1))).run Try.prog X = .ok (.slice (some ⟨X.heap.size, 0, none⟩) (nb + 1) (nb + 1)) (X.alloc (.cells (madeCells #[.bool false] (nb + 1)) 4)) := fun X =>
      run_make_row' 77 4 (.bool false) 1 Try.underlying77 bool_info rfl .i64 .i64 (nb + 1) (by omega) (by omega) X
    have hcs0 : (madeCells #[Value.bool false] (nb + 1))[0]? = some (.bool false) := by simp [madeCells]
    have hcl : (madeCells #[Value.bool false] (nb + 1)).toList = ov (List.replicate (nb + 1) false) := by rw [toList_madeCells_one]; simp [ov]
    generalize madeCells #[Value.bool false] (nb + 1) = cs at *
    have hst := World.ownsRow_lit (base := wd.heap.size) (e := 4) (size := 1) wd (cs.setIfInBounds 0 (.bool true)) (nb + 1) (Nat.le_refl _) (by unfold maxLen; omega) (by
      have := congrArg List.length hcl
      rw [Array.size_setIfInBounds, ← Array.length_toList, this]; simp [ov])
    rw [Array.toList_setIfInBounds, hcl, ov_set] at hst
    have HST := Lib.hid hst
    have HCL := Lib.hid hcl; clear hcl
    clear hst
    go_enter Try.func35, Try.ntmps35
    go_wp2
    go_loopw [8] (fun s8 wr => ∃ (i : Nat) (tab : List Bool), i ≤ na + 1 ∧ s8 = .int .i64 i ∧ Hid (CurB w a b i 0 nb tab) ∧ Hid (wr.ownsRow wd.heap.size 4 1 (.slice (some ⟨wd.heap.size, 0, none⟩) (nb + 1) (nb + 1)) (nb + 1) (ov tab)) ∧ Below wd.heap.size wd wr) (fun s8 _ => na + 1 - (intOf s8).toNat)
    case atStart => exact ⟨0, _, Nat.zero_le _, rfl, cur_start w a b nb, HST.out, (Below.refl _ _).alloc (Nat.le_refl _) _⟩
    case round =>
      obtain ⟨i, tab, hi, rfl, HC, HO, hbel⟩ := hrel
      by_cases hlt : i < na + 1
      · have hle : (i : Int) ≤ (na : Int) := by omega
        clear HST HCL hmk hcs0
        go_wp2
        go_loopw [34] (fun s wr => ∃ (j : Nat) (tab : List Bool), j ≤ nb + 1 ∧ s = .int .i64 j ∧ Hid (CurB w a b i j nb tab) ∧ Hid (wr.ownsRow wd.heap.size 4 1 (.slice (some ⟨wd.heap.size, 0, none⟩) (nb + 1) (nb + 1)) (nb + 1) (ov tab)) ∧ Below wd.heap.size wd wr) (fun s _ => nb + 1 - (intOf s).toNat)
        case atStart => exact ⟨0, tab, Nat.zero_le _, rfl, HC, HO, hbel⟩
        case round =>
          clear HC HO hbel
          obtain ⟨j, tab, hj, rfl, HC, HO, hbel⟩ := hrel
          by_cases hlj : j < nb + 1
          · have hjb : j ≤ nb := by omega
            cases i with
            | zero =>
              cases j with
              | zero =>
                go_wp2
                go_quiet (fail)
                go_wp2
                go_quiet (fail)
                go_wp2
                go_roundw
                case rel => exact ⟨1, tab, by omega, by go_num, cur_skip HC.out, HO, (by first | exact hbel | exact below_drewN hbel _ | exact hbel.drew | exact (below_drewN hbel _).drew | exact below_drewN (below_drewN hbel _) _)⟩
                case measure => simp [intOf]
              | succ j =>
                obtain ⟨bd, y, rfl, _, hy, hcy⟩ := (hb.below hbel).at_ (k := j) (by have := HB.out; omega)
                obtain ⟨we, c, rfl, _, hc, hcc⟩ := (hrW.below hbel).at_ (k := j) (by have := HW.out; omega)
                have hT := tabB_b (w := w) (a := a) hy hc
                have j1 : (0 : Int) < (j : Int) + 1 := by omega
                have j2 : (j : Int) + 1 ≤ (nb : Int) := by omega
                have j3 : (j : Int) < (nb : Int) := by omega
                have j4 : (j : Int) < (na : Int) + (nb : Int) := by omega
                obtain ⟨v0, hv0⟩ : ∃ v0, tab[j + 1]? = some v0 := ⟨_, HC.out.2 (j + 1) hjb⟩
                have hcs := HO.out.cellAt (j + 1) (by omega)
                rw [ov_get hv0] at hcs
                have hfs := HO.out.frozenAt (j + 1)
                clear hv0
                cases hu : tabB w a b 0 j with
                | false =>
                  have hcu := HO.out.cellAt j (by omega)
                  rw [ov_get (cur_bef HC.out hjb hu)] at hcu
                  rw [hu, Bool.false_and] at hT
                  have HQ := Lib.hid hT; clear hT
                  clear hu hy hc
                  go_wp2
                  go_quiet (fail)
                  go_wp2
                  go_quiet (fail)
                  go_wp2
                  go_roundw
                  case rel => exact ⟨(j+1) + 1, tab.set ((j+1)) false, by omega, by go_num, cur_set HC.out hjb HQ.out, (by have h := (HO.out.stored ((j+1)) (.bool false)).1; rw [ov_set] at h; exact h), (by first | exact hbel.setCell (Nat.le_refl _) _ | exact (below_drewN hbel _).setCell (Nat.le_refl _) _)⟩
                  case measure => simp [intOf] <;> omega
                | true =>
                  have hcu := HO.out.cellAt j (by omega)
                  rw [ov_get (cur_bef HC.out hjb hu)] at hcu
                  rw [hu, Bool.true_and] at hT
                  cases hyc : (y == c) with
                  | false =>
                    rw [hyc] at hT
                    have HQ := Lib.hid hT; clear hT
                    clear hu hy hc
                    go_wp2
                    go_quiet (fail)
                    go_wp2
                    go_quiet (fail)
                    go_wp2
                    go_roundw
                    case rel => exact ⟨(j+1) + 1, tab.set ((j+1)) false, by omega, by go_num, cur_set HC.out hjb HQ.out, (by have h := (HO.out.stored ((j+1)) (.bool false)).1; rw [ov_set] at h; exact h), (by first | exact hbel.setCell (Nat.le_refl _) _ | exact (below_drewN hbel _).setCell (Nat.le_refl _) _)⟩
                    case measure => simp [intOf] <;> omega
                  | true =>
                    rw [hyc] at hT
                    obtain rfl : y = c := by simpa using hyc
                    clear hyc
                    have HQ := Lib.hid hT; clear hT
                    clear hu hy hc
                    go_wp2
                    go_quiet (fail)
                    go_wp2
                    go_quiet (fail)
                    go_wp2
                    go_roundw
                    case rel => exact ⟨(j+1) + 1, tab.set ((j+1)) true, by omega, by go_num, cur_set HC.out hjb HQ.out, (by have h := (HO.out.stored ((j+1)) (.bool true)).1; rw [ov_set] at h; exact h), (by first | exact hbel.setCell (Nat.le_refl _) _ | exact (below_drewN hbel _).setCell (Nat.le_refl _) _)⟩
                    case measure => simp [intOf] <;> omega
            | succ i =>
              have i1 : (0 : Int) < (i : Int) + 1 := by omega
              have i2 : (i : Int) + 1 ≤ (na : Int) := by omega
              have i3 : (i : Int) < (na : Int) := by omega
              obtain ⟨ad, x, rfl, _, hx, hcx⟩ := (ha.below hbel).at_ (k := i) (by have := HA.out; omega)
              cases j with
              | zero =>
                obtain ⟨we, c, rfl, _, hc, hcc⟩ := (hrW.below hbel).at_ (k := i) (by have := HW.out; omega)
                have hT := tabB_a (w := w) (b := b) hx hc
                have j4 : (i : Int) < (na : Int) + (nb : Int) := by omega
                cases hv : tabB w a b i 0 with
                | false =>
                  have hcv := HO.out.cellAt 0 (by omega)
                  rw [ov_get (cur_at HC.out hjb hv)] at hcv
                  have hfs := HO.out.frozenAt 0
                  rw [hv, Bool.false_and] at hT
                  have HQ := Lib.hid hT; clear hT
                  clear hv hx hc
                  go_wp2
                  go_quiet (fail)
                  go_wp2
                  go_quiet (fail)
                  go_wp2
                  go_roundw
                  case rel => exact ⟨0 + 1, tab.set (0) false, by omega, by go_num, cur_set HC.out hjb HQ.out, (by have h := (HO.out.stored (0) (.bool false)).1; rw [ov_set] at h; exact h), (by first | exact hbel.setCell (Nat.le_refl _) _ | exact (below_drewN hbel _).setCell (Nat.le_refl _) _)⟩
                  case measure => simp [intOf] <;> omega
                | true =>
                  have hcv := HO.out.cellAt 0 (by omega)
                  rw [ov_get (cur_at HC.out hjb hv)] at hcv
                  have hfs := HO.out.frozenAt 0
                  rw [hv, Bool.true_and] at hT
                  cases hxc : (x == c) with
                  | false =>
                    rw [hxc] at hT
                    have HQ := Lib.hid hT; clear hT
                    clear hv hx hc
                    go_wp2
                    go_quiet (fail)
                    go_wp2
                    go_quiet (fail)
                    go_wp2
                    go_roundw
                    case rel => exact ⟨0 + 1, tab.set (0) false, by omega, by go_num, cur_set HC.out hjb HQ.out, (by have h := (HO.out.stored (0) (.bool false)).1; rw [ov_set] at h; exact h), (by first | exact hbel.setCell (Nat.le_refl _) _ | exact (below_drewN hbel _).setCell (Nat.le_refl _) _)⟩
                    case measure => simp [intOf] <;> omega
                  | true =>
                    rw [hxc] at hT
                    obtain rfl : x = c := by simpa using hxc
                    clear hxc
                    have HQ := Lib.hid hT; clear hT
                    clear hv hx hc
                    go_wp2
                    go_quiet (fail)
                    go_wp2
                    go_quiet (fail)
                    go_wp2
                    go_roundw
                    case rel => exact ⟨0 + 1, tab.set (0) true, by omega, by go_num, cur_set HC.out hjb HQ.out, (by have h := (HO.out.stored (0) (.bool true)).1; rw [ov_set] at h; exact h), (by first | exact hbel.setCell (Nat.le_refl _) _ | exact (below_drewN hbel _).setCell (Nat.le_refl _) _)⟩
                    case measure => simp [intOf] <;> omega
              | succ j =>
                obtain ⟨bd, y, rfl, _, hy, hcy⟩ := (hb.below hbel).at_ (k := j) (by have := HB.out; omega)
                obtain ⟨we, c, rfl, _, hc, hcc⟩ := (hrW.below hbel).at_ (k := i + j + 1) (by have := HW.out; omega)
                have hT := tabB_ab hx hy hc
                have j1 : (0 : Int) < (j : Int) + 1 := by omega
                have j2 : (j : Int) + 1 ≤ (nb : Int) := by omega
                have j3 : (j : Int) < (nb : Int) := by omega
                have j4 : (i : Int) + (j : Int) + 1 < (na : Int) + (nb : Int) := by omega
                have hcc' := cell_succ hcc
                have j10 : (0 : Int) ≤ (i : Int) + (j : Int) + 1 := by omega
                have j11 : (j : Int) < (nb : Int) + 1 := by omega
                have j12 : j < nb + 1 := by omega
                have j13 : (0 : Int) ≤ (j : Int) := by omega
                have j14 : (i : Int) + (j : Int) + 1 < ((na + nb : Nat) : Int) := by omega
                have j15 : i + j + 1 < na + nb := by omega
                have j7 : IntKind.i64.wrap (j : Int) = j := IntWalk.i64_in _ (by omega)
                have j8 : IntKind.i64.wrap ((i : Int) + 1 + ((j : Int) + 1)) = (i : Int) + 1 + ((j : Int) + 1) := IntWalk.i64_in _ (by omega)
                have j9 : IntKind.i64.wrap ((i : Int) + (j : Int) + 1) = (i : Int) + (j : Int) + 1 := IntWalk.i64_in _ (by omega)
                have j5 : (i : Int) + 1 + ((j : Int) + 1) - 1 = (i : Int) + (j : Int) + 1 := by omega
                have j6 : ((i : Int) + (j : Int) + 1).toNat = i + j + 1 := by omega
                cases hv : tabB w a b i (j + 1) with
                | false =>
                  have hcv := HO.out.cellAt (j + 1) (by omega)
                  rw [ov_get (cur_at HC.out hjb hv)] at hcv
                  have hfs := HO.out.frozenAt (j + 1)
                  rw [hv, Bool.false_and] at hT
                  cases hu : tabB w a b (i + 1) j with
                  | false =>
                    have hcu := HO.out.cellAt j (by omega)
                    rw [ov_get (cur_bef HC.out hjb hu)] at hcu
                    rw [hu, Bool.false_and] at hT
                    replace hT : tabB w a b (i + 1) (j + 1) = false := by simpa using hT
                    have HQ := Lib.hid hT; clear hT
                    clear hv hu hx hy hc
                    go_wp2
                    go_quiet (fail)
                    go_wp2
                    go_quiet (fail)
                    go_wp2
                    go_roundw
                    case rel => exact ⟨(j+1) + 1, tab.set ((j+1)) false, by omega, by go_num, cur_set HC.out hjb HQ.out, (by have h := (HO.out.stored ((j+1)) (.bool false)).1; rw [ov_set] at h; exact h), (by first | exact hbel.setCell (Nat.le_refl _) _ | exact (below_drewN hbel _).setCell (Nat.le_refl _) _)⟩
                    case measure => simp [intOf] <;> omega
                  | true =>
                    have hcu := HO.out.cellAt j (by omega)
                    rw [ov_get (cur_bef HC.out hjb hu)] at hcu
                    rw [hu, Bool.true_and] at hT
                    cases hyc : (y == c) with
                    | false =>
                      rw [hyc] at hT
                      replace hT : tabB w a b (i + 1) (j + 1) = false := by simpa using hT
                      have HQ := Lib.hid hT; clear hT
                      clear hv hu hx hy hc
                      go_wp2
                      go_quiet (fail)
                      go_wp2
                      go_quiet (fail)
                      go_wp2
                      go_roundw
                      case rel => exact ⟨(j+1) + 1, tab.set ((j+1)) false, by omega, by go_num, cur_set HC.out hjb HQ.out, (by have h := (HO.out.stored ((j+1)) (.bool false)).1; rw [ov_set] at h; exact h), (by first | exact hbel.setCell (Nat.le_refl _) _ | exact (below_drewN hbel _).setCell (Nat.le_refl _) _)⟩
                      case measure => simp [intOf] <;> omega
                    | true =>
                      rw [hyc] at hT
                      obtain rfl : y = c := by simpa using hyc
                      clear hyc
                      replace hT : tabB w a b (i + 1) (j + 1) = true := by simpa using hT
                      have HQ := Lib.hid hT; clear hT
                      clear hv hu hx hy hc
                      go_wp2
                      go_quiet (fail)
                      go_wp2
                      go_quiet (fail)
                      go_wp2
                      go_roundw
                      case rel => exact ⟨(j+1) + 1, tab.set ((j+1)) true, by omega, by go_num, cur_set HC.out hjb HQ.out, (by have h := (HO.out.stored ((j+1)) (.bool true)).1; rw [ov_set] at h; exact h), (by first | exact hbel.setCell (Nat.le_refl _) _ | exact (below_drewN hbel _).setCell (Nat.le_refl _) _)⟩
                      case measure => simp [intOf] <;> omega
                | true =>
                  have hcv := HO.out.cellAt (j + 1) (by omega)
                  rw [ov_get (cur_at HC.out hjb hv)] at hcv
                  have hfs := HO.out.frozenAt (j + 1)
                  rw [hv, Bool.true_and] at hT
                  cases hxc : (x == c) with
                  | false =>
                    rw [hxc] at hT
                    cases hu : tabB w a b (i + 1) j with
                    | false =>
                      have hcu := HO.out.cellAt j (by omega)
                      rw [ov_get (cur_bef HC.out hjb hu)] at hcu
                      rw [hu, Bool.false_and] at hT
                      replace hT : tabB w a b (i + 1) (j + 1) = false := by simpa using hT
                      have HQ := Lib.hid hT; clear hT
                      clear hv hu hx hy hc
                      go_wp2
                      go_quiet (fail)
                      go_wp2
                      go_quiet (fail)
                      go_wp2
                      go_roundw
                      case rel => exact ⟨(j+1) + 1, tab.set ((j+1)) false, by omega, by go_num, cur_set HC.out hjb HQ.out, (by have h := (HO.out.stored ((j+1)) (.bool false)).1; rw [ov_set] at h; exact h), (by first | exact hbel.setCell (Nat.le_refl _) _ | exact (below_drewN hbel _).setCell (Nat.le_refl _) _)⟩
                      case measure => simp [intOf] <;> omega
                    | true =>
                      have hcu := HO.out.cellAt j (by omega)
                      rw [ov_get (cur_bef HC.out hjb hu)] at hcu
                      rw [hu, Bool.true_and] at hT
                      cases hyc : (y == c) with
                      | false =>
                        rw [hyc] at hT
                        replace hT : tabB w a b (i + 1) (j + 1) = false := by simpa using hT
                        have HQ := Lib.hid hT; clear hT
                        clear hv hu hx hy hc
                        go_wp2
                        go_quiet (fail)
                        go_wp2
                        go_quiet (fail)
                        go_wp2
                        go_roundw
                        case rel => exact ⟨(j+1) + 1, tab.set ((j+1)) false, by omega, by go_num, cur_set HC.out hjb HQ.out, (by have h := (HO.out.stored ((j+1)) (.bool false)).1; rw [ov_set] at h; exact h), (by first | exact hbel.setCell (Nat.le_refl _) _ | exact (below_drewN hbel _).setCell (Nat.le_refl _) _)⟩
                        case measure => simp [intOf] <;> omega
                      | true =>
                        rw [hyc] at hT
                        obtain rfl : y = c := by simpa using hyc
                        clear hyc
                        replace hT : tabB w a b (i + 1) (j + 1) = true := by simpa using hT
                        have HQ := Lib.hid hT; clear hT
                        clear hv hu hx hy hc
                        go_wp2
                        go_quiet (fail)
                        go_wp2
                        go_quiet (fail)
                        go_wp2
                        go_roundw
                        case rel => exact ⟨(j+1) + 1, tab.set ((j+1)) true, by omega, by go_num, cur_set HC.out hjb HQ.out, (by have h := (HO.out.stored ((j+1)) (.bool true)).1; rw [ov_set] at h; exact h), (by first | exact hbel.setCell (Nat.le_refl _) _ | exact (below_drewN hbel _).setCell (Nat.le_refl _) _)⟩
                        case measure => simp [intOf] <;> omega
                  | true =>
                    rw [hxc] at hT
                    obtain rfl : x = c := by simpa using hxc
                    clear hxc
                    cases hu : tabB w a b (i + 1) j with
                    | false =>
                      have hcu := HO.out.cellAt j (by omega)
                      rw [ov_get (cur_bef HC.out hjb hu)] at hcu
                      rw [hu, Bool.false_and] at hT
                      replace hT : tabB w a b (i + 1) (j + 1) = true := by simpa using hT
                      have HQ := Lib.hid hT; clear hT
                      clear hv hu hx hy hc
                      go_wp2
                      go_quiet (fail)
                      go_wp2
                      go_quiet (fail)
                      go_wp2
                      go_roundw
                      case rel => exact ⟨(j+1) + 1, tab.set ((j+1)) true, by omega, by go_num, cur_set HC.out hjb HQ.out, (by have h := (HO.out.stored ((j+1)) (.bool true)).1; rw [ov_set] at h; exact h), (by first | exact hbel.setCell (Nat.le_refl _) _ | exact (below_drewN hbel _).setCell (Nat.le_refl _) _)⟩
                      case measure => simp [intOf] <;> omega
                    | true =>
                      have hcu := HO.out.cellAt j (by omega)
                      rw [ov_get (cur_bef HC.out hjb hu)] at hcu
                      rw [hu, Bool.true_and] at hT
                      cases hyc : (y == x) with
                      | false =>
                        rw [hyc] at hT
                        replace hT : tabB w a b (i + 1) (j + 1) = true := by simpa using hT
                        have HQ := Lib.hid hT; clear hT
                        clear hv hu hx hy hc
                        go_wp2
                        go_quiet (fail)
                        go_wp2
                        go_quiet (fail)
                        go_wp2
                        go_roundw
                        case rel => exact ⟨(j+1) + 1, tab.set ((j+1)) true, by omega, by go_num, cur_set HC.out hjb HQ.out, (by have h := (HO.out.stored ((j+1)) (.bool true)).1; rw [ov_set] at h; exact h), (by first | exact hbel.setCell (Nat.le_refl _) _ | exact (below_drewN hbel _).setCell (Nat.le_refl _) _)⟩
                        case measure => simp [intOf] <;> omega
                      | true =>
                        rw [hyc] at hT
                        obtain rfl : y = x := by simpa using hyc
                        clear hyc
                        replace hT : tabB w a b (i + 1) (j + 1) = true := by simpa using hT
                        have HQ := Lib.hid hT; clear hT
                        clear hv hu hx hy hc
                        go_wp2
                        go_quiet (fail)
                        go_wp2
                        go_quiet (fail)
                        go_wp2
                        go_roundw
                        case rel => exact ⟨(j+1) + 1, tab.set ((j+1)) true, by omega, by go_num, cur_set HC.out hjb HQ.out, (by have h := (HO.out.stored ((j+1)) (.bool true)).1; rw [ov_set] at h; exact h), (by first | exact hbel.setCell (Nat.le_refl _) _ | exact (below_drewN hbel _).setCell (Nat.le_refl _) _)⟩
                        case measure => simp [intOf] <;> omega
          · obtain rfl : j = nb + 1 := by omega
            go_wp2
            go_roundw
            case rel => exact ⟨i + 1, tab, by omega, by go_num, cur_next HC.out, HO, hbel⟩
            case measure => simp [intOf]; omega
      · obtain rfl : i = na + 1 := by omega
        have hce : tab[nb]? = some r := by
          have h1 := HC.out
          have h2 := HA.out
          rw [← h2] at h1
          exact cur_end h1 HB.out (by rw [HW.out, HB.out, h2]) HR.out
        have hc := HO.out.cellAt nb (by omega)
        rw [ov_get hce] at hc
        go_wp2
        go_ret
        exact ⟨rfl, hbel⟩
  · rw [shB_len (by rw [hw, ha', hb']; exact h0)] at hr
    subst hr
    exact word_IsShuffle_len W A B nw na nb cw ca cb wd h0 ha3 hb3
end Go.Proofs.Ytcbhencebflgcaa
