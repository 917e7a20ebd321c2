/- Walks: ref03.Step, ref06.Next, ref03.index, ref03.Empty; the statements' Set.Events. -/
import Derived.Test.YtbdliebjalghmaaDoorRa
import Derived.Test.YtbdliebjalghmaaDoorQf
import Derived.Test.YtbdliebjalghmaaDoorMg
namespace Go.Proofs.YtbdliebjalghmaaDoor
open Go.RowKit Go

set_option maxRecDepth 100000 in
set_option maxHeartbeats 1600000 in
theorem ref_Step3 (A : Option Addr) (na ca : Nat) (M : Option Addr) (nm cm : Nat) (E : Option Addr) (ne ce : Nat) (a : Aut) (s v : Int) (w : World) (h : AutR w w.heap.size A na ca M nm cm E ne ce a) :
    Calls Tryd.prog 86 #[.agg #[.slice A na ca, .int .i64 a.st, .slice M nm cm, .slice E ne ce], .int .i64 s, .int .i64 v] w fun e w' => e = .returned (.int .i64 (nxt a s v)) ∧ Below w.heap.size w w' := by
  have hB0 := box_below w (.cells #[.slice A na ca, .int .i64 a.st, .slice M nm cm, .slice E ne ce] 29)
  have hE := (h.re.below hB0).more hB0.size
  have hle := h.le
  have hec := h.ec
  have hcE := h.cE
  obtain ⟨r, hr⟩ : ∃ r, nxt a s v = r := ⟨_, rfl⟩
  rw [hr]
  have HR := Lib.hid (show r = nxtE s v (a.ed.drop 0) from hr.symm)
  have HLE := Lib.hid hle; clear hle
  clear hr h
  go_enter Tryd.func86, Tryd.ntmps86
  go_wp2
  go_loop [7] (fun i => ∃ k : Nat, k ≤ ne ∧ i = .int .i64 k ∧ Hid (r = nxtE s v (a.ed.drop k))) (fun i => ne - (intOf i).toNat)
  case atStart => exact ⟨0, Nat.zero_le _, rfl, HR⟩
  case round =>
    obtain ⟨k, hk, rfl, HX⟩ := hrel
    clear HR
    by_cases hlt : k < ne
    · obtain ⟨ad, x, rfl, hbb, hx, q0, q1, q2⟩ := hE.at_ (k := k) (by have := HLE.out; omega)
      have b1 : (k : Int) < (ne : Int) := by omega
      have p1 := st_cells (j := 0) q1
      have p2 := st_cells (j := 1) q2
      clear q1 q2
      simp only [Nat.zero_add, Nat.reduceAdd] at p1 p2
      have HGX := Lib.hid hx; clear hx
      by_cases c1 : x.f = s
      · have d1 : (x.f == s) = true := by simpa using c1
        by_cases c2 : x.e = v
        · have d2 : (x.e == v) = true := by simpa using c2
          have HB := Lib.hid (show r = x.t by rw [HX.out, nxtE_hit HGX.out c1 c2])
          clear c1 c2
          go_wp2
          go_ret
          exact ⟨ret_int HB.out.symm, hB0⟩
        · have d2 : (x.e == v) = false := by simpa using c2
          have HB := Lib.hid (show r = nxtE s v (a.ed.drop (k + 1)) by rw [HX.out, nxtE_go HGX.out (fun e => c2 e.2)])
          clear c1 c2
          go_wp2
          go_round
          case rel => exact ⟨k + 1, by omega, by go_num, HB⟩
          case measure => simp [intOf]; omega
      · have d1 : (x.f == s) = false := by simpa using c1
        have HB := Lib.hid (show r = nxtE s v (a.ed.drop (k + 1)) by rw [HX.out, nxtE_go HGX.out (fun e => c1 e.1)])
        clear c1
        go_wp2
        go_round
        case rel => exact ⟨k + 1, by omega, by go_num, HB⟩
        case measure => simp [intOf]; omega
    · have hf : r = -1 := by rw [HX.out, nxtE_end (by have := HLE.out; omega)]
      have HF := Lib.hid hf; clear hf
      go_wp2
      go_ret
      exact ⟨ret_int HF.out.symm, hB0⟩
set_option maxRecDepth 100000 in
set_option maxHeartbeats 1600000 in
theorem ref_Next6 (A : Option Addr) (na ca : Nat) (M : Option Addr) (nm cm : Nat) (E : Option Addr) (ne ce : Nat) (a : Aut) (s v : Int) (w : World) (h : AutR w w.heap.size A na ca M nm cm E ne ce a) :
    Calls Tryd.prog 59 #[.agg #[.slice A na ca, .int .i64 a.st, .slice M nm cm, .slice E ne ce], .int .i64 s, .int .i64 v] w fun e w' => e = .returned (.int .i64 (nxt a s v)) ∧ Below w.heap.size w w' := by
  have hB0 := box_below w (.cells #[.slice A na ca, .int .i64 a.st, .slice M nm cm, .slice E ne ce] 29)
  have hE := (h.re.below hB0).more hB0.size
  have hle := h.le
  have hec := h.ec
  have hcE := h.cE
  obtain ⟨r, hr⟩ : ∃ r, nxt a s v = r := ⟨_, rfl⟩
  rw [hr]
  have HR := Lib.hid (show r = nxtE s v (a.ed.drop 0) from hr.symm)
  have HLE := Lib.hid hle; clear hle
  clear hr h
  go_enter Tryd.func59, Tryd.ntmps59
  go_wp2
  go_loop [7] (fun i => ∃ k : Nat, k ≤ ne ∧ i = .int .i64 k ∧ Hid (r = nxtE s v (a.ed.drop k))) (fun i => ne - (intOf i).toNat)
  case atStart => exact ⟨0, Nat.zero_le _, rfl, HR⟩
  case round =>
    obtain ⟨k, hk, rfl, HX⟩ := hrel
    clear HR
    by_cases hlt : k < ne
    · obtain ⟨ad, x, rfl, hbb, hx, q0, q1, q2⟩ := hE.at_ (k := k) (by have := HLE.out; omega)
      have b1 : (k : Int) < (ne : Int) := by omega
      have p1 := st_cells (j := 0) q1
      have p2 := st_cells (j := 1) q2
      clear q1 q2
      simp only [Nat.zero_add, Nat.reduceAdd] at p1 p2
      have HGX := Lib.hid hx; clear hx
      by_cases c1 : x.f = s
      · have d1 : (x.f == s) = true := by simpa using c1
        by_cases c2 : x.e = v
        · have d2 : (x.e == v) = true := by simpa using c2
          have HB := Lib.hid (show r = x.t by rw [HX.out, nxtE_hit HGX.out c1 c2])
          clear c1 c2
          go_wp2
          go_ret
          exact ⟨ret_int HB.out.symm, hB0⟩
        · have d2 : (x.e == v) = false := by simpa using c2
          have HB := Lib.hid (show r = nxtE s v (a.ed.drop (k + 1)) by rw [HX.out, nxtE_go HGX.out (fun e => c2 e.2)])
          clear c1 c2
          go_wp2
          go_round
          case rel => exact ⟨k + 1, by omega, by go_num, HB⟩
          case measure => simp [intOf]; omega
      · have d1 : (x.f == s) = false := by simpa using c1
        have HB := Lib.hid (show r = nxtE s v (a.ed.drop (k + 1)) by rw [HX.out, nxtE_go HGX.out (fun e => c1 e.1)])
        clear c1
        go_wp2
        go_round
        case rel => exact ⟨k + 1, by omega, by go_num, HB⟩
        case measure => simp [intOf]; omega
    · have hf : r = -1 := by rw [HX.out, nxtE_end (by have := HLE.out; omega)]
      have HF := Lib.hid hf; clear hf
      go_wp2
      go_ret
      exact ⟨ret_int HF.out.symm, hB0⟩

set_option maxHeartbeats 800000 in
theorem ref_index (A : Option Addr) (c n : Nat) (l : List Int) (x : Int) (w : World) (hl : l.length = n) (h : RdI w w.heap.size A l) (hlc : n ≤ c) (hc : c ≤ 9223372036854775807) :
    Calls Tryd.prog 87 #[.slice A n c, .int .i64 x] w fun e w' => e = .returned (.int .i64 (idx l x)) ∧ w = w' := by
  have HL := Lib.hid hl; clear hl
  obtain ⟨r, hr⟩ : ∃ r, idx l x = r := ⟨_, rfl⟩
  rw [hr]
  have HR := Lib.hid hr; clear hr
  go_enter Tryd.func87, Tryd.ntmps87
  go_wp2
  go_loop [5] (fun i => ∃ k : Nat, k ≤ n ∧ i = .int .i64 k ∧ Hid (x ∉ l.take k)) (fun i => n - (intOf i).toNat)
  case atStart => exact ⟨0, Nat.zero_le _, rfl, Lib.hid (by simp)⟩
  case round =>
    obtain ⟨k, hk, rfl, HX⟩ := hrel
    by_cases hlt : k < n
    · obtain ⟨ad, y, rfl, _, hy, hcy⟩ := h.at_ (k := k) (by have := HL.out; omega)
      have b1 : (k : Int) < (n : Int) := by omega
      by_cases hxy : y = x
      · have e1 : (y == x) = true := by simpa using hxy
        have HF := Lib.hid (show r = (k : Int) by rw [← HR.out]; exact idx_hit (by rw [hy, hxy]) HX.out)
        have HY := Lib.hid hy; clear hy
        clear hxy
        go_wp2
        go_ret
        exact ⟨ret_int HF.out.symm, rfl⟩
      · have e1 : (y == x) = false := by simpa using hxy
        have HX2 := Lib.hid (not_take_succ hy HX.out hxy)
        have HY := Lib.hid hy; clear hy
        clear hxy
        go_wp2
        go_round
        case rel => exact ⟨k + 1, by omega, by go_num, HX2⟩
        case measure => simp [intOf]; omega
    · have HF := Lib.hid (show r = -1 by rw [← HR.out]; exact idx_end HX.out (by have := HL.out; omega))
      go_wp2
      go_ret
      exact ⟨ret_int HF.out.symm, rfl⟩

theorem Blk.alc {w : World} {b : Nat} {t : TypeId} {vs : List Value} (h : Blk w b t vs) (o : Obj) : Blk (w.alloc o) b t vs := h.below (box_below _ _) h.lt
/-- An automaton of the call's own. -/
structure AutO (w : World) (base : Nat) (A : Option Addr) (na ca : Nat) (M : Option Addr) (nm cm : Nat) (E : Option Addr) (ne ce : Nat) (a : Aut) : Prop where
  la : a.al.length = na
  oa : w.ownsRow base 3 1 (.slice A na ca) na (iv a.al)
  lm : a.ma.length = nm
  om : w.ownsRow base 3 1 (.slice M nm cm) nm (iv a.ma)
  le : a.ed.length = ne
  oe : w.ownsRow base 43 3 (.slice E ne ce) ne (a.ed.flatMap edc)
section
variable {w w' : World} {b0 b1 : Nat} {A M E : Option Addr} {na ca nm cm ne ce : Nat} {a : Aut}
theorem AutO.rd (h : AutO w b0 A na ca M nm cm E ne ce a) : AutR w w.heap.size A na ca M nm cm E ne ce a :=
  ⟨h.la, (own_cap' h.oa).1, (own_cap' h.oa).2, RdI.of_own h.oa, h.lm, (own_cap' h.om).1, (own_cap' h.om).2, RdI.of_own h.om, h.le, (own_cap' h.oe).1, (own_cap' h.oe).2, RdR.of_own (by omega) (fun _ _ => rfl) h.oe⟩
theorem AutO.below (h : AutO w b0 A na ca M nm cm E ne ce a) (hb : Below w.heap.size w w') : AutO w' b0 A na ca M nm cm E ne ce a :=
  ⟨h.la, own_below h.oa hb, h.lm, own_below h.om hb, h.le, own_below h.oe hb⟩
theorem AutO.down (h : AutO w b1 A na ca M nm cm E ne ce a) (hB : b0 ≤ b1) : AutO w b0 A na ca M nm cm E ne ce a :=
  ⟨h.la, own_base h.oa hB, h.lm, own_base h.om hB, h.le, own_base h.oe hB⟩
/-- A block below the base changes. -/
theorem AutO.low (h : AutO w b0 A na ca M nm cm E ne ce a) {r : Nat} (hg : w.grownBy w' (some r)) (hr : r < b0) : AutO w' b0 A na ca M nm cm E ne ce a :=
  ⟨h.la, own_kept_low h.oa hg hr, h.lm, own_kept_low h.om hg hr, h.le, own_kept_low h.oe hg hr⟩
end
/-- The post of a call that makes an automaton. -/
def RetA (a : Aut) (w : World) (e : Ending) (w' : World) : Prop :=
  ∃ (A : Option Addr) (na ca : Nat) (M : Option Addr) (nm cm : Nat) (E : Option Addr) (ne ce : Nat), e = .returned (.agg #[.slice A na ca, .int .i64 a.st, .slice M nm cm, .slice E ne ce]) ∧ AutO w' w.heap.size A na ca M nm cm E ne ce a ∧ Below w.heap.size w w'

/-- The post of Empty: the alphabet alone. -/
def RetE (l : List Int) (w : World) (e : Ending) (w' : World) : Prop :=
  ∃ (V : Option Addr) (n c : Nat), e = .returned (.agg #[.slice V n c, .int .i64 0, .slice none 0 0, .slice none 0 0]) ∧ l.length = n ∧ w'.ownsRow w.heap.size 3 1 (.slice V n c) n (iv l) ∧ Below w.heap.size w w'
theorem RetE.ret {l : List Int} {w w' : World} {e : Ending} (h : RetE l w e w') : RetA ⟨l, 0, [], []⟩ w e w' := by
  obtain ⟨V, n, c, rfl, hl, ho, hb⟩ := h
  exact ⟨V, n, c, none, 0, 0, none, 0, 0, rfl, ⟨hl, ho, rfl, World.ownsRow_nil _ _ _ _, rfl, World.ownsRow_nil _ _ _ _⟩, hb⟩
set_option maxRecDepth 100000 in
set_option maxHeartbeats 1600000 in
theorem ref_Empty (A : Option Addr) (c n : Nat) (l : List Int) (w : World) (hl : l.length = n) (ha : RdI w w.heap.size A l) (hn : n ≤ 1000000) :
    Calls Tryd.prog 68 #[.slice A n c] w (RetE l w) := by
  have HL := Lib.hid hl; clear hl
  have hB0 := box_below w (.cells #[.slice none 0 0, .int .i64 0, .slice none 0 0, .slice none 0 0] 29)
  have hr0 : Blk (w.alloc (.cells #[.slice none 0 0, .int .i64 0, .slice none 0 0, .slice none 0 0] 29)) w.heap.size 29 [.slice none 0 0, .int .i64 0, .slice none 0 0, .slice none 0 0] := Blk.new _ _ _
  have HR0 := Lib.hid hr0; clear hr0
  have ha1 := (ha.below hB0).more hB0.size
  have HA1 := Lib.hid ha1; clear ha1
  have hlit := own_lit (w.alloc (.cells #[.slice none 0 0, .int .i64 0, .slice none 0 0, .slice none 0 0] 29)) [] (w.heap.size + 1) 3 (by simp) (by simp)
  rw [show (w.alloc (.cells #[.slice none 0 0, .int .i64 0, .slice none 0 0, .slice none 0 0] 29)).heap.size = w.heap.size + 1 by simp] at hlit
  have HLIT := Lib.hid hlit; clear hlit
  go_enter Tryd.func68, Tryd.ntmps68
  go_wp2_with (at_builtin; refine wpList_app _ rfl (.tmp 3) (.tmp 4) 26 rfl (w.heap.size + 1) 3 (.int .i64 0) 8 Tryd.underlying26 int_info rfl (.slice (some ⟨w.heap.size + 1, 0, none⟩) 0 0) 0 _ rfl HLIT.out _ A n c (iv l) (by rw [iv_length]; exact HL.out) rfl (RdV.alloc HA1.out (Nat.le_refl _) _) (iv_one l) (by omega) (by omega) (by simp) ?_; intro v' w' ho' hg' hb1 hnn; rw [Nat.zero_add, List.nil_append] at ho'; obtain ⟨B, cb, rfl⟩ := own_shape ho'; have HB1 := Lib.hid hb1; have HO := Lib.hid ho'; have hr1 := (Blk.alc HR0.out (.cells #[] 3)).below hb1 (Nat.lt_succ_self _); have f0 := hr1.free 0; have f1 := hr1.free 1; have f2 := hr1.free 2; have f3 := hr1.free 3; have e0 := hr1.cell (j := 0) rfl; have e1 := hr1.cell (j := 1) rfl; have e2 := hr1.cell (j := 2) rfl; have e3 := hr1.cell (j := 3) rfl; have l0 : w.heap.size < w'.heap.size := hr1.lt; clear ho' hb1 hnn)
  have hb3 := (((hr1.set (j := 0) (by simp) (.slice B n cb)).set (j := 1) (by simp) (.int .i64 0)).set (j := 2) (by simp) (.slice none 0 0)).set (j := 3) (by simp) (.slice none 0 0)
  have z0 := hb3.cell (j := 0) rfl
  have z1 := hb3.cell (j := 1) rfl
  have z2 := hb3.cell (j := 2) rfl
  have z3 := hb3.cell (j := 3) rfl
  refine bodyPost_ret (v := .agg #[.slice B n cb, .int .i64 0, .slice none 0 0, .slice none 0 0]) (by simp [results, Tryd.results68, go_sem, z0, z1, z2, z3]) rfl ?_
  have hg4 : w'.grownBy ((((w'.setCell ⟨w.heap.size, 0, none⟩ (.slice B n cb)).setCell ⟨w.heap.size, 1, none⟩ (.int .i64 0)).setCell ⟨w.heap.size, 2, none⟩ (.slice none 0 0)).setCell ⟨w.heap.size, 3, none⟩ (.slice none 0 0)) (some w.heap.size) := (((grown_setCell _ _ _ _).trans (grown_setCell _ _ _ _)).trans (grown_setCell _ _ _ _)).trans (grown_setCell _ _ _ _)
  have hbl : Below w.heap.size w w' := (hB0.alloc (by simp) _).trans (HB1.out.mono (by simp))
  have ho := HO.out
  exact ⟨B, n, cb, rfl, HL.out, own_base (own_kept_low ho hg4 (Nat.lt_succ_self _)) (Nat.le_succ _), hbl.grown hg4 hbl.size (fun j hj => by injection hj with hj; omega)⟩

theorem and_one_u8 {y : Int} (h0 : 0 ≤ y) (h1 : y ≤ 255) : (bits BinOp.and IntKind.u8 y 1 == 1) = (y % 2 == 1) := by
  rw [u8_and y 1 h0 (by omega) (by omega) (by omega)]
  have e : (y.toNat &&& (1 : Int).toNat : Nat) = y.toNat % 2 := Nat.and_one_is_mod _
  rw [e, Bool.eq_iff_iff, beq_iff_eq, beq_iff_eq]
  omega
theorem bit_u8 {x : Int} {k : Nat} {b : Bool} (hb : bitB x k = b) (h0 : 0 ≤ x) (h1 : x ≤ 255) : (bits BinOp.and IntKind.u8 (x / 2 ^ k) 1 == 1) = b := by
  have p : (0 : Int) < 2 ^ k := Int.pow_pos (by omega)
  have h2 : 0 ≤ x / 2 ^ k := Int.ediv_nonneg h0 (by omega)
  have h3 : x / 2 ^ k ≤ x := Int.ediv_le_self _ h0
  rw [and_one_u8 h2 (by omega)]; exact hb
set_option maxHeartbeats 1600000 in
theorem set_Events (x : Int) (w : World) (h0 : 0 ≤ x) (h1 : x ≤ 255) :
    Calls Tryd.prog 45 #[.int .u8 x] w (RetO 3 (setB x 5) w) := by
  go_enter Tryd.func45, Tryd.ntmps45
  go_wp2
  go_loopw [3, 4] (fun o i wr => ∃ k m : Nat, k ≤ 5 ∧ i = .int .i64 k ∧ m ≤ k ∧ Hid ((setB x k).length = m) ∧ Hid (wr.ownsRow w.heap.size 3 1 o m (iv (setB x k))) ∧ Below w.heap.size w wr) (fun _ i _ => 5 - (intOf i).toNat)
  case atStart => exact ⟨0, 0, by omega, rfl, by omega, Lib.hid rfl, World.ownsRow_nil _ _ _ _, Below.refl _ _⟩
  case round =>
    obtain ⟨k, m, hk, rfl, hm, HM, HO, hbel⟩ := hrel
    have hsz := hbel.size
    by_cases hlt : k < 5
    · cases hq : bitB x k with
      | true =>
        have hb2 : (bits BinOp.and IntKind.u8 (x / 2 ^ k) 1 == 1) = true := bit_u8 hq h0 h1
        have HQ := Lib.hid hq; clear hq
        go_wp2_with (at_builtin; refine wpList_push wr (.int .i64 (k : Int)) rfl (.tmp 14) (.tmp 16) 26 rfl w.heap.size 3 (.int .i64 0) 8 Tryd.underlying26 int_info rfl u3 m _ rfl HO.out rfl rfl (by omega) (by omega) hsz ?_; intro v' w' ho' hg' hb1)
        go_roundw
        case rel => exact ⟨k + 1, m + 1, by omega, by go_num, by omega, Lib.hid (by rw [setB_yes HQ.out, List.length_append, HM.out]; rfl), (by rw [setB_yes HQ.out, iv_append]; exact ho'), hbel.trans hb1⟩
        case measure => simp [intOf]; omega
      | false =>
        have hb2 : (bits BinOp.and IntKind.u8 (x / 2 ^ k) 1 == 1) = false := bit_u8 hq h0 h1
        have HQ := Lib.hid hq; clear hq
        go_wp2
        go_roundw
        case rel => exact ⟨k + 1, m, by omega, by go_num, by omega, Lib.hid (by rw [setB_no HQ.out]; exact HM.out), (by rw [setB_no HQ.out]; exact HO.out), hbel⟩
        case measure => simp [intOf]; omega
    · obtain rfl : k = 5 := by omega
      go_wp2
      go_ret
      exact ⟨_, rfl, by rw [HM.out]; exact HO.out, hbel⟩
end Go.Proofs.YtbdliebjalghmaaDoor
