/- Walks: slices.IndexFunc, ContainsFunc at a closure that only reads; word.Check, the reference's Check; the projections. -/
import Derived.Test.YtcbhencebflgcaaWb
import Derived.Shelf.Abstract
namespace Go.Proofs.Ytcbhencebflgcaa
open Go.RowKit Go

theorem int_info : (Try.prog.info? 3).map (fun i => (i.zero, i.size, i.bytes)) = some (some (.int .i64 0), 1, 8) := by kernel_rfl

set_option maxHeartbeats 400000 in
theorem slices_IndexFunc (A : Option Addr) (c : Nat) (l : List Int) (g : Nat) (cap : Value) (p : Int → Bool) (w : World) (h : RdI w w.heap.size A l) (hc : l.length ≤ 9223372036854775807)
    (eg : ∀ args w, (callFunc g args).run Try.prog w = .ok (.enter g args) w)
    (hp : ∀ x, Calls Try.prog g #[.int .i64 x, cap] w fun e w' => e = .returned (.bool (p x)) ∧ w = w') :
    Calls Try.prog 68 #[.slice A l.length c, .func (.func g) #[] #[cap]] w fun e w' => e = .returned (.int .i64 (idxI p l)) ∧ w = w' := by
  have HP := Lib.hid hp; clear hp
  go_enter Try.func68, Try.ntmps68
  go_wp2
  go_loop [8] (fun i => ∃ k : Nat, k ≤ l.length ∧ i = .int .i64 k ∧ Hid (noneB p (l.take k))) (fun i => l.length - (intOf i).toNat)
  case atStart => exact ⟨0, Nat.zero_le _, rfl, noneB_nil p⟩
  case round =>
    obtain ⟨k, hk, rfl, HN⟩ := hrel
    by_cases hlt : k < l.length
    · obtain ⟨ad, x, rfl, _, hx, hcx⟩ := h.at_ hlt
      have HX := Lib.hid hx; clear hx
      by_cases hpx : p x = true
      · go_wp2_with fail
        refine (HP.out x).mono ?_
        rintro e w' ⟨rfl, rfl⟩
        go_wp2
        go_ret
        exact ⟨ret_int (idxI_at HX.out HN.out hpx).symm, rfl⟩
      · have hpx' : p x = false := by simpa using hpx
        clear hpx
        go_wp2_with (go_at_fn g; refine (HP.out x).mono ?_; rintro e w' ⟨rfl, rfl⟩)
        go_round
        case rel => exact ⟨k + 1, by omega, by go_num, noneB_step HX.out HN.out hpx'⟩
        case measure => simp [intOf]; omega
    · go_wp2
      go_ret
      exact ⟨ret_int (idxI_end HN.out hlt).symm, rfl⟩

set_option maxHeartbeats 400000 in
theorem slices_ContainsFunc (A : Option Addr) (c : Nat) (l : List Int) (g : Nat) (cap : Value) (p : Int → Bool) (w : World) (h : RdI w w.heap.size A l) (hc : l.length ≤ 9223372036854775807)
    (eg : ∀ args w, (callFunc g args).run Try.prog w = .ok (.enter g args) w)
    (hp : ∀ x, Calls Try.prog g #[.int .i64 x, cap] w fun e w' => e = .returned (.bool (p x)) ∧ w = w') :
    Calls Try.prog 44 #[.slice A l.length c, .func (.func g) #[] #[cap]] w fun e w' => e = .returned (.bool (l.any p)) ∧ w = w' := by
  have e := idxI_any p l
  have HE := Lib.hid e; clear e
  have HP := Lib.hid hp; clear hp
  go_enter Try.func44, Try.ntmps44
  go_wp2_with (go_at_call 68; refine (slices_IndexFunc _ _ _ _ _ p _ h hc eg HP.out).mono ?_; rintro e w' ⟨rfl, rfl⟩)
  go_ret
  exact ⟨ret_bool HE.out, rfl⟩

set_option maxHeartbeats 400000 in
theorem word_Check_1 (A : Option Addr) (c : Nat) (set : List Int) (x : Int) (b : Nat) (w : World) (h : RdI w w.heap.size A set) (hc : set.length ≤ 4611686018427387903) (hs : Inc set)
    (hcell : w.cell? ⟨b, 0, none⟩ = some (.slice A set.length c)) :
    Calls Try.prog 45 #[.int .i64 x, .pointer (some ⟨b, 0, none⟩)] w fun e w' => e = .returned (.bool (!hasB set x)) ∧ w = w' := by
  have HS := Lib.hid hs; clear hs
  go_enter Try.func45, Try.ntmps45
  go_wp2_with (go_at_call 46; refine (alphabet_Contains _ _ _ _ _ h hc HS.out).mono ?_; rintro e w' ⟨rfl, rfl⟩)
  go_ret
  exact ⟨rfl, rfl⟩

theorem closure_bad (A B : Option Addr) (c d : Nat) (v set : List Int) (b : Nat) (w : World) (ha : RdI w w.heap.size A v) (hac : v.length ≤ 9223372036854775807)
    (hb : RdI w w.heap.size B set) (hb4 : set.length ≤ 4611686018427387903) (hs : Inc set) (hcell : w.cell? ⟨b, 0, none⟩ = some (.slice B set.length d)) :
    Calls Try.prog 44 #[.slice A v.length c, .func (.func 45) #[] #[.pointer (some ⟨b, 0, none⟩)]] w fun e w' => e = .returned (.bool (badB v set)) ∧ w = w' :=
  slices_ContainsFunc A c v _ _ (fun x => !hasB set x) w ha hac (enters_of Try.func45 (by kernel_rfl) rfl) (fun x => word_Check_1 B d set x b w hb hb4 hs hcell)

set_option maxHeartbeats 400000 in
theorem word_Check (A B : Option Addr) (c d : Nat) (v set : List Int) (w : World) (ha : RdI w w.heap.size A v) (hac : v.length ≤ 9223372036854775807)
    (hb : RdI w w.heap.size B set) (hbd : set.length ≤ d) (hd : d ≤ 9223372036854775807) (hb4 : set.length ≤ 4611686018427387903) :
    Calls Try.prog 15 #[.slice A v.length c, .slice B set.length d] w fun e w' => e = .returned (.int .i64 (chkW v set)) ∧ Below w.heap.size w w' := by
  have hb' : RdI (w.alloc (.cells #[.slice B set.length d] 22)) (w.alloc (.cells #[.slice B set.length d] 22)).heap.size B set := (hb.alloc (Nat.le_refl _) _).more (by simp)
  have ha' : RdI (w.alloc (.cells #[.slice B set.length d] 22)) (w.alloc (.cells #[.slice B set.length d] 22)).heap.size A v := (ha.alloc (Nat.le_refl _) _).more (by simp)
  have hcell : (w.alloc (.cells #[.slice B set.length d] 22)).cell? ⟨w.heap.size, 0, none⟩ = some (.slice B set.length d) := by simp [go_sem]
  by_cases he : setErr set 32 = 0
  · have he' : (setErr set 32 != 0) = false := by simpa using he
    have hinc := (setErr_inc he).1
    have HE := Lib.hid he; clear he
    have HI := Lib.hid hinc; clear hinc
    by_cases hl : 4096 < v.length
    · go_enter Try.func15, Try.ntmps15
      go_wp2_with (go_at_call 43; refine (alphabet_CheckSet _ _ _ _ _ hb' hbd hd).mono ?_; rintro e w' ⟨rfl, rfl⟩)
      go_ret
      exact ⟨ret_int (chkW_long HE.out (by omega)).symm, (Below.refl _ _).alloc (Nat.le_refl _) _⟩
    · cases hany : badB v set with
      | true =>
        go_enter Try.func15, Try.ntmps15
        go_wp2_with (first | (go_at_call 43; refine (alphabet_CheckSet _ _ _ _ _ hb' hbd hd).mono ?_; rintro e w' ⟨rfl, rfl⟩) | (go_at_call 44; refine (closure_bad _ _ _ _ _ _ _ _ ha' hac hb' hb4 HI.out hcell).mono ?_; rintro e w' ⟨rfl, rfl⟩))
        go_ret
        exact ⟨ret_int (chkW_bad HE.out hl hany).symm, (Below.refl _ _).alloc (Nat.le_refl _) _⟩
      | false =>
        go_enter Try.func15, Try.ntmps15
        go_wp2_with (first | (go_at_call 43; refine (alphabet_CheckSet _ _ _ _ _ hb' hbd hd).mono ?_; rintro e w' ⟨rfl, rfl⟩) | (go_at_call 44; refine (closure_bad _ _ _ _ _ _ _ _ ha' hac hb' hb4 HI.out hcell).mono ?_; rintro e w' ⟨rfl, rfl⟩))
        go_ret
        exact ⟨ret_int (chkW_ok HE.out hl hany).symm, (Below.refl _ _).alloc (Nat.le_refl _) _⟩
  · have he' : (setErr set 32 != 0) = true := by simpa using he
    have HE := Lib.hid he; clear he
    go_enter Try.func15, Try.ntmps15
    go_wp2_with (go_at_call 43; refine (alphabet_CheckSet _ _ _ _ _ hb' hbd hd).mono ?_; rintro e w' ⟨rfl, rfl⟩)
    go_ret
    exact ⟨ret_int (chkW_set HE.out).symm, (Below.refl _ _).alloc (Nat.le_refl _) _⟩

set_option maxHeartbeats 400000 in
theorem ref_Check (A B : Option Addr) (c d : Nat) (v set : List Int) (w : World) (ha : RdI w w.heap.size A v) (hac : v.length ≤ 9223372036854775807)
    (hb : RdI w w.heap.size B set) (hbd : set.length ≤ d) (hd : d ≤ 9223372036854775807) :
    Calls Try.prog 16 #[.slice A v.length c, .slice B set.length d] w fun e w' => e = .returned (.int .i64 (chkW v set)) ∧ ∃ n, w' = w.drewN n := by
  by_cases he : setErr set 32 = 0
  · have he' : (setErr set 32 != 0) = false := by simpa using he
    have HE := Lib.hid he; clear he
    by_cases hl : 4096 < v.length
    · go_enter Try.func16, Try.ntmps16
      go_wp2_with (go_at_call 47; refine (ref_Set _ _ _ _ _ hb hbd hd).mono ?_; rintro e w' ⟨rfl, m, rfl⟩)
      go_ret
      exact ⟨ret_int (chkW_long HE.out (by omega)).symm, (by first | exact dr00 _ | exact dr0 _ _ | exact dr1 _ _ _ | exact dr2 _ _ _ _ | exact dr3 _ _ _ _ _)⟩
    · go_enter Try.func16, Try.ntmps16
      go_wp2_with (go_at_call 47; refine (ref_Set _ _ _ _ _ hb hbd hd).mono ?_; rintro e w' ⟨rfl, m, rfl⟩)
      go_loopw [6] (fun i wr => ∃ k : Nat, k ≤ v.length ∧ i = .int .i64 k ∧ Hid (noneB (fun x => !hasB set x) (v.take k)) ∧ ∃ m, wr = w.drewN m) (fun i _ => v.length - (intOf i).toNat)
      case atStart => exact ⟨0, Nat.zero_le _, rfl, noneB_nil _, (by first | exact dr00 _ | exact dr0 _ _ | exact dr1 _ _ _ | exact dr2 _ _ _ _ | exact dr3 _ _ _ _ _)⟩
      case round =>
        obtain ⟨k, hk, rfl, HN, n, rfl⟩ := hrel
        by_cases hlt : k < v.length
        · obtain ⟨ad, x, rfl, _, hx, hcx⟩ := ha.at_ hlt
          have HX := Lib.hid hx; clear hx
          cases hq : hasB set x with
          | true =>
            go_wp2_with (go_at_call 48; refine (ref_Has _ _ _ _ _ (by exact hb) hbd hd).mono ?_; rintro e w' ⟨rfl, rfl⟩)
            go_roundw
            case rel => exact ⟨k + 1, by omega, by go_num, noneB_step HX.out HN.out (by simp [hq]), (by first | exact dr00 _ | exact dr0 _ _ | exact dr1 _ _ _ | exact dr2 _ _ _ _ | exact dr3 _ _ _ _ _)⟩
            case measure => simp [intOf]; omega
          | false =>
            go_wp2_with (go_at_call 48; refine (ref_Has _ _ _ _ _ (by exact hb) hbd hd).mono ?_; rintro e w' ⟨rfl, rfl⟩)
            go_ret
            exact ⟨ret_int (chkW_bad HE.out hl (any_hit HX.out (by simp [hq]))).symm, (by first | exact dr00 _ | exact dr0 _ _ | exact dr1 _ _ _ | exact dr2 _ _ _ _ | exact dr3 _ _ _ _ _)⟩
        · go_wp2
          go_ret
          exact ⟨ret_int (chkW_ok HE.out hl (noneB_end HN.out hlt)).symm, (by first | exact dr00 _ | exact dr0 _ _ | exact dr1 _ _ _ | exact dr2 _ _ _ _ | exact dr3 _ _ _ _ _)⟩
  · have he' : (setErr set 32 != 0) = true := by simpa using he
    have HE := Lib.hid he; clear he
    go_enter Try.func16, Try.ntmps16
    go_wp2_with (go_at_call 47; refine (ref_Set _ _ _ _ _ hb hbd hd).mono ?_; rintro e w' ⟨rfl, m, rfl⟩)
    go_ret
    exact ⟨ret_int (chkW_set HE.out).symm, (by first | exact dr00 _ | exact dr0 _ _ | exact dr1 _ _ _ | exact dr2 _ _ _ _ | exact dr3 _ _ _ _ _)⟩

set_option maxHeartbeats 800000 in
theorem word_Project (A B : Option Addr) (c d : Nat) (v set : List Int) (w : World) (ha : RdI w w.heap.size A v) (hac : v.length ≤ 17592186044416)
    (hb : RdI w w.heap.size B set) (hd : set.length ≤ 4611686018427387903) (hs : Inc set) :
    Calls Try.prog 18 #[.slice A v.length c, .slice B set.length d] w (RetI (projW v set) w) := by
  have HS := Lib.hid hs; clear hs
  go_enter Try.func18, Try.ntmps18
  go_wp2
  go_loopw [5, 10] (fun o i wr => ∃ k : Nat, k ≤ v.length ∧ i = .int .i64 k ∧ Hid (wr.ownsRow w.heap.size 3 1 o (projW (v.take k) set).length (iv (projW (v.take k) set))) ∧ Below w.heap.size w wr) (fun _ i _ => v.length - (intOf i).toNat)
  case atStart => exact ⟨0, Nat.zero_le _, rfl, World.ownsRow_nil _ _ _ _, Below.refl _ _⟩
  case round =>
    obtain ⟨k, hk, rfl, HO, hbel⟩ := hrel
    have hsz := hbel.size
    by_cases hlt : k < v.length
    · obtain ⟨ad, x, rfl, _, hx, hcx⟩ := (ha.below hbel).at_ hlt
      have HX := Lib.hid hx; clear hx
      have hb' : RdI wr wr.heap.size B set := (hb.below hbel).more hsz
      have hle := projW_le v set k
      cases hq : hasB set x with
      | true =>
        go_wp2_with (first | (go_at_call 46; go_loud (refine (alphabet_Contains _ _ _ _ _ hb' hd HS.out).mono ?_; rintro e w' ⟨rfl, rfl⟩)) | (at_builtin; refine wpList_push wr (.int .i64 x) rfl (.tmp 17) (.tmp 19) 22 rfl w.heap.size 3 (.int .i64 0) 8 Try.underlying22 int_info rfl u5 (projW (v.take k) set).length _ rfl HO.out rfl rfl (by omega) (by omega) hsz ?_; intro v' w' ho' hg' hb1))
        go_roundw
        case rel => exact ⟨k + 1, by omega, by go_num, (by rw [projW_keep HX.out hq, iv_append, List.length_append]; exact ho'), hbel.trans hb1⟩
        case measure => simp [intOf]; omega
      | false =>
        go_wp2_with (go_at_call 46; refine (alphabet_Contains _ _ _ _ _ hb' hd HS.out).mono ?_; rintro e w' ⟨rfl, rfl⟩)
        go_roundw
        case rel => exact ⟨k + 1, by omega, by go_num, (by rw [projW_drop HX.out hq]; exact HO.out), hbel⟩
        case measure => simp [intOf]; omega
    · go_wp2
      go_ret
      have := HO.out
      rw [projW_end hlt] at this
      exact own_ret this hbel
end Go.Proofs.Ytcbhencebflgcaa
