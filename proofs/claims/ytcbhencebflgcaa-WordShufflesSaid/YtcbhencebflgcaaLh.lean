/- The law WordShuffles: its walk. -/
import Derived.Test.YtcbhencebflgcaaWk
import Derived.Test.YtcbhencebflgcaaWq
import Derived.Test.YtcbhencebflgcaaWt
import Derived.Deep.OwnRows
namespace Go.Proofs.Ytcbhencebflgcaa
open Go.RowKit Go

theorem sameAll_n (A C : Option Addr) (ca cc nx ny : Nat) (xs ys : List SlV) (w : World) (hnx : xs.length = nx) (hny : ys.length = ny) (hq : xs.map SlV.l = ys.map SlV.l) (hx : RdS w w.heap.size A xs) (hx1 : nx ≤ ca) (hx2 : ca ≤ 9223372036854775807) (hy : RdS w w.heap.size C ys) :
    Calls Try.prog 33 #[.slice A nx ca, .slice C ny cc] w fun e w' => e = .returned (.bool true) ∧ Below w.heap.size w w' := by
  subst hnx hny
  refine (law_sameAll A C ca cc xs ys w hx hx1 hx2 hy).mono ?_
  rintro e w' ⟨rfl, n, rfl⟩
  rw [sameB_of hq]
  exact ⟨rfl, below_drewN (Below.refl _ _) _⟩

set_option maxRecDepth 100000 in
set_option maxHeartbeats 6400000 in
theorem shuffles_walk (V U : Option Addr) (cv cu nv nu : Nat) (l m : List Int) (w : World) (hnl : l.length = nv) (hnm : m.length = nu) (hl : RdB w w.heap.size V l) (hl1 : nv ≤ cv) (hl2 : cv ≤ 9223372036854775807) (hm : RdB w w.heap.size U m) (hm1 : nu ≤ cu) (hm2 : cu ≤ 9223372036854775807)
    (hlb : ∀ (k : Nat) (x : Int), l[k]? = some x → 0 ≤ x ∧ x ≤ 255) (hmb : ∀ (k : Nat) (x : Int), m[k]? = some x → 0 ≤ x ∧ x ≤ 255) :
    Calls Try.prog 10 #[.slice V nv cv, .slice U nu cu] w fun e w' => e = .returned (.bool true) ∧ Below w.heap.size w w' := by
  subst hnl hnm
  have HLB := Lib.hid hlb; clear hlb
  have HMB := Lib.hid hmb; clear hmb
  obtain ⟨n13, h13⟩ : ∃ n : Nat, n = 13 := ⟨_, rfl⟩
  obtain ⟨n6, h6⟩ : ∃ n : Nat, n = 6 := ⟨_, rfl⟩
  obtain ⟨n7, h7⟩ : ∃ n : Nat, n = 7 := ⟨_, rfl⟩
  have k13 : ∀ W : World, (Instr.makeSlice 22 (.int .i64 13) (.int .i64 13)).run Try.prog W = .ok (.slice (some ⟨W.heap.size, 0, none⟩) n13 n13) (W.alloc (.cells (madeCells #[.int .i64 0] n13) 3)) := fun W => by
    subst h13
    exact run_make_row' 22 3 (.int .i64 0) 8 Try.underlying22 int_info rfl .i64 .i64 13 (by omega) (by omega) W
  have k6 : ∀ W : World, (Instr.makeSlice 22 (.int .i64 6) (.int .i64 6)).run Try.prog W = .ok (.slice (some ⟨W.heap.size, 0, none⟩) n6 n6) (W.alloc (.cells (madeCells #[.int .i64 0] n6) 3)) := fun W => by
    subst h6
    exact run_make_row' 22 3 (.int .i64 0) 8 Try.underlying22 int_info rfl .i64 .i64 6 (by omega) (by omega) W
  have k7 : ∀ W : World, (Instr.makeSlice 22 (.int .i64 7) (.int .i64 7)).run Try.prog W = .ok (.slice (some ⟨W.heap.size, 0, none⟩) n7 n7) (W.alloc (.cells (madeCells #[.int .i64 0] n7) 3)) := fun W => by
    subst h7
    exact run_make_row' 22 3 (.int .i64 0) 8 Try.underlying22 int_info rfl .i64 .i64 7 (by omega) (by omega) W
  have q13 : 12 < n13 + 0 := by omega
  have q67 : 12 < n6 + n7 := by omega
  have p13 : n13 ≤ 1000000 := by omega
  have p6 : n6 ≤ 1000000 := by omega
  have p7 : n7 ≤ 1000000 := by omega
  clear h13 h6 h7
  go_enter Try.func10, Try.ntmps10
  go_wp2_with fail
  refine (known_any _).mono ?_
  rintro e w1 ⟨rfl, F⟩
  go_wp2_with fail
  refine (law_Word V cv 6 l _ ((RdV.below hl F).more F.size) (by omega) (HLB.out) (by omega)).mono ?_
  rintro e w2 ⟨Ax, kx, rfl, x1, x2, rx, b⟩
  replace F := F.trans (b.mono F.size); clear b
  go_wp2_with fail
  refine (law_Word U cu 5 m _ ((RdV.below hm F).more F.size) (by omega) (HMB.out) (by omega)).mono ?_
  rintro e w3 ⟨Ay, ky, rfl, y1, y2, ry, b⟩
  replace rx := (rx.below b).more b.size; replace F := F.trans (b.mono F.size); clear b
  have nx := wordB_le l 6
  have ny := wordB_le m 5
  generalize wordB l 6 = x at *
  generalize wordB m 5 = y at *
  clear HLB HMB hl hm
  go_wp2_with fail
  refine (word_Shuffles Ax Ay kx ky x y _ rx x1 x2 ry y1 y2 (by omega)).mono ?_
  rintro e w4 ⟨L, ⟨hinc, hmem⟩, A4, k4, zs, rfl, r4, g41, g42, hzl, b⟩
  have hL := shuf_same hinc hmem
  have hmem' : ∀ u ∈ L, shB u x y = true := fun u hu => shB_iff.2 (by
    have := (hmem u).1 hu
    rw [shufN_mem _ _ _ _ _ (Nat.le_refl _)] at this
    obtain ⟨v, rfl, hv⟩ := this
    exact hv)
  have hlen' : ∀ u ∈ L, u.length = x.length + y.length := fun u hu => (shB_iff.1 (hmem' u hu)).len
  replace rx := (rx.below b).more b.size; replace ry := (ry.below b).more b.size; replace F := F.trans (b.mono F.size); clear b
  have HL := Lib.hid hL; clear hL
  have HM := Lib.hid hmem'; clear hmem'
  have HN := Lib.hid hlen'; clear hlen'
  have HZ := Lib.hid hzl; clear hzl
  clear hinc hmem
  generalize hnz : zs.length = nz at *
  have HNZ := Lib.hid hnz; clear hnz
  go_wp2_with fail
  refine (ref_Shuffles (x.length + y.length) Ax Ay x.length y.length kx ky x y _ rfl rfl (Nat.le_refl _) (by omega) rx x1 x2 ry y1 y2).mono ?_
  rintro e w5 ⟨A5, k5, n5, us, rfl, hul, g51, g52, r5, hum, b⟩
  have r4' := (r4.below b).more b.size
  replace rx := (rx.below b).more b.size; replace ry := (ry.below b).more b.size; replace F := F.trans (b.mono F.size); clear b
  have hq : zs.map SlV.l = us.map SlV.l := by rw [HZ.out, hum, ← HL.out]
  have HQ := Lib.hid hq; clear hq
  have HUL := Lib.hid hul; clear hul
  clear hum r4
  go_wp2_with fail
  refine (sameAll_n A4 A5 k4 k5 nz n5 zs us _ HNZ.out HUL.out HQ.out r4' g41 g42 r5).mono ?_
  rintro e w6 ⟨rfl, b⟩
  have r6 := (r4'.below b).more b.size
  replace rx := (rx.below b).more b.size; replace ry := (ry.below b).more b.size; replace F := F.trans (b.mono F.size); clear b
  clear r4' r5 g51 g52
  have z6 := F.size
  go_wp2
  go_loopw [9] (fun i wr => ∃ k : Nat, k ≤ nz ∧ i = .int .i64 k ∧ Below w6.heap.size w6 wr) (fun i _ => nz - (intOf i).toNat)
  case atStart => exact ⟨0, Nat.zero_le _, rfl, by first | exact Below.refl _ _ | exact below_drewN (Below.refl _ _) _⟩
  case round =>
    obtain ⟨k, hk, rfl, hbel⟩ := hrel
    have hsz := hbel.size
    by_cases hlt : k < nz
    · obtain ⟨ad, s, rfl, _, hs, hcs, rs, gs1, gs2⟩ := (r6.below hbel).at_ (k := k) (by have := HNZ.out; omega)
      have hsl : s.l ∈ L := by rw [← HZ.out]; exact List.mem_map.2 ⟨s, List.mem_of_getElem? hs, rfl⟩
      have HSH := Lib.hid (HM.out _ hsl)
      generalize hnn : s.l.length = ns at *
      have HNN := Lib.hid hnn; clear hnn
      clear hs hsl
      have b1 : (k : Int) < (nz : Int) := by omega
      go_wp2_with fail
      refine (word_IsShuffle s.A Ax Ay ns x.length y.length s.c kx ky s.l x y true _ HNN.out rfl rfl HSH.out (by exact rs.more hsz) gs1 gs2 (by exact (rx.below hbel).more hsz) (by omega) (by exact (ry.below hbel).more hsz) (by omega)).mono ?_
      rintro e w7 ⟨rfl, b7⟩
      go_wp2
      go_roundw
      case rel => exact ⟨k + 1, by omega, by go_num, hbel.trans (Below.mono (by exact b7) hsz)⟩
      case measure => simp [intOf]; omega
    · go_wp2_with fail
      refine (word_Shuffles_many _ _ n13 0 _ _ _ q13 p13 (by omega)).mono ?_
      rintro e w7 ⟨rfl, rfl⟩
      go_wp2_with fail
      go_region_held3 (fun _ => True) (trivial) (first | (go_at_call 32; (with_reducible refine (word_Shuffles_many _ _ n6 n7 _ _ _ q67 p6 p7).mono ?_); rintro e w8 ⟨rfl, rfl⟩) | fail)
      all_goals
        go_wp2
        go_ret
        exact ⟨rfl, ((((F.trans (hbel.mono z6)).alloc (by omega) _).alloc (by simp; omega) _).alloc (by simp; omega) _).drew⟩
end Go.Proofs.Ytcbhencebflgcaa
