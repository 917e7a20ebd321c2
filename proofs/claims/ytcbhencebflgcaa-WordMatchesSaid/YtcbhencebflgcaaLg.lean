/- The law WordMatches: its walk. -/
import Derived.Test.YtcbhencebflgcaaWo
import Derived.Test.YtcbhencebflgcaaWn
import Derived.Test.YtcbhencebflgcaaPq
namespace Go.Proofs.Ytcbhencebflgcaa
open Go.RowKit Go

theorem box2b {w w1 : World} {x y : Value} {t : TypeId} (h : Below (w.alloc (.cells #[x, y] t)).heap.size (w.alloc (.cells #[x, y] t)) w1) :
    w1.cell? ⟨w.heap.size, 0, none⟩ = some x ∧ w1.cell? ⟨w.heap.size, 1, none⟩ = some y := by
  refine ⟨?_, ?_⟩
  · rw [h.cell (p := ⟨w.heap.size, 0, none⟩) (alloc_lt _ _)]; simp [go_sem]
  · rw [h.cell (p := ⟨w.heap.size, 1, none⟩) (alloc_lt _ _)]; simp [go_sem]
theorem nonN_set {s : List Int} (h : setErr s 32 = 0) : NonN s := fun x hx => ((setErr_inc h).2 x (hasB_mem.1 hx)).1
theorem same_any (A B : Option Addr) (c d : Nat) (a b : List Int) (q : Bool) (w : World) (hq : eqB a b = q) (ha : RdI w w.heap.size A a) (hac : a.length ≤ c) (hc : c ≤ 9223372036854775807)
    (hb : RdI w w.heap.size B b) : Calls Try.prog 20 #[.slice A a.length c, .slice B b.length d] w fun e w' => e = .returned (.bool q) ∧ Below w.heap.size w w' :=
  (law_same_n A B c d _ _ a b q w rfl rfl hq ha hac hc hb).mono fun _ _ ⟨he, n, hw⟩ => ⟨he, by subst hw; exact below_drewN (Below.refl _ _) _⟩


set_option maxRecDepth 100000 in
set_option maxHeartbeats 6400000 in
theorem matches_walk (V U : Option Addr) (cv cu nv nu : Nat) (l m : List Int) (p q : Int) (w : World) (hnl : l.length = nv) (hnm : m.length = nu) (hl : RdB w w.heap.size V l) (hl1 : nv ≤ cv) (hl2 : cv ≤ 9223372036854775807) (hm : RdB w w.heap.size U m) (hm1 : nu ≤ cu) (hm2 : cu ≤ 9223372036854775807)
    (hlb : ∀ (k : Nat) (x : Int), l[k]? = some x → 0 ≤ x ∧ x ≤ 255) (hmb : ∀ (k : Nat) (x : Int), m[k]? = some x → 0 ≤ x ∧ x ≤ 255) (p0 : 0 ≤ p) (p1 : p ≤ 255) (q0 : 0 ≤ q) (q1 : q ≤ 255) :
    Calls Try.prog 5 #[.slice V nv cv, .slice U nu cu, .agg #[.int .u8 p, .int .u8 q]] w fun e w' => e = .returned (.bool true) ∧ Below w.heap.size w w' := by
  subst hnl hnm
  have HLB := Lib.hid hlb; clear hlb
  have HMB := Lib.hid hmb; clear hmb
  by_cases hp : projW (projW (wordB l 8) (setB p 5)) (setB q 5) = projW (projW (wordB m 8) (setB q 5)) (setB p 5)
  · have HP := Lib.hid hp; clear hp
    go_enter Try.func5, Try.ntmps5
    go_wp2_with fail
    refine (known_any _).mono ?_
    rintro e w1 ⟨rfl, B1⟩
    obtain ⟨x0, x1⟩ := box2b B1
    have z1 := B1.size
    go_wp2
    go_region_held3 (fun w' => w'.cell? ⟨w.heap.size, 0, none⟩ = some (.int .u8 p) ∧ w'.cell? ⟨w.heap.size, 1, none⟩ = some (.int .u8 q)) (first | exact ⟨x0, x1⟩ | exact ⟨y0, y1⟩ | exact ⟨v0, v1⟩ | go_keep) (first
      | (go_at_call 19; (with_reducible refine (law_Set p _ p0 p1).mono ?_); rintro e w2 ⟨A1, k1, rfl, f1, f2, rf, b2⟩; have B2 := B1.trans ((⟨b2.os, b2.tape, b2.output, b2.size, b2.block⟩ : Below w1.heap.size w1 w2).mono z1); have z2 := B2.size; clear b2; obtain ⟨y0, y1⟩ := box2b B2)
      | (go_at_call 19; (with_reducible refine (law_Set q _ q0 q1).mono ?_); rintro e w3 ⟨A2, k2, rfl, s1, s2, rs, b3⟩; replace b3 : Below w2.heap.size w2 w3 := ⟨b3.os, b3.tape, b3.output, b3.size, b3.block⟩; have B3 := B2.trans (b3.mono z2); have z3 := B3.size; replace rf := (rf.below b3).more b3.size; clear b3; obtain ⟨v0, v1⟩ := box2b B3) | fail)
    have F := below_first B3
    clear x0 x1 y0 y1 v0 v1 B1 z1 B2 z2 B3 z3
    go_wp2_with fail
    refine (law_Word V cv 8 l _ ((RdV.below hl F).more F.size) (by omega) (HLB.out) (by omega)).mono ?_
    rintro e w4 ⟨A4, k4, rfl, g41, g42, r4, b⟩
    replace rf := (rf.below b).more b.size; replace rs := (rs.below b).more b.size; replace F := F.trans (b.mono F.size); clear b
    go_wp2_with fail
    refine (ref_Project A4 A1 k4 k1 (wordB l 8) (setB p 5) _ r4 (by have := wordB_le l 8; omega) rf f1 f2).mono ?_
    rintro e w5 ⟨Ax, kx, rfl, x1, x2, rx, b⟩
    replace rf := (rf.below b).more b.size; replace rs := (rs.below b).more b.size; replace F := F.trans (b.mono F.size); clear b
    clear g41 g42 r4
    go_wp2_with fail
    refine (law_Word U cu 8 m _ ((RdV.below hm F).more F.size) (by omega) (HMB.out) (by omega)).mono ?_
    rintro e w6 ⟨A6, k6, rfl, g61, g62, r6, b⟩
    replace rf := (rf.below b).more b.size; replace rs := (rs.below b).more b.size; replace rx := (rx.below b).more b.size; replace F := F.trans (b.mono F.size); clear b
    go_wp2_with fail
    refine (ref_Project A6 A2 k6 k2 (wordB m 8) (setB q 5) _ r6 (by have := wordB_le m 8; omega) rs s1 s2).mono ?_
    rintro e w7 ⟨Ay, ky, rfl, y1, y2, ry, b⟩
    replace rf := (rf.below b).more b.size; replace rs := (rs.below b).more b.size; replace rx := (rx.below b).more b.size; replace F := F.trans (b.mono F.size); clear b
    clear g61 g62 r6
    have HF1 := Lib.hid (show OverB (projW (wordB l 8) (setB p 5)) (setB p 5) from proj_over _ _)
    have HF2 := Lib.hid (show OverB (projW (wordB m 8) (setB q 5)) (setB q 5) from proj_over _ _)
    have nx : (projW (wordB l 8) (setB p 5)).length ≤ 8 := Nat.le_trans (proj_len _ _) (wordB_le l 8)
    have ny : (projW (wordB m 8) (setB q 5)).length ≤ 8 := Nat.le_trans (proj_len _ _) (wordB_le m 8)
    have nf := setB_le p 5
    have ns := setB_le q 5
    have HEF := Lib.hid (setB_err p)
    have HES := Lib.hid (setB_err q)
    generalize projW (wordB l 8) (setB p 5) = x at *
    generalize projW (wordB m 8) (setB q 5) = y at *
    generalize setB p 5 = f at *
    generalize setB q 5 = s at *
    have HI1 := Lib.hid (setErr_inc HEF.out).1
    have HI2 := Lib.hid (setErr_inc HES.out).1
    have HN1 := Lib.hid (nonN_set HEF.out)
    have HN2 := Lib.hid (nonN_set HES.out)
    have HC1 := Lib.hid (chk_over HEF.out (by omega) HF1.out)
    have HC2 := Lib.hid (chk_over HES.out (by omega) HF2.out)
    obtain ⟨e1, e2⟩ := matW_proj HF1.out HF2.out HP.out
    have HE0 := Lib.hid (eqB_of (rfl : matW f s x y = matW f s x y))
    have HE1 := Lib.hid (eqB_of e1)
    have HE2 := Lib.hid (eqB_of e2)
    have HE3 := Lib.hid (eqB_of HP.out)
    have nm := matW_le f s x y
    clear e1 e2
    go_wp2_with fail
    refine (match_yes Ax Ay A1 A2 kx ky k1 k2 x y f s _ rx x1 x2 ry y1 y2 rf f1 f2 rs s1 s2 (by omega) (by omega) (by omega) (by omega) HC1.out HC2.out HI1.out HI2.out HP.out).mono ?_
    rintro e w8 ⟨A8, k8, rfl, g81, g82, r8, b⟩
    replace rf := (rf.below b).more b.size; replace rs := (rs.below b).more b.size; replace rx := (rx.below b).more b.size; replace ry := (ry.below b).more b.size; replace F := F.trans (b.mono F.size); clear b
    go_wp2_with fail
    refine (ref_Match_yes Ax Ay A1 A2 kx ky k1 k2 x y f s _ rx x1 x2 ry y1 y2 rf f1 f2 rs s1 s2 (by omega) (by omega) HN1.out HN2.out HF1.out HF2.out HP.out).mono ?_
    rintro e w9 ⟨A9, k9, rfl, g91, g92, r9, b⟩
    replace rf := (rf.below b).more b.size; replace rs := (rs.below b).more b.size; replace rx := (rx.below b).more b.size; replace ry := (ry.below b).more b.size; replace r8 := (r8.below b).more b.size; replace F := F.trans (b.mono F.size); clear b
    go_wp2_with fail
    refine (same_any A8 A9 k8 k9 _ _ true _ HE0.out r8 g81 g82 r9).mono ?_
    rintro e w10 ⟨rfl, b⟩
    replace rf := (rf.below b).more b.size; replace rs := (rs.below b).more b.size; replace rx := (rx.below b).more b.size; replace ry := (ry.below b).more b.size; replace r8 := (r8.below b).more b.size; replace F := F.trans (b.mono F.size); clear b
    clear r9 g91 g92
    go_wp2_with fail
    refine (word_Project A8 A1 k8 k1 _ f _ r8 (by omega) rf (by omega) HI1.out).mono ?_
    rintro e w11 ⟨A11, k11, rfl, g111, g112, r11, b⟩
    replace rf := (rf.below b).more b.size; replace rs := (rs.below b).more b.size; replace rx := (rx.below b).more b.size; replace ry := (ry.below b).more b.size; replace r8 := (r8.below b).more b.size; replace F := F.trans (b.mono F.size); clear b
    go_wp2_with fail
    refine (same_any A11 Ax k11 kx _ _ true _ HE1.out r11 g111 g112 rx).mono ?_
    rintro e w12 ⟨rfl, b⟩
    replace rf := (rf.below b).more b.size; replace rs := (rs.below b).more b.size; replace rx := (rx.below b).more b.size; replace ry := (ry.below b).more b.size; replace r8 := (r8.below b).more b.size; replace F := F.trans (b.mono F.size); clear b
    clear r11 g111 g112
    go_wp2_with fail
    refine (word_Project A8 A2 k8 k2 _ s _ r8 (by omega) rs (by omega) HI2.out).mono ?_
    rintro e w13 ⟨A13, k13, rfl, g131, g132, r13, b⟩
    replace rf := (rf.below b).more b.size; replace rs := (rs.below b).more b.size; replace rx := (rx.below b).more b.size; replace ry := (ry.below b).more b.size; replace r8 := (r8.below b).more b.size; replace F := F.trans (b.mono F.size); clear b
    go_wp2_with fail
    refine (same_any A13 Ay k13 ky _ _ true _ HE2.out r13 g131 g132 ry).mono ?_
    rintro e w14 ⟨rfl, b⟩
    replace rf := (rf.below b).more b.size; replace rs := (rs.below b).more b.size; replace rx := (rx.below b).more b.size; replace ry := (ry.below b).more b.size; replace r8 := (r8.below b).more b.size; replace F := F.trans (b.mono F.size); clear b
    clear r13 g131 g132
    go_wp2_with fail
    refine (word_Project Ax A2 kx k2 x s _ rx (by omega) rs (by omega) HI2.out).mono ?_
    rintro e w15 ⟨A15, k15, rfl, g151, g152, r15, b⟩
    replace rf := (rf.below b).more b.size; replace rs := (rs.below b).more b.size; replace rx := (rx.below b).more b.size; replace ry := (ry.below b).more b.size; replace F := F.trans (b.mono F.size); clear b
    go_wp2_with fail
    refine (word_Project Ay A1 ky k1 y f _ ry (by omega) rf (by omega) HI1.out).mono ?_
    rintro e w16 ⟨A16, k16, rfl, g161, g162, r16, b⟩
    replace r15 := (r15.below b).more b.size; replace F := F.trans (b.mono F.size); clear b
    go_wp2_with fail
    refine (same_any A15 A16 k15 k16 _ _ true _ HE3.out r15 g151 g152 r16).mono ?_
    rintro e w17 ⟨rfl, b⟩
    replace F := F.trans (b.mono F.size); clear b
    go_wp2
    go_ret
    exact ⟨rfl, F⟩
  · have HP := Lib.hid hp; clear hp
    go_enter Try.func5, Try.ntmps5
    go_wp2_with fail
    refine (known_any _).mono ?_
    rintro e w1 ⟨rfl, B1⟩
    obtain ⟨x0, x1⟩ := box2b B1
    have z1 := B1.size
    go_wp2
    go_region_held3 (fun w' => w'.cell? ⟨w.heap.size, 0, none⟩ = some (.int .u8 p) ∧ w'.cell? ⟨w.heap.size, 1, none⟩ = some (.int .u8 q)) (first | exact ⟨x0, x1⟩ | exact ⟨y0, y1⟩ | exact ⟨v0, v1⟩ | go_keep) (first
      | (go_at_call 19; (with_reducible refine (law_Set p _ p0 p1).mono ?_); rintro e w2 ⟨A1, k1, rfl, f1, f2, rf, b2⟩; have B2 := B1.trans ((⟨b2.os, b2.tape, b2.output, b2.size, b2.block⟩ : Below w1.heap.size w1 w2).mono z1); have z2 := B2.size; clear b2; obtain ⟨y0, y1⟩ := box2b B2)
      | (go_at_call 19; (with_reducible refine (law_Set q _ q0 q1).mono ?_); rintro e w3 ⟨A2, k2, rfl, s1, s2, rs, b3⟩; replace b3 : Below w2.heap.size w2 w3 := ⟨b3.os, b3.tape, b3.output, b3.size, b3.block⟩; have B3 := B2.trans (b3.mono z2); have z3 := B3.size; replace rf := (rf.below b3).more b3.size; clear b3; obtain ⟨v0, v1⟩ := box2b B3) | fail)
    have F := below_first B3
    clear x0 x1 y0 y1 v0 v1 B1 z1 B2 z2 B3 z3
    go_wp2_with fail
    refine (law_Word V cv 8 l _ ((RdV.below hl F).more F.size) (by omega) (HLB.out) (by omega)).mono ?_
    rintro e w4 ⟨A4, k4, rfl, g41, g42, r4, b⟩
    replace rf := (rf.below b).more b.size; replace rs := (rs.below b).more b.size; replace F := F.trans (b.mono F.size); clear b
    go_wp2_with fail
    refine (ref_Project A4 A1 k4 k1 (wordB l 8) (setB p 5) _ r4 (by have := wordB_le l 8; omega) rf f1 f2).mono ?_
    rintro e w5 ⟨Ax, kx, rfl, x1, x2, rx, b⟩
    replace rf := (rf.below b).more b.size; replace rs := (rs.below b).more b.size; replace F := F.trans (b.mono F.size); clear b
    clear g41 g42 r4
    go_wp2_with fail
    refine (law_Word U cu 8 m _ ((RdV.below hm F).more F.size) (by omega) (HMB.out) (by omega)).mono ?_
    rintro e w6 ⟨A6, k6, rfl, g61, g62, r6, b⟩
    replace rf := (rf.below b).more b.size; replace rs := (rs.below b).more b.size; replace rx := (rx.below b).more b.size; replace F := F.trans (b.mono F.size); clear b
    go_wp2_with fail
    refine (ref_Project A6 A2 k6 k2 (wordB m 8) (setB q 5) _ r6 (by have := wordB_le m 8; omega) rs s1 s2).mono ?_
    rintro e w7 ⟨Ay, ky, rfl, y1, y2, ry, b⟩
    replace rf := (rf.below b).more b.size; replace rs := (rs.below b).more b.size; replace rx := (rx.below b).more b.size; replace F := F.trans (b.mono F.size); clear b
    clear g61 g62 r6
    have HF1 := Lib.hid (show OverB (projW (wordB l 8) (setB p 5)) (setB p 5) from proj_over _ _)
    have HF2 := Lib.hid (show OverB (projW (wordB m 8) (setB q 5)) (setB q 5) from proj_over _ _)
    have nx : (projW (wordB l 8) (setB p 5)).length ≤ 8 := Nat.le_trans (proj_len _ _) (wordB_le l 8)
    have ny : (projW (wordB m 8) (setB q 5)).length ≤ 8 := Nat.le_trans (proj_len _ _) (wordB_le m 8)
    have nf := setB_le p 5
    have ns := setB_le q 5
    have HEF := Lib.hid (setB_err p)
    have HES := Lib.hid (setB_err q)
    generalize projW (wordB l 8) (setB p 5) = x at *
    generalize projW (wordB m 8) (setB q 5) = y at *
    generalize setB p 5 = f at *
    generalize setB q 5 = s at *
    have HI1 := Lib.hid (setErr_inc HEF.out).1
    have HI2 := Lib.hid (setErr_inc HES.out).1
    have HN1 := Lib.hid (nonN_set HEF.out)
    have HN2 := Lib.hid (nonN_set HES.out)
    have HC1 := Lib.hid (chk_over HEF.out (by omega) HF1.out)
    have HC2 := Lib.hid (chk_over HES.out (by omega) HF2.out)
    have HE0 := Lib.hid (eqB_of (rfl : ([] : List Int) = []))
    have HE3 : Hid (eqB (projW x s) (projW y f) = false) := Lib.hid (by unfold eqB; exact decide_eq_false HP.out)
    go_wp2_with fail
    refine (match_no Ax Ay A1 A2 kx ky k1 k2 x y f s _ rx ry rf f1 f2 rs s1 s2 (by omega) (by omega) (by omega) (by omega) HC1.out HC2.out HI1.out HI2.out HP.out).mono ?_
    rintro e w8 ⟨A8, k8, rfl, g81, g82, r8, b⟩
    replace rf := (rf.below b).more b.size; replace rs := (rs.below b).more b.size; replace rx := (rx.below b).more b.size; replace ry := (ry.below b).more b.size; replace F := F.trans (b.mono F.size); clear b
    go_wp2_with fail
    refine (ref_Match_no Ax Ay A1 A2 kx ky k1 k2 x y f s _ rx x1 x2 ry y1 y2 rf f1 f2 rs s1 s2 (by omega) (by omega) HN1.out HN2.out HF1.out HF2.out HP.out).mono ?_
    rintro e w9 ⟨A9, k9, rfl, g91, g92, r9, b⟩
    replace rf := (rf.below b).more b.size; replace rs := (rs.below b).more b.size; replace rx := (rx.below b).more b.size; replace ry := (ry.below b).more b.size; replace r8 := (r8.below b).more b.size; replace F := F.trans (b.mono F.size); clear b
    go_wp2_with fail
    refine (law_same_n A8 A9 k8 k9 0 0 [] [] true _ rfl rfl HE0.out r8 (by simp) g82 r9).mono ?_
    rintro e w10 ⟨rfl, hd⟩
    have b : Below w9.heap.size w9 w10 := by obtain ⟨n, rfl⟩ := hd; exact below_drewN (Below.refl _ _) _
    replace rf := (rf.below b).more b.size; replace rs := (rs.below b).more b.size; replace rx := (rx.below b).more b.size; replace ry := (ry.below b).more b.size; replace F := F.trans (b.mono F.size); clear b
    clear r8 r9 g81 g82 g91 g92 hd
    go_wp2_with fail
    refine (word_Project Ax A2 kx k2 x s _ rx (by omega) rs (by omega) HI2.out).mono ?_
    rintro e w15 ⟨A15, k15, rfl, g151, g152, r15, b⟩
    replace rf := (rf.below b).more b.size; replace rs := (rs.below b).more b.size; replace rx := (rx.below b).more b.size; replace ry := (ry.below b).more b.size; replace F := F.trans (b.mono F.size); clear b
    go_wp2_with fail
    refine (word_Project Ay A1 ky k1 y f _ ry (by omega) rf (by omega) HI1.out).mono ?_
    rintro e w16 ⟨A16, k16, rfl, g161, g162, r16, b⟩
    replace r15 := (r15.below b).more b.size; replace F := F.trans (b.mono F.size); clear b
    go_wp2_with fail
    refine (same_any A15 A16 k15 k16 _ _ false _ HE3.out r15 g151 g152 r16).mono ?_
    rintro e w17 ⟨rfl, b⟩
    replace F := F.trans (b.mono F.size); clear b
    go_wp2
    go_ret
    exact ⟨rfl, F⟩
end Go.Proofs.Ytcbhencebflgcaa
