/- Walks: the reference's Shuffles (it calls itself). -/
import Derived.Test.YtcbhencebflgcaaWr
import Derived.Test.YtcbhencebflgcaaWk
namespace Go.Proofs.Ytcbhencebflgcaa
open Go.RowKit Go

theorem refS_lens {n : Nat} {a b : List Int} (h : a.length + b.length ≤ n) : ∀ u ∈ refS n a b, u.length = a.length + b.length := fun u hu => (((refS_ok n a b h).2.1 u).1 hu).len
theorem refS_many {n : Nat} {a b : List Int} (h : a.length + b.length ≤ n) (hn : n ≤ 16) : (refS n a b).length ≤ 65536 := by
  have h1 := (refS_ok n a b h).2.2
  have h2 : 2 ^ n ≤ 2 ^ 16 := Nat.pow_le_pow_right (by decide) hn
  omega

set_option maxHeartbeats 800000 in
theorem refShuf_base (n : Nat) (A B : Option Addr) (na nb ca cb : Nat) (a b : List Int) (w : World) (h0 : na = 0 ∨ nb = 0) (hna : a.length = na) (hnb : b.length = nb) (hA : na ≤ 1000000) (hB : nb ≤ 1000000)
    (ha : RdI w w.heap.size A a) (hb : RdI w w.heap.size B b) : Calls Try.prog 34 #[.slice A na ca, .slice B nb cb] w (RetP (refS n a b) w) := by
  have hr : refS n a b = [a ++ b] := refS_nil (by omega)
  rw [hr]
  clear hr
  have hia : (iv a).length = na := by rw [iv_length]; exact hna
  have hib : (iv b).length = nb := by rw [iv_length]; exact hnb
  obtain ⟨N, hN⟩ : ∃ N : Nat, na + nb = N := ⟨_, rfl⟩
  have hab : (a ++ b).length = N := by rw [List.length_append, hna, hnb, hN]
  have HIA := Lib.hid hia; clear hia
  have HIB := Lib.hid hib; clear hib
  clear hna hnb
  have main : ∀ v2 w2, w2.ownsRow w.heap.size 3 1 v2 (0 + na + nb) ([] ++ iv a ++ iv b) →
      ∃ A2 c2, v2 = .slice A2 N c2 ∧ (SlV.mk A2 c2 (a ++ b)).ok w2 w2.heap.size := by
    intro v2 w2 ho
    have ho' : w2.ownsRow w.heap.size 3 1 v2 (a ++ b).length (iv (a ++ b)) := by
      rw [iv_append, hab, ← hN]
      rw [Nat.zero_add, List.nil_append] at ho
      exact ho
    obtain ⟨A2, c2, rfl, g1, g2, r2⟩ := own_slI ho'
    exact ⟨A2, c2, by rw [hab], r2, g1, g2⟩
  have fin : ∀ A2 c2 w2, (SlV.mk A2 c2 (a ++ b)).ok w2 w2.heap.size → Below w.heap.size w w2 → RetP [a ++ b] w (.returned (.slice (some ⟨w2.heap.size, 0, none⟩) 1 1)) (w2.alloc (.cells #[.slice A2 N c2] 22)) := by
    intro A2 c2 w2 hok b2
    have hx := rds_lit w2 [⟨A2, c2, a ++ b⟩] 22 (fun s hs => by
      obtain rfl := List.mem_singleton.1 hs
      exact hok)
    have e : ([⟨A2, c2, a ++ b⟩] : List SlV).map SlV.v = [.slice A2 N c2] := by
      show [Value.slice A2 (a ++ b).length c2] = _
      rw [hab]
    rw [e] at hx
    exact ⟨_, 1, 1, [⟨A2, c2, a ++ b⟩], rfl, rfl, Nat.le_refl _, by omega, hx.more (by simp), rfl, b2.alloc b2.size _⟩
  have MN := Lib.hid main
  have FN := Lib.hid fin
  have HAB := Lib.hid hab; clear hab
  clear main fin hN
  by_cases hz : na = 0
  · subst hz
    go_enter Try.func34, Try.ntmps34
    go_wp2_with (first
      | (at_builtin; (refine wpList_app _ rfl (.tmp 17) (.tmp 18) 22 rfl w.heap.size 3 (.int .i64 0) 8 Try.underlying22 int_info rfl (.slice (some ⟨w.heap.size, 0, none⟩) 0 0) 0 _ rfl (World.ownsRow_lit w #[] 0 (Nat.le_refl _) (by unfold maxLen; omega) rfl) w.heap.size A 0 ca (iv a) HIA.out rfl (RdV.alloc ha (Nat.le_refl _) _) (iv_one a) (by omega) (by omega) (by simp) ?_); intro v1 w1 ho1 hg1 hb1 hn1; have b1 : Below w.heap.size w w1 := ((Below.refl _ _).alloc (Nat.le_refl _) _).trans hb1; have z1 := b1.size; clear hg1 hb1 hn1)
      | (at_builtin; (refine wpList_app w1 rfl (.tmp 19) (.tmp 20) 22 rfl w.heap.size 3 (.int .i64 0) 8 Try.underlying22 int_info rfl v1 (0 + 0) _ rfl ho1 w.heap.size B nb cb (iv b) HIB.out rfl (RdV.below hb b1) (iv_one b) (by omega) (by omega) z1 ?_); intro v2 w2 ho2 hg2 hb2 hn2; obtain ⟨A2, c2, rfl, hok2⟩ := MN.out v2 w2 ho2; have HK2 := Lib.hid hok2; clear hok2 hg2 hn2 ho2))
    go_ret
    exact FN.out A2 c2 w2 HK2.out (b1.trans (hb2.mono (Nat.le_refl _)))
  · obtain rfl : nb = 0 := by omega
    have nz : ((na : Int) == 0) = false := by rw [beq_eq_false_iff_ne]; omega
    go_enter Try.func34, Try.ntmps34
    go_wp2_with (first
      | (at_builtin; (refine wpList_app _ rfl (.tmp 17) (.tmp 18) 22 rfl w.heap.size 3 (.int .i64 0) 8 Try.underlying22 int_info rfl (.slice (some ⟨w.heap.size, 0, none⟩) 0 0) 0 _ rfl (World.ownsRow_lit w #[] 0 (Nat.le_refl _) (by unfold maxLen; omega) rfl) w.heap.size A na ca (iv a) HIA.out rfl (RdV.alloc ha (Nat.le_refl _) _) (iv_one a) (by omega) (by omega) (by simp) ?_); intro v1 w1 ho1 hg1 hb1 hn1; have b1 : Below w.heap.size w w1 := ((Below.refl _ _).alloc (Nat.le_refl _) _).trans hb1; have z1 := b1.size; clear hg1 hb1 hn1)
      | (at_builtin; (refine wpList_app w1 rfl (.tmp 19) (.tmp 20) 22 rfl w.heap.size 3 (.int .i64 0) 8 Try.underlying22 int_info rfl v1 (0 + na) _ rfl ho1 w.heap.size B 0 cb (iv b) HIB.out rfl (RdV.below hb b1) (iv_one b) (by omega) (by omega) z1 ?_); intro v2 w2 ho2 hg2 hb2 hn2; obtain ⟨A2, c2, rfl, hok2⟩ := MN.out v2 w2 ho2; have HK2 := Lib.hid hok2; clear hok2 hg2 hn2 ho2))
    go_ret
    exact FN.out A2 c2 w2 HK2.out (b1.trans (hb2.mono (Nat.le_refl _)))

end Go.Proofs.Ytcbhencebflgcaa
