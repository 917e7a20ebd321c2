/- Walks: the loop's states. -/
import Derived.Test.YtioijhpbedmeaaaGreatDoorUq
namespace Go.Proofs.YtioijhpbedmeaaaGreatDoor
open Go.RowKit Go

theorem rngI_snoc (k : Nat) : rngI (((k + 1 : Nat)) : Int) = rngI (k : Int) ++ [(k : Int)] := by
 unfold rngI
 rw [Int.toNat_natCast, Int.toNat_natCast, List.range_succ, List.map_append]; rfl
/-- what states returns -/
def RetStates (p : Int → Bool) (n : Nat) (w : World) (e : Ending) (w' : World) : Prop :=
 ∃ v1 v2, e = .returned (.tuple #[v1, v2]) ∧ w'.ownsRow w.heap.size 3 1 v1 ((rngI (n : Int)).filter p).length (iv ((rngI (n : Int)).filter p)) ∧ w'.ownsRow w.heap.size 3 1 v2 n (iv (rngI (n : Int))) ∧ Below w.heap.size w w'
set_option maxRecDepth 100000 in
set_option maxHeartbeats 3200000 in
theorem loop_states (b g n : Nat) (cap : Value) (p : Int → Bool) (z : SV) (x : AV) (B : Option Addr) (nb cb : Nat) (T : List (List Int)) (w : World) (h : LpR w b z x B nb cb T) (hn : x.a.st = (n : Int)) (hn2 : n ≤ 4096)
  (eg : ∀ args W, (callFunc g args).run Tryz.prog W = .ok (.enter g args) W)
  (hg : ∀ (i : Nat) W, i < n → Below w.heap.size w W → Calls Tryz.prog g #[.int .i64 (i : Int), cap] W fun e W' => e = .returned (.bool (p (i : Int))) ∧ Below W.heap.size W W') :
  Calls Tryz.prog 43 #[.pointer (some ⟨b, 0, none⟩), .func (.func g) #[] #[cap]] w (RetStates p n w) := by
 have c12 := h.c 12 _ rfl
 rw [hn] at c12
 have hlb := h.blk.lt
 have HG := Lib.hid hg; clear hg
 have HT0 := Lib.hid (TwoR.start w)
 clear h hn
 go_enter Tryz.func43, Tryz.ntmps43
 go_wp2
 go_loopw [4, 5, 6, 12] (fun s4 s5 s6 s12 wr => ∃ (k m : Nat) (A4 A5 : Option Addr) (c4 c5 : Nat) (v6 : Value), s4 = .slice A4 m c4 ∧ s5 = .slice A5 k c5 ∧ s6 = v6 ∧ s12 = .int .i64 k ∧ k ≤ n ∧ m ≤ k ∧ Hid (TwoR w.heap.size w wr (.slice A4 m c4) (.slice A5 k c5) m k ((rngI (k : Int)).filter p) (rngI (k : Int)))) (fun _ _ _ s12 _ => n - (intOf s12).toNat)
 case atStart => exact ⟨0, 0, none, none, 0, 0, _, rfl, rfl, rfl, rfl, Nat.zero_le _, Nat.le_refl _, HT0⟩
 case round =>
  clear HT0
  obtain ⟨k, m, A4, A5, c4, c5, v6, rfl, rfl, rfl, rfl, hk, hmk, HT⟩ := hrel
  by_cases hlt : k < n
  ·have b1 : (k : Int) < (n : Int) := by omega
   have hbs : w.heap.size ≤ wr.heap.size := HT.out.siz
   obtain ⟨q, hq⟩ : ∃ q, p (k : Int) = q := ⟨_, rfl⟩
   have HGQ := Lib.hid (fun (W : World) (hb : Below w.heap.size w W) => HG.out k W hlt hb)
   rw [hq] at HGQ
   have HQ := Lib.hid hq
   clear hq
   cases q with
   | true =>
    go_wp2_with (first
     | (at_builtin; refine wpList_pushA wr [.int .i64 (k : Int)] rfl (.tmp 15) (.tmp 17) 30 rfl w.heap.size 3 (.int .i64 0) 1 8 Tryz.underlying30 int_info rfl (by decide) rfl (.slice A5 k c5) k _ rfl HT.out.o2 rfl (fun z hz => by simp at hz; subst hz; rfl) (by omega) (by omega) hbs ?_; intro A7 c7 w7 ho7 hg7 hl7; have HT7 := Lib.hid (HT.out.swap.push ho7 hg7 hl7).swap; clear ho7 hg7 hl7)
     | (go_at_fn g; refine (HGQ.out _ HT7.out.bel).mono ?_; rintro e w8 ⟨rfl, hb8⟩; have HT8 := Lib.hid (HT7.out.quiet hb8); clear hb8 HT7 HT hbs; have hbs8 : w.heap.size ≤ w8.heap.size := HT8.out.siz)
     | (at_builtin; refine wpList_pushA w8 [.int .i64 (k : Int)] rfl (.tmp 22) (.tmp 24) 30 rfl w.heap.size 3 (.int .i64 0) 1 8 Tryz.underlying30 int_info rfl (by decide) rfl (.slice A4 m c4) m _ rfl HT8.out.o1 rfl (fun z hz => by simp at hz; subst hz; rfl) (by omega) (by omega) hbs8 ?_; intro A9 c9 w9 ho9 hg9 hl9; have HT9 := Lib.hid (HT8.out.push ho9 hg9 hl9); clear ho9 hg9 hl9))
    have HTF := Lib.hid (show TwoR w.heap.size w w9 (.slice A9 (m + 1) c9) (.slice A7 (k + 1) c7) (m + 1) (k + 1) ((rngI (((k + 1 : Nat)) : Int)).filter p) (rngI (((k + 1 : Nat)) : Int)) from by
     rw [rngI_snoc, List.filter_append, List.filter_cons_of_pos HQ.out]; exact HT9.out)
    go_roundw
    case rel => exact ⟨k + 1, m + 1, A9, A7, c9, c7, _, rfl, rfl, rfl, by go_num, by omega, by omega, HTF⟩
    case measure => simp [intOf]; omega
   | false =>
    go_wp2_with (first
     | (at_builtin; refine wpList_pushA wr [.int .i64 (k : Int)] rfl (.tmp 15) (.tmp 17) 30 rfl w.heap.size 3 (.int .i64 0) 1 8 Tryz.underlying30 int_info rfl (by decide) rfl (.slice A5 k c5) k _ rfl HT.out.o2 rfl (fun z hz => by simp at hz; subst hz; rfl) (by omega) (by omega) hbs ?_; intro A7 c7 w7 ho7 hg7 hl7; have HT7 := Lib.hid (HT.out.swap.push ho7 hg7 hl7).swap; clear ho7 hg7 hl7)
     | (go_at_fn g; refine (HGQ.out _ HT7.out.bel).mono ?_; rintro e w8 ⟨rfl, hb8⟩; have HT8 := Lib.hid (HT7.out.quiet hb8); clear hb8 HT7 HT hbs; have hbs8 : w.heap.size ≤ w8.heap.size := HT8.out.siz))
    have HTF := Lib.hid (show TwoR w.heap.size w w8 (.slice A4 m c4) (.slice A7 (k + 1) c7) m (k + 1) ((rngI (((k + 1 : Nat)) : Int)).filter p) (rngI (((k + 1 : Nat)) : Int)) from by
     rw [rngI_snoc, List.filter_append, List.filter_cons_of_neg (by rw [HQ.out]; simp), List.filter_nil, List.append_nil]; exact HT8.out)
    go_roundw
    case rel => exact ⟨k + 1, m, A4, A7, c4, c7, _, rfl, rfl, rfl, by go_num, by omega, by omega, HTF⟩
    case measure => simp [intOf]; omega
  ·obtain rfl : k = n := by omega
   have b1 : ¬ (k : Int) < (k : Int) := by omega
   go_wp2
   refine bodyPost_ret (v := .tuple #[.slice A4 m c4, .slice A5 k c5]) (by simp [results, Tryz.results43, go_sem]) rfl ?_
   exact ⟨_, _, rfl, by rw [HT.out.e1]; exact HT.out.o1, HT.out.o2, HT.out.bel⟩
end Go.Proofs.YtioijhpbedmeaaaGreatDoor
