/- Walks: the events of a sketch; Make. -/
import Derived.Test.YtddhaidimadliaaJv
import Derived.Test.YtddhaidimadliaaGe
import Derived.Test.YtddhaidimadliaaPc
namespace Go.Proofs.Ytddhaidimadliaa
open Go.RowKit Go

/-- an event of the flags -/
def nmF (i : Nat) : ByteArray := strOfNums [97 + (i : Int)]
def evO (i : Nat) (v : Int) : Ev := if 48 ≤ v ∧ v < 52 then ⟨nmF i, false, false, false, v - 47⟩ else ⟨nmF i, bits BinOp.and IntKind.u8 v 1 == 1, bits BinOp.and IntKind.u8 v 2 == 2, bits BinOp.and IntKind.u8 v 4 == 4, 0⟩
def evF (l : List Int) : List Ev := l.mapIdx evO
theorem evF_snoc {l : List Int} {i : Nat} {v : Int} (h : l[i]? = some v) : evF (l.take (i + 1)) = evF (l.take i) ++ [evO i v] := by
 unfold evF
 rw [take_snoc' h, List.mapIdx_concat, List.length_take]
 have := (List.getElem?_eq_some_iff.1 h).1
 rw [Nat.min_eq_left (by omega)]
theorem evs_info : (Try.prog.info? 67).map (fun i => (i.zero, i.size, i.bytes)) = some (some (.agg #[.string ByteArray.empty, .bool false, .bool false, .bool false, .int .i64 0]), 5, 32) := by kernel_rfl
theorem own_ne_bx {w : World} {B n b : Nat} {e : TypeId} {sz : Nat} {v : Value} {xs : List Value} (_h : w.ownsRow B e sz v n xs) (hb : ∀ g, v.ownBlock = some g → g < b) : v.ownBlock = none ∨ v.ownBlock ≠ some b := .inr (fun e => by have := hb b e; omega)
set_option maxRecDepth 100000 in
set_option maxHeartbeats 3200000 in
theorem law_EventsF (fl : List Int) (w : World) (hl : fl.length = 5) (hr : ∀ x ∈ fl, 0 ≤ x ∧ x ≤ 255) :
  Calls Try.prog 46 #[.agg (bv fl).toArray] w fun e w' => ∃ (A : Option Addr) (c : Nat), e = .returned (.slice A 5 c) ∧ w'.ownsRow w.heap.size 67 5 (.slice A 5 c) 5 ((evF fl).flatMap Ev.cells) ∧ Below w.heap.size w w' := by
 match fl, hl with
 | [f0, f1, f2, f3, f4], _ =>
 unfold bv
 simp only [List.map_cons, List.map_nil]
 go_enter Try.func46, Try.ntmps46
 go_wp2
 have HF := Lib.hid (fun (W : World) (hW : Below (w.alloc (.cells #[.int .u8 f0, .int .u8 f1, .int .u8 f2, .int .u8 f3, .int .u8 f4] 23)).heap.size (w.alloc (.cells #[.int .u8 f0, .int .u8 f1, .int .u8 f2, .int .u8 f3, .int .u8 f4] 23)) W) => show Blk W w.heap.size 23 (bv [f0, f1, f2, f3, f4]) from (Blk.new w 23 [.int .u8 f0, .int .u8 f1, .int .u8 f2, .int .u8 f3, .int .u8 f4]).below hW (Blk.new w 23 [.int .u8 f0, .int .u8 f1, .int .u8 f2, .int .u8 f3, .int .u8 f4]).lt)
 obtain ⟨fl, hfl⟩ : ∃ l, [f0, f1, f2, f3, f4] = l := ⟨_, rfl⟩
 have hfll : fl.length = 5 := by rw [← hfl]; rfl
 rw [hfl] at hr HF
 have HB0 := Lib.hid (box_below w (.cells #[.int .u8 f0, .int .u8 f1, .int .u8 f2, .int .u8 f3, .int .u8 f4] 23))
 have hw1s : w.heap.size + 1 = (w.alloc (.cells #[.int .u8 f0, .int .u8 f1, .int .u8 f2, .int .u8 f3, .int .u8 f4] 23)).heap.size := by simp
 obtain ⟨w1, hw1⟩ : ∃ W, W = w.alloc (.cells #[.int .u8 f0, .int .u8 f1, .int .u8 f2, .int .u8 f3, .int .u8 f4] 23) := ⟨_, rfl⟩
 rw [← hw1] at HF HB0 hw1s ⊢
 have HFL := Lib.hid hfl
 clear hw1 hfl
 go_loopw [3, 4, 5] (fun s3 s4 s5 wr => ∃ (i : Nat) (v5 : Value) (A : Option Addr) (c : Nat), s4 = .int .i64 i ∧ s3 = .slice A i c ∧ s5 = v5 ∧ i ≤ 5 ∧ Hid (wr.ownsRow w1.heap.size 67 5 (.slice A i c) i ((evF (fl.take i)).flatMap Ev.cells)) ∧ Hid (Below w1.heap.size w1 wr)) (fun _ s4 _ _ => 5 - (intOf s4).toNat)
 case atStart => exact ⟨0, _, none, 0, rfl, rfl, rfl, by omega, Lib.hid (World.ownsRow_nil _ _ _ _), Lib.hid (Below.refl _ _)⟩
 case round =>
  obtain ⟨i, v5, A, c, rfl, rfl, rfl, hi, HO, HB⟩ := hrel
  by_cases hlt : i < 5
  ·have b1 : (i : Int) < 5 := by omega
   have hw1 : IntKind.u8.wrap (i : Int) = (i : Int) := by
    obtain rfl | rfl | rfl | rfl | rfl : i = 0 ∨ i = 1 ∨ i = 2 ∨ i = 3 ∨ i = 4 := by omega
    all_goals rfl
   have hw2 : IntKind.u8.wrap (97 + (i : Int)) = 97 + (i : Int) := by
    obtain rfl | rfl | rfl | rfl | rfl : i = 0 ∨ i = 1 ∨ i = 2 ∨ i = 3 ∨ i = 4 := by omega
    all_goals rfl
   have cz : (convert 158 9 (.slice (some ⟨wr.heap.size, 0, none⟩) 1 1)).run Try.prog (wr.alloc (.cells #[.int .u8 (97 + (i : Int))] 5)) = .ok (.string (nmF i)) (wr.alloc (.cells #[.int .u8 (97 + (i : Int))] 5)) := by
    refine run_convert_bytes_arg (P := Try.prog) _ 158 5 Try.underlying158 Try.underlying5 wr.heap.size 0 1 1 [97 + (i : Int)] rfl (fun j hj => ?_) 9 Try.underlying9
    obtain rfl : j = 0 := by omega
    exact (Blk.new wr 5 [.int .u8 (97 + (i : Int))]).cell (j := 0) rfl
   obtain ⟨v, hv⟩ : ∃ v, fl[i]? = some v := ⟨_, List.getElem?_eq_getElem (by omega)⟩
   have hvr := hr v (List.mem_of_getElem? hv)
   have hb4 : Below wr.heap.size wr ((wr.alloc (.cells #[.int .u8 (97 + (i : Int))] 5)).alloc (.cells #[.string (nmF i), .bool false, .bool false, .bool false, .int .i64 0] 67)) := (box_below _ _).alloc (box_below _ _).size _
   have kb : Blk ((wr.alloc (.cells #[.int .u8 (97 + (i : Int))] 5)).alloc (.cells #[.string (nmF i), .bool false, .bool false, .bool false, .int .i64 0] 67)) (wr.heap.size + 1) 67 [.string (nmF i), .bool false, .bool false, .bool false, .int .i64 0] := Blk.at_ _ _ [_, _, _, _, _] (by simp)
   have HO4 := Lib.hid (own_below HO.out hb4)
   have HB4 := Lib.hid (HB.out.trans (hb4.mono HB.out.size))
   go_upto_region 6 with fail
   have hnx : ∀ g, (Value.slice A i c).ownBlock = some g → g < wr.heap.size + 1 := fun g hg => by have := (HO.out.lt g hg).2; omega
   have hwx : w1.heap.size ≤ wr.heap.size + 1 := by have := HB.out.size; omega
   have hw1s : w.heap.size < wr.heap.size + 1 := by omega
   generalize wr.heap.size + 1 = bx at kb hnx hwx hw1s ⊢
   have HNX := Lib.hid hnx
   generalize (wr.alloc (.cells #[.int .u8 (97 + (i : Int))] 5)).alloc (.cells #[.string (nmF i), .bool false, .bool false, .bool false, .int .i64 0] 67) = w4 at kb HO4 HB4 hb4 ⊢
   clear cz hw1 hw2 HO HB hb4
   have HV := Lib.hid hv
   have e1 : w4.cell? ⟨w.heap.size, i, none⟩ = some (.int .u8 v) := (HF.out w4 HB4.out).cell (by unfold bv; rw [List.getElem?_map, hv]; rfl)
   clear hv
   have c4 := kb.cell (j := 4) rfl
   have f4 := kb.free 4
   have l0 := kb.lt
   by_cases hc : 48 ≤ v ∧ v < 52
   ·obtain ⟨h1, h2⟩ := hc
    have hk9 := kb.set (j := 4) (by simp) (.int .i64 (v - 47))
    have hg9 := grown_setCell w4 bx 4 (.int .i64 (v - 47))
    have HK9 := Lib.hid hk9
    have HO9 := Lib.hid (HO4.out.kept hg9 (own_ne_bx HO4.out HNX.out))
    have HB9 := Lib.hid (HB4.out.grown hg9 HB4.out.size (fun j hj => by injection hj with hj; omega))
    have HIF := Lib.hid (And.intro h1 h2)
    clear hk9 hg9
    go_upto_region 9 with fail
    generalize (w4.setCell ⟨bx, 4, none⟩ (.int .i64 (v - 47))) = w9 at HK9 HO9 HB9 ⊢
    have g0 := HK9.out.cell (j := 0) rfl
    have g1 := HK9.out.cell (j := 1) rfl
    have g2 := HK9.out.cell (j := 2) rfl
    have g3 := HK9.out.cell (j := 3) rfl
    have g4 := HK9.out.cell (j := 4) rfl
    have hs9 := HB9.out.size
    go_wp2_with (first
     | (at_builtin; refine wpList_pushA w9 [.string (nmF i), .bool false, .bool false, .bool false, .int .i64 (v - 47)] rfl (.tmp 50) (.tmp 52) 35 rfl w1.heap.size 67 (.agg #[.string ByteArray.empty, .bool false, .bool false, .bool false, .int .i64 0]) 5 32 Try.underlying35 evs_info rfl (by decide) rfl (.slice A i c) i _ rfl HO9.out rfl (fun u hu => by simp at hu; rcases hu with rfl | rfl | rfl | rfl | rfl <;> rfl) (by omega) (by omega) hs9 ?_; intro A8 c8 w8 ho8 hg8 _; have HO8 := Lib.hid ho8; have HB8 := Lib.hid (HB9.out.grown hg8 hs9 (fun j hj => (HO9.out.lt j hj).1)); clear ho8 hg8)
     | fail)
    have HE8 := Lib.hid (show w8.ownsRow w1.heap.size 67 5 (.slice A8 (i + 1) c8) (i + 1) ((evF (fl.take (i + 1))).flatMap Ev.cells) by
     rw [evF_snoc HV.out, List.flatMap_append]
     have : [evO i v].flatMap Ev.cells = [.string (nmF i), .bool false, .bool false, .bool false, .int .i64 (v - 47)] := by
      unfold evO
      rw [if_pos HIF.out]
      rfl
     rw [this]
     exact HO8.out)
    go_roundw
    case rel => exact ⟨i + 1, _, A8, c8, by go_num, rfl, rfl, by omega, HE8, HB8⟩
    case measure => simp [intOf]; omega
   ·have hor : v < 48 ∨ 52 ≤ v := by omega
    have HKB := Lib.hid kb
    go_upto_region 8 with (first | fail)
    all_goals
     refine wp_region_U (fun W => W.cell? ⟨w.heap.size, i, none⟩ = some (.int .u8 v)) (fun _ => True) 16 (by kernel_rfl) ?_
     change anyU _ _ _ _ _ _ _ 21 _ _ _
     have hB0 : True := trivial
     have HO5 := Lib.hid (own_below HO4.out (below_dr w4))
     have HB5 := Lib.hid (HB4.out.trans ((below_dr w4).mono HB4.out.size))
     have HK5 := Lib.hid (HKB.out.below (below_dr w4) HKB.out.lt)
     generalize w4.drew = w5 at HO5 HB5 HK5 ⊢
     have hA0 : w5.cell? ⟨w.heap.size, i, none⟩ = some (.int .u8 v) := (HF.out w5 HB5.out).cell (by unfold bv; rw [List.getElem?_map, HV.out]; rfl)
     (refine uA 0 ?_ rfl hA0 hB0 (fun W hA => ?_) ?_; rotate_left; (· (go_simp; try with_reducible rfl)); refine uA 1 ?_ rfl hA0 hB0 (fun W hA => ?_) ?_; rotate_left; (· (go_simp; try with_reducible rfl)); refine uA 2 ?_ rfl hA0 hB0 (fun W hA => ?_) ?_; rotate_left; (· (go_simp; try with_reducible rfl)); refine uA 3 ?_ rfl hA0 hB0 (fun W hA => ?_) ?_; rotate_left; (· (go_simp; try with_reducible rfl)); refine uA 4 ?_ rfl hA0 hB0 (fun W hA => ?_) ?_; rotate_left; (· (go_simp; try with_reducible rfl)); refine uA 5 ?_ rfl hA0 hB0 (fun W hA => ?_) ?_; rotate_left; (· (go_simp; try with_reducible rfl)); refine uA 6 ?_ rfl hA0 hB0 (fun W hA => ?_) ?_; rotate_left; (· (go_simp; try with_reducible rfl)); refine uA 7 ?_ rfl hA0 hB0 (fun W hA => ?_) ?_; rotate_left; (· (go_simp; try with_reducible rfl)); refine uA 8 ?_ rfl hA0 hB0 (fun W hA => ?_) ?_; rotate_left; (· (go_simp; try with_reducible rfl)); refine uA 9 ?_ rfl hA0 hB0 (fun W hA => ?_) ?_; rotate_left; (· (go_simp; try with_reducible rfl)); refine uA 10 ?_ rfl hA0 hB0 (fun W hA => ?_) ?_; rotate_left; (· (go_simp; try with_reducible rfl)); refine uA 11 ?_ rfl hA0 hB0 (fun W hA => ?_) ?_; rotate_left; (· (go_simp; try with_reducible rfl)); refine uA 12 ?_ rfl hA0 hB0 (fun W hA => ?_) ?_; rotate_left; (· (go_simp; try with_reducible rfl)); refine uA 13 ?_ rfl hA0 hB0 (fun W hA => ?_) ?_; rotate_left; (· (go_simp; try with_reducible rfl)); refine uA 14 ?_ rfl hA0 hB0 (fun W hA => ?_) ?_; rotate_left; (· (go_simp; try with_reducible rfl)); refine uA 15 ?_ rfl hA0 hB0 (fun W hA => ?_) ?_; rotate_left; (· (go_simp; try with_reducible rfl)); (try simp only [Act.put, List.setIfInBounds_toArray, List.set_cons_zero, List.set_cons_succ]))
     obtain ⟨y1, hy1⟩ : ∃ b, (bits BinOp.and IntKind.u8 v 1 == 1) = b := ⟨_, rfl⟩
     obtain ⟨y2, hy2⟩ : ∃ b, (bits BinOp.and IntKind.u8 v 2 == 2) = b := ⟨_, rfl⟩
     obtain ⟨y3, hy3⟩ : ∃ b, (bits BinOp.and IntKind.u8 v 4 == 4) = b := ⟨_, rfl⟩
     rw [hy1, hy2, hy3]
     have k5 := HK5.out
     have f1 := k5.free 1
     have f2 := k5.free 2
     have f3 := k5.free 3
     have c1 := k5.cell (j := 1) rfl
     have c2 := k5.cell (j := 2) rfl
     have c3 := k5.cell (j := 3) rfl
     have l5 := k5.lt
     have hg1 := grown_setCell w5 bx 1 (.bool y1)
     have hg2 := hg1.trans (grown_setCell _ bx 2 (.bool y2))
     have hg9 := hg2.trans (grown_setCell _ bx 3 (.bool y3))
     have HK9 := Lib.hid (((k5.set (j := 1) (by simp) (.bool y1)).set (j := 2) (by simp) (.bool y2)).set (j := 3) (by simp) (.bool y3))
     have HO9 := Lib.hid (HO5.out.kept hg9 (own_ne_bx HO5.out HNX.out))
     have HB9 := Lib.hid (HB5.out.grown hg9 HB5.out.size (fun j hj => by injection hj with hj; omega))
     have hF : ∀ {W : World}, w5.grownBy W (some bx) → W.cell? ⟨w.heap.size, i, none⟩ = some (.int .u8 v) := fun {W} hg => (World.cell?_of_block (a := ⟨w.heap.size, i, none⟩) (hg.block w.heap.size (by have := HB5.out.size; omega) (by intro e; injection e with e; omega))).trans hA0
     have HA1 := Lib.hid (hF hg1)
     have HA2 := Lib.hid (hF hg2)
     have HA9 := Lib.hid (hF hg9)
     clear hF hg1 hg2 hg9 k5
     refine uOne (i := 16) rfl (by kernel_rfl) (fun K hK => ?_)
     go_simp
     clear hA0
     have hA0 := HA1.out
     (refine hK _ _ ⟨hA0, fun _ => hB0⟩ ?_; clear hK K; (try simp only [Act.put, List.setIfInBounds_toArray, List.set_cons_zero, List.set_cons_succ]))
     (refine uA 17 ?_ rfl hA0 hB0 (fun W hA => ?_) ?_; rotate_left; (· (go_simp; try with_reducible rfl)); (try simp only [Act.put, List.setIfInBounds_toArray, List.set_cons_zero, List.set_cons_succ]))
     refine uOne (i := 18) rfl (by kernel_rfl) (fun K hK => ?_)
     go_simp
     clear hA0
     have hA0 := HA2.out
     (refine hK _ _ ⟨hA0, fun _ => hB0⟩ ?_; clear hK K; (try simp only [Act.put, List.setIfInBounds_toArray, List.set_cons_zero, List.set_cons_succ]))
     (refine uA 19 ?_ rfl hA0 hB0 (fun W hA => ?_) ?_; rotate_left; (· (go_simp; try with_reducible rfl)); (try simp only [Act.put, List.setIfInBounds_toArray, List.set_cons_zero, List.set_cons_succ]))
     refine uOne (i := 20) rfl (by kernel_rfl) (fun K hK => ?_)
     go_simp
     clear hA0
     have hA0 := HA9.out
     (refine hK _ _ ⟨hA0, fun _ => hB0⟩ ?_; clear hK K; (try simp only [Act.put, List.setIfInBounds_toArray, List.set_cons_zero, List.set_cons_succ]))
     refine anyU_done (by kernel_rfl) ?_ _
     clear hA0 f1 f2 f3 c1 c2 c3 l5
     have HY := Lib.hid (show (bits BinOp.and IntKind.u8 v 1 == 1) = y1 ∧ (bits BinOp.and IntKind.u8 v 2 == 2) = y2 ∧ (bits BinOp.and IntKind.u8 v 4 == 4) = y3 from ⟨hy1, hy2, hy3⟩)
     have HIF := Lib.hid hc
     clear hy1 hy2 hy3 hor
     go_upto_region 9 with fail
     generalize (((w5.setCell ⟨bx, 1, none⟩ (.bool y1)).setCell ⟨bx, 2, none⟩ (.bool y2)).setCell ⟨bx, 3, none⟩ (.bool y3)) = w9 at HK9 HO9 HB9 ⊢
     have g0 := HK9.out.cell (j := 0) rfl
     have g1 := HK9.out.cell (j := 1) rfl
     have g2 := HK9.out.cell (j := 2) rfl
     have g3 := HK9.out.cell (j := 3) rfl
     have g4 := HK9.out.cell (j := 4) rfl
     have hs9 := HB9.out.size
     go_wp2_with (first
      | (at_builtin; refine wpList_pushA w9 [.string (nmF i), .bool y1, .bool y2, .bool y3, .int .i64 0] rfl (.tmp 50) (.tmp 52) 35 rfl w1.heap.size 67 (.agg #[.string ByteArray.empty, .bool false, .bool false, .bool false, .int .i64 0]) 5 32 Try.underlying35 evs_info rfl (by decide) rfl (.slice A i c) i _ rfl HO9.out rfl (fun u hu => by simp at hu; rcases hu with rfl | rfl | rfl | rfl | rfl <;> rfl) (by omega) (by omega) hs9 ?_; intro A8 c8 w8 ho8 hg8 _; have HO8 := Lib.hid ho8; have HB8 := Lib.hid (HB9.out.grown hg8 hs9 (fun j hj => (HO9.out.lt j hj).1)); clear ho8 hg8)
      | fail)
     have HE8 := Lib.hid (show w8.ownsRow w1.heap.size 67 5 (.slice A8 (i + 1) c8) (i + 1) ((evF (fl.take (i + 1))).flatMap Ev.cells) by
      rw [evF_snoc HV.out, List.flatMap_append]
      have : [evO i v].flatMap Ev.cells = [.string (nmF i), .bool y1, .bool y2, .bool y3, .int .i64 0] := by
       unfold evO
       rw [if_neg HIF.out, HY.out.1, HY.out.2.1, HY.out.2.2]
       rfl
      rw [this]
      exact HO8.out)
     go_roundw
     case rel => exact ⟨i + 1, _, A8, c8, by go_num, rfl, rfl, by omega, HE8, HB8⟩
     case measure => simp [intOf]; omega
  ·obtain rfl : i = 5 := by omega
   have HO9 := Lib.hid (show wr.ownsRow w.heap.size 67 5 (.slice A 5 c) 5 ((evF fl).flatMap Ev.cells) by
    have h9 := HO.out
    rw [List.take_of_length_le (by omega)] at h9
    exact own_base h9 (by omega))
   have HB9 := Lib.hid (HB0.out.trans (HB.out.mono HB0.out.size))
   rw [← HFL.out] at HO9
   go_wp2
   go_ret
   exact ⟨A, c, rfl, HO9.out, HB9.out⟩
end Go.Proofs.Ytddhaidimadliaa

/- Walks: Make of law 41: the model of a sketch. -/
namespace Go.Proofs.Ytddhaidimadliaa
open Go.RowKit Go

/-- a sketch -/
structure S4 where
 fl : List Int
 st : Int
 g : Gr
structure S4.ok (x : S4) : Prop where
 fl : x.fl.length = 5
 fr : ∀ v ∈ x.fl, 0 ≤ v ∧ v ≤ 255
 st : 0 ≤ x.st ∧ x.st ≤ 255
 g : x.g.ok
def s4c (x : S4) : List Value := bv x.fl ++ (.int .u8 x.st :: gcells x.g)
def S4.a (x : S4) : Aut := mkG (setB x.st 5) x.g
def S4.m (x : S4) : Dm := ⟨x.a, (evF x.fl).map Ev.o, (evF x.fl).map Ev.fault⟩
theorem evO_nm (i : Nat) (v : Int) : (evO i v).nm = nmF i := by unfold evO; split <;> rfl
theorem evErr_ok {pre : List ByteArray} {i : Nat} {v : Int} (h1 : nameB (nmF i) = true) (h2 : inB pre (nmF i) = false) : evErr pre (evO i v) = 0 := by
 unfold evErr
 rw [evO_nm, h1, h2, if_neg (by simp), if_neg (by simp)]
 unfold evO
 by_cases h : 48 ≤ v ∧ v < 52
 ·rw [if_pos h]
  dsimp only
  rw [if_neg (by omega), if_neg (by simp)]
 ·rw [if_neg h]
  dsimp only
  rw [if_neg (by omega), if_neg (by simp)]
theorem evF_chk {fl : List Int} (h : fl.length = 5) : chkE (evF fl) = 0 := by
 match fl, h with
 | [f0, f1, f2, f3, f4], _ =>
  show chkE [evO 0 f0, evO 1 f1, evO 2 f2, evO 3 f3, evO 4 f4] = 0
  unfold chkE
  rw [if_neg (by simp)]
  simp only [chkG, evO_nm, List.nil_append, List.cons_append]
  rw [evErr_ok (by kernel_rfl) (by kernel_rfl), evErr_ok (by kernel_rfl) (by kernel_rfl), evErr_ok (by kernel_rfl) (by kernel_rfl), evErr_ok (by kernel_rfl) (by kernel_rfl), evErr_ok (by kernel_rfl) (by kernel_rfl)]
  simp
theorem evF_small {fl : List Int} : ∀ e ∈ evF fl, e.nm.size ≤ 9223372036854775807 := by
 intro e he
 unfold evF at he
 obtain ⟨i, hi, rfl⟩ := List.mem_mapIdx.1 he
 rw [evO_nm]
 unfold nmF
 rw [strOfNums_size]
 simp
theorem evF_len (fl : List Int) : (evF fl).length = fl.length := by unfold evF; rw [List.length_mapIdx]
theorem setB_in {x : Int} : ∀ v ∈ setB x 5, 0 ≤ v ∧ v < 5 := by
 intro v hv
 obtain ⟨i, hi, rfl, _⟩ := setB_mem.1 hv
 omega
theorem S4.wf {x : S4} (h : x.ok) : WF x.a := mkG_wf h.g (setB_inc _ _) (fun v hv => by have := setB_in v hv; omega)
theorem S4.st_le {x : S4} (h : x.ok) : 0 ≤ x.a.st ∧ x.a.st ≤ 5 := mkG_st h.g (setB_inc _ _) (fun v hv => by have := setB_in v hv; omega)
/-- what Make returns -/
structure S4.is (x : S4) (z : DV) : Prop where
 a : z.x.a = x.a
 l : z.l = evF x.fl
 n : z.nv = 5
theorem S4.is.m {x : S4} {z : DV} (h : x.is z) : z.m = x.m := by unfold DV.m S4.m; rw [h.a, h.l]
theorem S4.is.dm {x : S4} {z : DV} (h : x.is z) (hx : x.ok) : dmE z = 0 := by
 unfold dmE
 rw [h.l, evF_chk hx.fl, if_neg (by simp), h.a, (S4.wf hx).chk, if_neg (by simp), if_neg]
 rw [h.n, Bool.not_eq_true, List.any_eq_false]
 intro v hv
 have h1 : v ∈ setB x.st 5 := by unfold S4.a at hv; rwa [mkG_al] at hv
 have := setB_in v h1
 simp
 omega
def RetMk (x : S4) (w : World) (e : Ending) (w' : World) : Prop := ∃ z : DV, e = .returned (.agg (dvc z).toArray) ∧ z.ok w' w'.heap.size ∧ x.is z ∧ Below w.heap.size w w'
theorem own_capN {w : World} {base : Nat} {e : TypeId} {size n n' c : Nat} {A : Option Addr} {xs : List Value} (h : w.ownsRow base e size (.slice A n c) n' xs) : n ≤ c ∧ c ≤ 9223372036854775807 := by
 rcases h.2 with ⟨h1, h2⟩ | ⟨g, cap, cur, h1, _, _, h2, h3, _⟩
 ·injection h1 with h1 h4 h5
  omega
 ·injection h1 with h1 h4 h5
  subst h4 h5
  exact ⟨h2, by unfold maxLen at h3; omega⟩
theorem rdE_own {w : World} {base n c : Nat} {A : Option Addr} {l : List Ev} (hs : ∀ e ∈ l, e.nm.size ≤ 9223372036854775807) (h : w.ownsRow base 67 5 (.slice A n c) n (l.flatMap Ev.cells)) : RdE w w.heap.size A l := fun k e he => by
 obtain ⟨ad, e1, e2, e3⟩ := RdR.of_own (f := Ev.cells) (by omega) (fun _ _ => rfl) h k e he
 exact ⟨ad, e1, e2, hs e (List.mem_of_getElem? he), e3⟩
theorem s4_len {x : S4} (h : x.ok) : (s4c x).length = 33 := by
 unfold s4c bv gcells
 simp [h.fl, h.g.len, bv]
/-- a sketch's cells in its box -/
structure S4A (W : World) (b : Nat) (x : S4) : Prop where
 fl : W.rangeAt b 0 (bv x.fl)
 st : W.cell? ⟨b, 5, none⟩ = some (.int .u8 x.st)
 g : W.rangeAt b 6 (gcells x.g)
theorem S4A.of {W : World} {b : Nat} {t : TypeId} {x : S4} (h : Blk W b t (s4c x)) (hx : x.ok) : S4A W b x := by
 have hl : (bv x.fl).length = 5 := by unfold bv; rw [List.length_map]; exact hx.fl
 refine ⟨fun j v hv => ?_, ?_, fun j v hv => ?_⟩
 ·rw [Nat.zero_add]
  refine h.cell ?_
  unfold s4c
  rw [List.getElem?_append_left (List.getElem?_eq_some_iff.1 hv).1]; exact hv
 ·refine h.cell ?_
  unfold s4c
  rw [List.getElem?_append_right (by rw [hl]; exact Nat.le_refl _), hl]; rfl
 ·refine h.cell ?_
  unfold s4c
  rw [List.getElem?_append_right (by rw [hl]; omega), hl, show 6 + j - 5 = j + 1 by omega, List.getElem?_cons_succ]; exact hv
theorem S4A.far {W W' : World} {b b' : Nat} {x : S4} (h : S4A W b x) (hg : W.grownBy W' (some b')) (hne : b ≠ b') (hlt : b < W.heap.size) : S4A W' b x := by
 have hc : ∀ j, W'.cell? ⟨b, j, none⟩ = W.cell? ⟨b, j, none⟩ := fun j => World.cell?_of_block (a := ⟨b, j, none⟩) (hg.block b hlt (by intro e; injection e with e; exact hne e))
 exact ⟨fun j v hv => (hc _).trans (h.fl j v hv), (hc _).trans h.st, fun j v hv => (hc _).trans (h.g j v hv)⟩
theorem gcells_len {g : Gr} (h : g.ok) : (gcells g).length = 27 := by unfold gcells bv; simp [h.len]
set_option maxRecDepth 100000 in
set_option maxHeartbeats 6400000 in
theorem law_Make41 (x : S4) (w : World) (hx : x.ok) : Calls Try.prog 10 #[.agg (s4c x).toArray] w (RetMk x w) := by
 have hb1 := box_below w (.cells (s4c x).toArray 29)
 have hb2 := hb1.alloc hb1.size (.cells #[.slice none 0 0, .int .i64 0, .slice none 0 0, .slice none 0 0, .slice none 0 0] 37)
 have ks := (Blk.new w 29 (s4c x)).al (.cells #[.slice none 0 0, .int .i64 0, .slice none 0 0, .slice none 0 0, .slice none 0 0] 37)
 have kr : Blk ((w.alloc (.cells (s4c x).toArray 29)).alloc (.cells #[.slice none 0 0, .int .i64 0, .slice none 0 0, .slice none 0 0, .slice none 0 0] 37)) (w.heap.size + 1) 37 [.slice none 0 0, .int .i64 0, .slice none 0 0, .slice none 0 0, .slice none 0 0] := Blk.at_ _ _ [_, _, _, _, _] (by simp)
 obtain ⟨w2, hw2⟩ : ∃ W, W = (w.alloc (.cells (s4c x).toArray 29)).alloc (.cells #[.slice none 0 0, .int .i64 0, .slice none 0 0, .slice none 0 0, .slice none 0 0] 37) := ⟨_, rfl⟩
 rw [← hw2] at hb2 ks kr
 have HA2 := Lib.hid (fun (W : World) (hW : Below w2.heap.size w2 W) => S4A.of (ks.below hW ks.lt) hx)
 have HKR := Lib.hid kr
 have HB := Lib.hid hb2
 have HX := Lib.hid hx
 have HGL := Lib.hid (gcells_len hx.g)
 have HFL := Lib.hid (show (bv x.fl).length = 5 by unfold bv; rw [List.length_map]; exact hx.fl)
 have HSE := Lib.hid (fun (W : World) => set_Events x.st W hx.st.1 hx.st.2)
 have HEV := Lib.hid (fun (W : World) => law_EventsF x.fl W hx.fl hx.fr)
 have hl2 := kr.lt
 have HW2 := Lib.hid hw2; clear hw2
 clear hb1 hb2 ks kr hx
 go_enter Try.func10, Try.ntmps10
 go_upto_region 1 with fail
 rw [← HW2.out]
 refine wp_region_U (fun W => S4A W w.heap.size x) (fun _ => True) 10 (by kernel_rfl) ?_
 change anyU _ _ _ _ _ _ _ 11 _ _ _
 have hB0 : True := trivial
 have HBD := Lib.hid (below_dr w2)
 generalize w2.drew = wd at HBD ⊢
 have hA0 := HA2.out wd HBD.out
 (refine uA 0 ?_ rfl hA0 hB0 (fun W hA => ?_) ?_; rotate_left; (· (go_simp; try with_reducible rfl)); (try simp only [Act.put, List.setIfInBounds_toArray, List.set_cons_zero, List.set_cons_succ]))
 (refine uA 1 ?_ rfl hA0 hB0 (fun W hA => ?_) ?_; rotate_left; (· (have h0 := hA.st; go_simp; try with_reducible rfl)); (try simp only [Act.put, List.setIfInBounds_toArray, List.set_cons_zero, List.set_cons_succ]))
 (refine uA 3 ?_ rfl hA0 hB0 (fun W hA => ?_) ?_; rotate_left; (· (go_simp; try with_reducible rfl)); (try simp only [Act.put, List.setIfInBounds_toArray, List.set_cons_zero, List.set_cons_succ]))
 refine uTakeY (i := 4) (v := .agg (gcells x.g).toArray) rfl (by kernel_rfl) (fun _ _ _ h => h) ?_ ⟨hA0, fun _ => hB0⟩ ?_
 ·exact yieldsIf_load_mid (by rfl) 27 (.tmp 6) rfl w.heap.size 6 rfl (gcells x.g) _ (fun W hW => hW.g) Try.underlying27 rfl (by rw [HGL.out]; kernel_rfl)
 (try simp only [Act.put, List.setIfInBounds_toArray, List.set_cons_zero, List.set_cons_succ])
 (refine uA 6 ?_ rfl hA0 hB0 (fun W hA => ?_) ?_; rotate_left; (· (go_simp; try with_reducible rfl)); (try simp only [Act.put, List.setIfInBounds_toArray, List.set_cons_zero, List.set_cons_succ]))
 refine uTakeY (i := 7) (v := .agg (bv x.fl).toArray) rfl (by kernel_rfl) (fun _ _ _ h => h) ?_ ⟨hA0, fun _ => hB0⟩ ?_
 ·exact yieldsIf_load_mid (by rfl) 23 (.tmp 9) rfl w.heap.size 0 rfl (bv x.fl) _ (fun W hW => hW.fl) Try.underlying23 rfl (by rw [HFL.out]; kernel_rfl)
 (try simp only [Act.put, List.setIfInBounds_toArray, List.set_cons_zero, List.set_cons_succ])
 refine uOne (i := 2) rfl (by kernel_rfl) (fun K hK => ?_)
 go_simp
 go_at_call 45
 refine (HSE.out wd).mono ?_
 rintro _ w3 ⟨v3, rfl, ho3, hb3⟩
 obtain ⟨V3, c3, rfl⟩ := own_shape ho3
 have HB3 := Lib.hid (HBD.out.trans (hb3.mono HBD.out.size))
 clear hA0
 have hA0 := HA2.out w3 HB3.out
 have HMK := Lib.hid (law_Make V3 c3 (setB x.st 5).length (setB x.st 5) x.g w3 rfl (RdI.of_own ho3) (own_cap' ho3).1 (own_cap' ho3).2 HX.out.g (setB_inc _ _) (fun v hv => by have := setB_in v hv; omega))
 clear ho3 hb3
 go_simp
 (refine hK _ _ ⟨hA0, fun _ => hB0⟩ ?_; clear hK K; (try simp only [Act.put, List.setIfInBounds_toArray, List.set_cons_zero, List.set_cons_succ]))
 refine uOne (i := 5) rfl (by kernel_rfl) (fun K hK => ?_)
 go_simp
 go_at_call 44
 refine HMK.out.mono ?_
 rintro _ w4 ⟨A, na, ca, M, nm, cm, E, ne, ce, rfl, ho4, hb4⟩
 have HB4 := Lib.hid (HB3.out.trans (hb4.mono HB3.out.size))
 have HO4 := Lib.hid ho4
 clear hA0 HMK ho4 hb4
 have hA0 := HA2.out w4 HB4.out
 obtain ⟨sv, hsv⟩ : ∃ s, x.a.st = s := ⟨_, rfl⟩
 rw [show (mkG (setB x.st 5) x.g).st = sv from hsv]
 go_simp
 (refine hK _ _ ⟨hA0, fun _ => hB0⟩ ?_; clear hK K; (try simp only [Act.put, List.setIfInBounds_toArray, List.set_cons_zero, List.set_cons_succ]))
 refine uOne (i := 8) rfl (by kernel_rfl) (fun K hK => ?_)
 go_simp
 go_at_call 46
 refine (HEV.out w4).mono ?_
 rintro _ w5 ⟨V, cv, rfl, ho5, hb5⟩
 have HB5 := Lib.hid (HB4.out.trans (hb5.mono HB4.out.size))
 have HO5 := Lib.hid ho5
 have HO45 := Lib.hid (HO4.out.below hb5)
 clear hA0 ho5 hb5
 have hA0 := HA2.out w5 HB5.out
 go_simp
 (refine hK _ _ ⟨hA0, fun _ => hB0⟩ ?_; clear hK K; (try simp only [Act.put, List.setIfInBounds_toArray, List.set_cons_zero, List.set_cons_succ]))
 (refine uA 9 ?_ rfl hA0 hB0 (fun W hA => ?_) ?_; rotate_left; (· (go_simp; try with_reducible rfl)); (try simp only [Act.put, List.setIfInBounds_toArray, List.set_cons_zero, List.set_cons_succ]))
 refine uOne (i := 10) rfl (by kernel_rfl) (fun K hK => ?_)
 have kr := HKR.out.below HB5.out HKR.out.lt
 have f0 := kr.free 0
 have f1 := kr.free 1
 have f2 := kr.free 2
 have f3 := kr.free 3
 have f4 := kr.free 4
 have e0 := kr.cell (j := 0) rfl
 have e1 := kr.cell (j := 1) rfl
 have e2 := kr.cell (j := 2) rfl
 have e3 := kr.cell (j := 3) rfl
 have e4 := kr.cell (j := 4) rfl
 have l5 := kr.lt
 go_simp
 have hk9 := ((((kr.set (j := 0) (by simp) (.slice A na ca)).set (j := 1) (by simp) (.int .i64 sv)).set (j := 2) (by simp) (.slice M nm cm)).set (j := 3) (by simp) (.slice E ne ce)).set (j := 4) (by simp) (.slice V 5 cv)
 have hg9 := ((((grown_setCell w5 (w.heap.size + 1) 0 (.slice A na ca)).trans (grown_setCell _ (w.heap.size + 1) 1 (.int .i64 sv))).trans (grown_setCell _ (w.heap.size + 1) 2 (.slice M nm cm))).trans (grown_setCell _ (w.heap.size + 1) 3 (.slice E ne ce))).trans (grown_setCell _ (w.heap.size + 1) 4 (.slice V 5 cv))
 have z0 := hk9.cell (j := 0) rfl
 have z1 := hk9.cell (j := 1) rfl
 have z2 := hk9.cell (j := 2) rfl
 have z3 := hk9.cell (j := 3) rfl
 have z4 := hk9.cell (j := 4) rfl
 have HA9 := Lib.hid (hA0.far hg9 (by omega) (by omega))
 have hsz5 : w.heap.size + 1 + 1 ≤ w5.heap.size := by omega
 have hszw : w.heap.size ≤ w4.heap.size := by have := HB4.out.size; omega
 have HB9 := Lib.hid ((HB.out.trans (HB5.out.mono HB.out.size)).grown hg9 (by omega) (fun j hj => by injection hj with hj; omega))
 have HZ := Lib.hid hg9
 clear hA0 f0 f1 f2 f3 f4 e0 e1 e2 e3 e4 l5 hk9 hg9 kr
 have hA0 := HA9.out
 (refine hK _ _ ⟨hA0, fun _ => hB0⟩ ?_; clear hK K; (try simp only [Act.put, List.setIfInBounds_toArray, List.set_cons_zero, List.set_cons_succ]))
 refine anyU_done (by kernel_rfl) ?_ _
 clear hA0
 generalize ((((w5.setCell ⟨w.heap.size + 1, 0, none⟩ (.slice A na ca)).setCell ⟨w.heap.size + 1, 1, none⟩ (.int .i64 sv)).setCell ⟨w.heap.size + 1, 2, none⟩ (.slice M nm cm)).setCell ⟨w.heap.size + 1, 3, none⟩ (.slice E ne ce)).setCell ⟨w.heap.size + 1, 4, none⟩ (.slice V 5 cv) = w9 at z0 z1 z2 z3 z4 HB9 HZ ⊢
 have hfar : ∀ {base : Nat} {e : TypeId} {sz n : Nat} {v : Value} {xs : List Value}, w.heap.size + 1 + 1 ≤ base → w5.ownsRow base e sz v n xs → w9.ownsRow base e sz v n xs := fun {base e sz n v xs} hb ho => ho.kept HZ.out (.inr (fun e => by have := (ho.lt _ e).1; omega))
 have hw3 : w.heap.size + 1 + 1 ≤ w3.heap.size := by have := HB3.out.size; omega
 have hw4 : w.heap.size + 1 + 1 ≤ w4.heap.size := by have := HB4.out.size; omega
 have hxw := hfar hw3 HO45.out.oa
 have hxm := hfar hw3 HO45.out.om
 have hxe := hfar hw3 HO45.out.oe
 have hxv := hfar hw4 HO5.out
 have HDV := Lib.hid (show DV.ok w9 w9.heap.size ⟨⟨A, na, ca, M, nm, cm, E, ne, ce, x.a⟩, V, 5, cv, evF x.fl⟩ from
  ⟨⟨HO45.out.la, (own_cap' hxw).1, (own_cap' hxw).2, RdI.of_own hxw, HO45.out.lm, (own_cap' hxm).1, (own_cap' hxm).2, RdI.of_own hxm, HO45.out.le, (own_capN hxe).1, (own_capN hxe).2, RdR.of_own (by omega) (fun _ _ => rfl) hxe⟩,
   by rw [evF_len]; exact HX.out.fl, rdE_own evF_small hxv, (own_capN hxv).1, (own_capN hxv).2⟩)
 have HSV := Lib.hid hsv
 clear hfar hxw hxm hxe hxv hsv HO45 HO5 HO4
 go_wp2
 refine bodyPost_ret (v := .agg #[.slice A na ca, .int .i64 sv, .slice M nm cm, .slice E ne ce, .slice V 5 cv]) (by simp [results, Try.results10, go_sem, z0, z1, z2, z3, z4]) rfl ?_
 exact ⟨_, by unfold dvc; dsimp only; rw [HSV.out], HDV.out, ⟨rfl, rfl, rfl⟩, HB9.out⟩
end Go.Proofs.Ytddhaidimadliaa
