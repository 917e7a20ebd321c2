/- Walks: the law's step, all, ends; diagnosability.words. Printed by wip/mkjf.py. -/
import Derived.Test.YtddhaidimadliaaJe
import Derived.Test.YtddhaidimadliaaUm
import Derived.Deep.Cut
namespace Go.Proofs.Ytddhaidimadliaa
open Go.RowKit Go

set_option maxRecDepth 100000 in
set_option maxHeartbeats 1600000 in
theorem law_step (A : Option Addr) (na ca : Nat) (M : Option Addr) (nm cm : Nat) (E : Option Addr) (ne ce : Nat) (a : Aut) (s v : Int) (w : World) (h : AutR w w.heap.size A na ca M nm cm E ne ce a) :
  Calls Try.prog 32 #[.agg #[.slice A na ca, .int .i64 a.st, .slice M nm cm, .slice E ne ce], .int .i64 s, .int .i64 v] w fun e w' => e = .returned (.int .i64 (nxt a s v)) ∧ Below w.heap.size w w' := by
 have hB0 := box_below w (.cells #[.slice A na ca, .int .i64 a.st, .slice M nm cm, .slice E ne ce] 34)
 have hE := (h.re.below hB0).more hB0.size
 have k0 : Blk (w.alloc (.cells #[.slice A na ca, .int .i64 a.st, .slice M nm cm, .slice E ne ce] 34)) w.heap.size 34 [.slice A na ca, .int .i64 a.st, .slice M nm cm, .slice E ne ce] := Blk.new _ _ [_, _, _, _]
 have hle := h.le
 have hec := h.ec
 have hcE := h.cE
 obtain ⟨r, hr⟩ : ∃ r, nxt a s v = r := ⟨_, rfl⟩
 rw [hr]
 have HR := Lib.hid (show r = nxtE s v (a.ed.drop 0) from hr.symm)
 have HLE := Lib.hid hle; clear hle
 clear hr h
 go_enter Try.func32, Try.ntmps32
 go_upto_region 1 with fail
 generalize w.alloc (.cells #[.slice A na ca, .int .i64 a.st, .slice M nm cm, .slice E ne ce] 34) = w1 at hB0 hE k0 ⊢
 have c3 := k0.cell (j := 3) rfl
 have HB0 := Lib.hid hB0
 have HE := Lib.hid hE
 have HS0 := Lib.hid (Below.refl w1.heap.size w1)
 clear hB0 hE k0
 go_wp2
 clear c3
 go_loopw [8, 12] (fun s8 s12 wr => ∃ (k : Nat) (v8 : Value), s8 = v8 ∧ s12 = .int .i64 k ∧ k ≤ ne ∧ Hid (r = nxtE s v (a.ed.drop k)) ∧ Hid (Below w1.heap.size w1 wr)) (fun _ s12 _ => ne - (intOf s12).toNat)
 case atStart => exact ⟨0, _, rfl, rfl, Nat.zero_le _, HR, HS0⟩
 case round =>
  obtain ⟨k, v8, rfl, rfl, hk, HX, HB⟩ := hrel
  clear HR HS0
  by_cases hlt : k < ne
  ·obtain ⟨ad, x, rfl, hbb, hx, q0, q1, q2⟩ := (HE.out.below HB.out).at_ (k := k) (by have := HLE.out; omega)
   have b1 : (k : Int) < (ne : Int) := by omega
   have p1 := st_cells (j := 0) q1
   have p2 := st_cells (j := 1) q2
   clear q1 q2 hbb
   simp only [Nat.zero_add, Nat.reduceAdd] at p1 p2
   have HGX := Lib.hid hx; clear hx
   have HN := Lib.hid (HB.out.alloc HB.out.size (.cells #[.int .i64 x.f, .int .i64 x.e, .int .i64 x.t] 106))
   have HF := Lib.hid (HB0.out.trans (HN.out.mono HB0.out.size))
   by_cases c1 : x.f = s
   ·have d1 : (x.f == s) = true := by simpa using c1
    by_cases c2 : x.e = v
    ·have d2 : (x.e == v) = true := by simpa using c2
     have HQ := Lib.hid (show r = x.t by rw [HX.out, nxtE_hit HGX.out c1 c2])
     clear c1 c2
     go_wp2
     go_ret
     exact ⟨ret_int HQ.out.symm, HF.out⟩
    ·have d2 : (x.e == v) = false := by simpa using c2
     have HQ := Lib.hid (show r = nxtE s v (a.ed.drop (k + 1)) by rw [HX.out, nxtE_go HGX.out (fun e => c2 e.2)])
     clear c1 c2
     go_wp2
     go_roundw
     case rel => exact ⟨k + 1, _, rfl, by go_num, by omega, HQ, HN⟩
     case measure => simp [intOf]; omega
   ·have d1 : (x.f == s) = false := by simpa using c1
    have HQ := Lib.hid (show r = nxtE s v (a.ed.drop (k + 1)) by rw [HX.out, nxtE_go HGX.out (fun e => c1 e.1)])
    clear c1
    go_wp2
    go_roundw
    case rel => exact ⟨k + 1, _, rfl, by go_num, by omega, HQ, HN⟩
    case measure => simp [intOf]; omega
  ·have hf : r = -1 := by rw [HX.out, nxtE_end (by have := HLE.out; omega)]
   have HF := Lib.hid hf; clear hf
   have HG := Lib.hid (HB0.out.trans (HB.out.mono HB0.out.size))
   go_wp2
   go_ret
   exact ⟨ret_int HF.out.symm, HG.out⟩

/-- a move's cells -/
def mvc (x : Ed) : List Value := [.int .i64 x.f, .int .i64 (x.e / 3), .int .i64 (x.e % 3), .int .i64 x.t]
theorem fst1_at {l : List Ed} {k : Nat} {x : Ed} (h : l[k]? = some x) : fst1 ((l.take (k + 1)).map Ed.e) = fst1 ((l.take k).map Ed.e) ++ (if x.e % 3 = 2 then [] else [x.e / 3]) := by
 rw [take_snoc' h, List.map_append, fst1_app]
 congr 1
 show fst1 [x.e] = _
 rw [fst1_cons]
 simp [fst1]
theorem snd1_at {l : List Ed} {k : Nat} {x : Ed} (h : l[k]? = some x) : snd1 ((l.take (k + 1)).map Ed.e) = snd1 ((l.take k).map Ed.e) ++ (if x.e % 3 = 1 then [] else [x.e / 3]) := by
 rw [take_snoc' h, List.map_append, snd1_app]
 congr 1
 show snd1 [x.e] = _
 rw [snd1_cons]
 simp [snd1]
/-- two lists -/
def Ret2L (a b : List Int) (w : World) (e : Ending) (w' : World) : Prop := ∃ u v, e = .returned (.tuple #[u, v]) ∧ w'.ownsRow w.heap.size 3 1 u a.length (iv a) ∧ w'.ownsRow w.heap.size 3 1 v b.length (iv b) ∧ Below w.heap.size w w'
set_option maxRecDepth 100000 in
set_option maxHeartbeats 1600000 in
theorem dm_words (A : Option Addr) (c n : Nat) (l : List Ed) (w : World) (hl : l.length = n) (h : RdR 4 mvc w w.heap.size A l) (hn : n ≤ 1000000) :
  Calls Try.prog 85 #[.slice A n c] w (Ret2L (fst1 (l.map Ed.e)) (snd1 (l.map Ed.e)) w) := by
 have HH := Lib.hid (fun (W : World) (hb : Below w.heap.size w W) => h.below hb)
 have HL := Lib.hid hl; clear hl
 clear h
 have HT0 := Lib.hid (TwoR.start w)
 go_enter Try.func85, Try.ntmps85
 go_wp2
 go_loopw [2, 3, 5, 8] (fun s2 s3 s5 s8 wr => ∃ (k m1 m2 : Nat) (A1 A2 : Option Addr) (c1 c2 : Nat) (v5 : Value), s2 = .slice A1 m1 c1 ∧ s3 = .slice A2 m2 c2 ∧ s8 = .int .i64 k ∧ s5 = v5 ∧ k ≤ n ∧ m1 ≤ k ∧ m2 ≤ k ∧ Hid (TwoR w.heap.size w wr (.slice A1 m1 c1) (.slice A2 m2 c2) m1 m2 (fst1 ((l.take k).map Ed.e)) (snd1 ((l.take k).map Ed.e)))) (fun _ _ _ s8 _ => n - (intOf s8).toNat)
 case atStart => exact ⟨0, 0, 0, none, none, 0, 0, _, rfl, rfl, rfl, rfl, Nat.zero_le _, Nat.le_refl _, Nat.le_refl _, HT0⟩
 case round =>
  clear HT0
  obtain ⟨k, m1, m2, A1, A2, c1, c2, v5, rfl, rfl, rfl, rfl, hk, h1k, h2k, HT⟩ := hrel
  by_cases hlt : k < n
  ·obtain ⟨x, hx⟩ : ∃ x, l[k]? = some x := ⟨_, List.getElem?_eq_getElem (by have := HL.out; omega)⟩
   obtain ⟨ad, rfl, hab, hcl⟩ := HH.out wr HT.out.bel k x hx
   have F1 := Lib.hid (fst1_at hx)
   have F2 := Lib.hid (snd1_at hx)
   obtain ⟨ev, hev⟩ : ∃ z, x.e / 3 = z := ⟨_, rfl⟩
   obtain ⟨sd, hsd⟩ : ∃ z, x.e % 3 = z := ⟨_, rfl⟩
   have q0 : wr.cell? (ad.add (k * 4)) = some (.int .i64 x.f) := hcl 0 _ rfl
   have q1 : wr.cell? (ad.add (k * 4 + 1)) = some (.int .i64 ev) := by rw [← hev]; exact hcl 1 _ rfl
   have q2 : wr.cell? (ad.add (k * 4 + 2)) = some (.int .i64 sd) := by rw [← hsd]; exact hcl 2 _ rfl
   have q3 : wr.cell? (ad.add (k * 4 + 3)) = some (.int .i64 x.t) := hcl 3 _ rfl
   rw [hev, hsd] at F1 F2
   have p1 : wr.cell? ⟨(ad.add (k * 4)).block, (ad.add (k * 4)).off + 1, none⟩ = some (.int .i64 ev) := ev_cells (j := 0) q1
   have p2 : wr.cell? ⟨(ad.add (k * 4)).block, (ad.add (k * 4)).off + 2, none⟩ = some (.int .i64 sd) := ev_cells (j := 1) q2
   have p3 : wr.cell? ⟨(ad.add (k * 4)).block, (ad.add (k * 4)).off + 3, none⟩ = some (.int .i64 x.t) := ev_cells (j := 2) q3
   have b1 : (k : Int) < (n : Int) := by omega
   have hbx := box_below wr (.cells #[.int .i64 x.f, .int .i64 ev, .int .i64 sd, .int .i64 x.t] 62)
   have HTX := Lib.hid (HT.out.quiet hbx)
   have hsx : wr.heap.size < (wr.alloc (.cells #[.int .i64 x.f, .int .i64 ev, .int .i64 sd, .int .i64 x.t] 62)).heap.size := by simp
   have kx : Blk (wr.alloc (.cells #[.int .i64 x.f, .int .i64 ev, .int .i64 sd, .int .i64 x.t] 62)) wr.heap.size 62 [.int .i64 x.f, .int .i64 ev, .int .i64 sd, .int .i64 x.t] := Blk.new _ _ [_, _, _, _]
   have HSX := Lib.hid hsx
   clear hsx hev hsd hbx
   go_upto_region 4 with fail
   obtain ⟨b4, hb4⟩ : ∃ b, wr.heap.size = b := ⟨_, rfl⟩
   rw [hb4] at kx ⊢
   generalize wr.alloc (.cells #[.int .i64 x.f, .int .i64 ev, .int .i64 sd, .int .i64 x.t] 62) = w4 at HTX kx HSX ⊢
   have g1 := kx.cell (j := 1) rfl
   have g2 := kx.cell (j := 2) rfl
   clear hb4 q0 q1 q2 q3 p1 p2 p3 HSX
   by_cases e2 : sd = 2
   ·have n2 : (sd != 2) = false := by simp [e2]
    have n1 : (sd != 1) = true := by simp [e2]
    rw [if_pos e2, List.append_nil] at F1
    rw [if_neg (by omega)] at F2
    clear e2
    go_wp2_with (first | (at_builtin; refine wpList_pushA w4 [.int .i64 ev] rfl (.tmp 23) (.tmp 26) 31 rfl w.heap.size 3 (.int .i64 0) 1 8 Try.underlying31 int_info rfl (by decide) rfl (.slice A2 m2 c2) m2 _ rfl HTX.out.o2 rfl (fun z hz => by simp at hz; subst hz; rfl) (by omega) (by omega) HTX.out.siz ?_; intro A8 c8 w8 ho8 hg8 hl8; have HT8 := Lib.hid ((HTX.out.swap.push ho8 hg8 hl8).swap); clear ho8 hg8 hl8) | fail)
    go_roundw
    case rel => exact ⟨k + 1, m1, m2 + 1, A1, A8, c1, c8, _, rfl, rfl, by go_num, rfl, by omega, by omega, by omega, Lib.hid (by rw [F1.out, F2.out]; exact HT8.out)⟩
    case measure => simp [intOf]; omega
   ·have n2 : (sd != 2) = true := by simpa using e2
    rw [if_neg e2] at F1
    by_cases e1 : sd = 1
    ·have n1 : (sd != 1) = false := by simp [e1]
     rw [if_pos e1, List.append_nil] at F2
     clear e1 e2
     go_wp2_with (first | (at_builtin; refine wpList_pushA w4 [.int .i64 ev] rfl (.tmp 15) (.tmp 18) 31 rfl w.heap.size 3 (.int .i64 0) 1 8 Try.underlying31 int_info rfl (by decide) rfl (.slice A1 m1 c1) m1 _ rfl HTX.out.o1 rfl (fun z hz => by simp at hz; subst hz; rfl) (by omega) (by omega) HTX.out.siz ?_; intro A7 c7 w7 ho7 hg7 hl7; have HT7 := Lib.hid (HTX.out.push ho7 hg7 hl7); have k7 := kx.kept hg7 (blk_ne_own HTX.out.o1 kx (by decide)); have d1 := k7.cell (j := 1) rfl; have d2 := k7.cell (j := 2) rfl; clear ho7 hg7 hl7 k7) | fail)
     go_roundw
     case rel => exact ⟨k + 1, m1 + 1, m2, A7, A2, c7, c2, _, rfl, rfl, by go_num, rfl, by omega, by omega, by omega, Lib.hid (by rw [F1.out, F2.out]; exact HT7.out)⟩
     case measure => simp [intOf]; omega
    ·have n1 : (sd != 1) = true := by simpa using e1
     rw [if_neg e1] at F2
     clear e1 e2
     go_wp2_with (first | (at_builtin; refine wpList_pushA w4 [.int .i64 ev] rfl (.tmp 15) (.tmp 18) 31 rfl w.heap.size 3 (.int .i64 0) 1 8 Try.underlying31 int_info rfl (by decide) rfl (.slice A1 m1 c1) m1 _ rfl HTX.out.o1 rfl (fun z hz => by simp at hz; subst hz; rfl) (by omega) (by omega) HTX.out.siz ?_; intro A7 c7 w7 ho7 hg7 hl7; have HT7 := Lib.hid (HTX.out.push ho7 hg7 hl7); have k7 := kx.kept hg7 (blk_ne_own HTX.out.o1 kx (by decide)); have d1 := k7.cell (j := 1) rfl; have d2 := k7.cell (j := 2) rfl; clear ho7 hg7 hl7 k7) | (at_builtin; refine wpList_pushA w7 [.int .i64 ev] rfl (.tmp 23) (.tmp 26) 31 rfl w.heap.size 3 (.int .i64 0) 1 8 Try.underlying31 int_info rfl (by decide) rfl (.slice A2 m2 c2) m2 _ rfl HT7.out.o2 rfl (fun z hz => by simp at hz; subst hz; rfl) (by omega) (by omega) HT7.out.siz ?_; intro A8 c8 w8 ho8 hg8 hl8; have HT8 := Lib.hid ((HT7.out.swap.push ho8 hg8 hl8).swap); clear ho8 hg8 hl8) | fail)
     go_roundw
     case rel => exact ⟨k + 1, m1 + 1, m2 + 1, A7, A8, c7, c8, _, rfl, rfl, by go_num, rfl, by omega, by omega, by omega, Lib.hid (by rw [F1.out, F2.out]; exact HT8.out)⟩
     case measure => simp [intOf]; omega
  ·obtain rfl : k = n := by omega
   have b1 : ¬ (k : Int) < (k : Int) := by omega
   have hta : l.take k = l := List.take_of_length_le (by rw [HL.out]; exact Nat.le_refl _)
   rw [hta] at HT
   have HF := Lib.hid (show wr.ownsRow w.heap.size 3 1 (.slice A1 m1 c1) (fst1 (l.map Ed.e)).length (iv (fst1 (l.map Ed.e))) ∧ wr.ownsRow w.heap.size 3 1 (.slice A2 m2 c2) (snd1 (l.map Ed.e)).length (iv (snd1 (l.map Ed.e))) ∧ Below w.heap.size w wr from ⟨by rw [HT.out.e1]; exact HT.out.o1, by rw [HT.out.e2]; exact HT.out.o2, HT.out.bel⟩)
   clear hta
   go_wp2
   refine bodyPost_ret (v := .tuple #[.slice A1 m1 c1, .slice A2 m2 c2]) (by simp [results, Try.results85, go_sem]) rfl ?_
   exact ⟨_, _, rfl, HF.out⟩
end Go.Proofs.Ytddhaidimadliaa
