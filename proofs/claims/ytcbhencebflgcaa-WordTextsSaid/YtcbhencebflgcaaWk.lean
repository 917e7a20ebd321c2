/- Walks: the law's known(). -/
import Derived.Test.YtcbhencebflgcaaWj
namespace Go.Proofs.Ytcbhencebflgcaa
open Go.RowKit Go

theorem add_lit0 (b k : Nat) : ((⟨b, 0, none⟩ : Addr).add k) = ⟨b, k, none⟩ := by
  unfold Addr.add
  split
  · rename_i h; subst h; rfl
  · simp
theorem rdv_lit (w : World) (vs : List Value) (e : TypeId) : RdV (w.alloc (.cells vs.toArray e)) (w.heap.size + 1) (some ⟨w.heap.size, 0, none⟩) vs := fun k u hu => by
  refine ⟨_, rfl, by show w.heap.size < _; omega, ?_⟩
  rw [add_lit0, cell_of_row _ _ _ _ e (0, 0) (heap_alloc_new w _)]
  simpa using hu
theorem rd_lit (w : World) (l : List Int) (e : TypeId) : RdI (w.alloc (.cells (iv l).toArray e)) (w.heap.size + 1) (some ⟨w.heap.size, 0, none⟩) l := rdv_lit w (iv l) e
theorem rds_lit (w : World) (xs : List SlV) (e : TypeId) (h : ∀ s ∈ xs, s.ok w w.heap.size) : RdS (w.alloc (.cells (xs.map SlV.v).toArray e)) (w.heap.size + 1) (some ⟨w.heap.size, 0, none⟩) xs :=
  ⟨rdv_lit w _ e, fun s hs => ((h s hs).after ((Below.refl _ _).alloc (Nat.le_refl _) _) (Nat.le_refl _)).more (Nat.le_succ _)⟩

theorem two_lit (w : World) (l m : List Int) (e : TypeId) :
    RdI ((w.alloc (.cells (iv l).toArray e)).alloc (.cells (iv m).toArray e)) ((w.alloc (.cells (iv l).toArray e)).alloc (.cells (iv m).toArray e)).heap.size (some ⟨w.heap.size, 0, none⟩) l ∧
    RdI ((w.alloc (.cells (iv l).toArray e)).alloc (.cells (iv m).toArray e)) ((w.alloc (.cells (iv l).toArray e)).alloc (.cells (iv m).toArray e)).heap.size (some ⟨w.heap.size + 1, 0, none⟩) m := by
  constructor
  · exact ((rd_lit w l e).alloc (by simp) _).more (by simp)
  · have h := rd_lit (w.alloc (.cells (iv l).toArray e)) m e
    have h2 : (w.alloc (.cells (iv l).toArray e)).heap.size = w.heap.size + 1 := by simp
    rw [h2] at h
    exact h.more (by simp)
theorem four_lit (w : World) (a b c d : List Int) (e : TypeId) (W : World) (hW : W = (((w.alloc (.cells (iv a).toArray e)).alloc (.cells (iv b).toArray e)).alloc (.cells (iv c).toArray e)).alloc (.cells (iv d).toArray e)) :
    RdI W W.heap.size (some ⟨w.heap.size, 0, none⟩) a ∧ RdI W W.heap.size (some ⟨w.heap.size + 1, 0, none⟩) b ∧ RdI W W.heap.size (some ⟨w.heap.size + 2, 0, none⟩) c ∧ RdI W W.heap.size (some ⟨w.heap.size + 3, 0, none⟩) d := by
  subst hW
  obtain ⟨h1, h2⟩ := two_lit w a b e
  have h3 := two_lit ((w.alloc (.cells (iv a).toArray e)).alloc (.cells (iv b).toArray e)) c d e
  have hs : ((w.alloc (.cells (iv a).toArray e)).alloc (.cells (iv b).toArray e)).heap.size = w.heap.size + 2 := by simp
  have hb : Below ((w.alloc (.cells (iv a).toArray e)).alloc (.cells (iv b).toArray e)).heap.size ((w.alloc (.cells (iv a).toArray e)).alloc (.cells (iv b).toArray e)) ((((w.alloc (.cells (iv a).toArray e)).alloc (.cells (iv b).toArray e)).alloc (.cells (iv c).toArray e)).alloc (.cells (iv d).toArray e)) :=
    ((Below.refl _ _).alloc (Nat.le_refl _) _).alloc (by simp) _
  rw [hs] at h3
  exact ⟨(h1.below hb).more hb.size, (h2.below hb).more hb.size, h3.1, h3.2⟩

theorem shuf_known {L : List (List Int)} (h : ShufOf [0, 1] [0] L) : L = [[0, 0, 1], [0, 1, 0]] := by
  refine incW_unique h.1 ?_ fun x => ?_
  · unfold IncW
    refine List.pairwise_cons.2 ⟨fun y hy => ?_, List.pairwise_singleton _ _⟩
    simp at hy; subst hy; decide
  · rw [h.2 x]
    simp [shufN]
    constructor
    · rintro (h | h | h) <;> simp [h]
    · rintro (h | h) <;> simp [h]

set_option maxHeartbeats 1600000 in
theorem known_any (w : World) : Calls Try.prog 14 #[] w fun e w' => e = .returned (.bool true) ∧ Below w.heap.size w w' := by
  go_enter Try.func14, Try.ntmps14
  go_wp2_with fail
  obtain ⟨x1, x2⟩ := two_lit w [0, 1] [0] 3
  refine (word_Shuffles (some ⟨w.heap.size, 0, none⟩) (some ⟨w.heap.size + 1, 0, none⟩) 2 1 [0, 1] [0] _ (by exact x1) (by decide) (by decide) (by exact x2) (by decide) (by decide) (by decide)).mono ?_
  rintro e w1 ⟨L, hL, A1, c1, ys, rfl, r1, r2, r3, rfl, hb1⟩
  have hLk := Lib.hid (shuf_known hL)
  have B1 : Below w.heap.size w w1 := (((Below.refl _ _).alloc (Nat.le_refl _) _).alloc (by simp) _).trans (hb1.mono (by simp; omega))
  clear x1 x2 hL hb1
  go_wp2_with fail
  obtain ⟨x1, x2, x3, x4⟩ := four_lit w1 [0, 2] [0, 2] [1, 2] [1, 2] 3 _ rfl
  have hmy := match_yes (some ⟨w1.heap.size, 0, none⟩) (some ⟨w1.heap.size + 2, 0, none⟩) (some ⟨w1.heap.size + 1, 0, none⟩) (some ⟨w1.heap.size + 3, 0, none⟩) 2 2 2 2 [0, 2] [1, 2] [0, 2] [1, 2] _ (by exact x1) (by decide) (by decide) (by exact x3) (by decide) (by decide) (by exact x2) (by decide) (by decide) (by exact x4) (by decide) (by decide) (by decide) (by decide) (by decide) (by decide) (by decide) (by decide) (by unfold Inc; decide) (by unfold Inc; decide) (by decide)
  rw [show matW [0, 2] [1, 2] [0, 2] [1, 2] = [0, 1, 2] from by decide] at hmy
  refine hmy.mono ?_
  rintro e w2 ⟨A2, c2, rfl, s1, s2, s3, hb2⟩
  have B2' : Below w1.heap.size w1 w2 := ((((((Below.refl _ _).alloc (Nat.le_refl _) _).alloc (by simp) _).alloc (by simp; omega) _).alloc (by simp; omega) _)).trans (hb2.mono (by simp; omega))
  have B2 : Below w.heap.size w w2 := B1.trans (B2'.mono B1.size)
  have r1' := (r1.below B2').more B2'.size
  have z2 := B2.size
  clear x1 x2 x3 x4 hb2 hmy B1 r1
  go_wp2_with fail
  obtain ⟨x1, x2⟩ := two_lit w2 [0, 0, 1] [0, 1, 0] 3
  have x3 := rds_lit _ [⟨some ⟨w2.heap.size, 0, none⟩, 3, [0, 0, 1]⟩, ⟨some ⟨w2.heap.size + 1, 0, none⟩, 3, [0, 1, 0]⟩] 22 (fun s hs => by
    simp only [List.mem_cons, List.not_mem_nil, or_false] at hs
    rcases hs with rfl | rfl
    · exact ⟨x1, by simp, by simp⟩
    · exact ⟨x2, by simp, by simp⟩)
  have hz3 : ((w2.alloc (.cells (iv [0, 0, 1]).toArray 3)).alloc (.cells (iv [0, 1, 0]).toArray 3)).heap.size = w2.heap.size + 1 + 1 := by simp
  rw [hz3] at x3
  have Bv : Below w2.heap.size w2 (((w2.alloc (.cells (iv [0, 0, 1]).toArray 3)).alloc (.cells (iv [0, 1, 0]).toArray 3)).alloc (.cells #[.slice (some ⟨w2.heap.size, 0, none⟩) 3 3, .slice (some ⟨w2.heap.size + 1, 0, none⟩) 3 3] 22)) := (((Below.refl _ _).alloc (Nat.le_refl _) _).alloc (by simp) _).alloc (by simp; omega) _
  have hsa := law_sameAll A1 (some ⟨w2.heap.size + 1 + 1, 0, none⟩) c1 2 ys [⟨some ⟨w2.heap.size, 0, none⟩, 3, [0, 0, 1]⟩, ⟨some ⟨w2.heap.size + 1, 0, none⟩, 3, [0, 1, 0]⟩] _ ((r1'.after Bv (Nat.le_refl _)).more Bv.size) r2 r3 (x3.more (by simp))
  rw [hLk.out, show sameB [[0, 0, 1], [0, 1, 0]] ([⟨some ⟨w2.heap.size, 0, none⟩, 3, [0, 0, 1]⟩, ⟨some ⟨w2.heap.size + 1, 0, none⟩, 3, [0, 1, 0]⟩].map SlV.l) = true from sameB_of rfl] at hsa
  refine hsa.mono ?_
  rintro e w3 ⟨rfl, hd3⟩
  have B3' : Below w2.heap.size w2 w3 := by obtain ⟨n3, rfl⟩ := hd3; exact below_drewN Bv _
  have B3 : Below w.heap.size w w3 := B2.trans (B3'.mono z2)
  have s3' := (s3.below B3').more B3'.size
  have z3 := B3.size
  clear hsa x1 x2 x3 hz3 r1' B2' hd3 B3' s3 Bv B2
  go_wp2_with fail
  have Bv : Below w3.heap.size w3 (w3.alloc (.cells (iv [0, 1, 2]).toArray 3)) := (Below.refl _ _).alloc (Nat.le_refl _) _
  have hcs := law_same A2 (some ⟨w3.heap.size, 0, none⟩) c2 3 [0, 1, 2] [0, 1, 2] _ ((s3'.below Bv).more Bv.size) s1 s2 ((rd_lit w3 [0, 1, 2] 3).more (by simp))
  rw [show eqB [0, 1, 2] [0, 1, 2] = true from eqB_of rfl] at hcs
  refine hcs.mono ?_
  rintro e w4 ⟨rfl, hd4⟩
  have B4' : Below w3.heap.size w3 w4 := by obtain ⟨n3, rfl⟩ := hd4; exact below_drewN Bv _
  have B4 : Below w.heap.size w w4 := B3.trans (B4'.mono z3)
  have z4 := B4.size
  clear hcs hd4 B4' Bv B3 s3'
  go_wp2_with fail
  obtain ⟨x1, x2⟩ := two_lit w4 [0, 2, 1, 2] [1, 2] 3
  have Bv : Below w4.heap.size w4 ((w4.alloc (.cells (iv [0, 2, 1, 2]).toArray 3)).alloc (.cells (iv [1, 2]).toArray 3)) := ((Below.refl _ _).alloc (Nat.le_refl _) _).alloc (by simp) _
  have hpj := word_Project (some ⟨w4.heap.size, 0, none⟩) (some ⟨w4.heap.size + 1, 0, none⟩) 4 2 [0, 2, 1, 2] [1, 2] _ x1 (by decide) x2 (by decide) (by unfold Inc; decide)
  rw [show projW [0, 2, 1, 2] [1, 2] = [2, 1, 2] from by decide] at hpj
  refine hpj.mono ?_
  rintro e w5 ⟨A5, c5, rfl, k1, k2, k3, hb5⟩
  have B5 : Below w.heap.size w w5 := B4.trans ((Bv.trans (hb5.mono Bv.size)).mono z4)
  have z5 := B5.size
  clear hpj x1 x2 Bv hb5 B4
  go_wp2_with fail
  have Bv : Below w5.heap.size w5 (w5.alloc (.cells (iv [2, 1, 2]).toArray 3)) := (Below.refl _ _).alloc (Nat.le_refl _) _
  have hcs := law_same A5 (some ⟨w5.heap.size, 0, none⟩) c5 3 [2, 1, 2] [2, 1, 2] _ ((k3.below Bv).more Bv.size) k1 k2 ((rd_lit w5 [2, 1, 2] 3).more (by simp))
  rw [show eqB [2, 1, 2] [2, 1, 2] = true from eqB_of rfl] at hcs
  refine hcs.mono ?_
  rintro e w6 ⟨rfl, hd6⟩
  have B6' : Below w5.heap.size w5 w6 := by obtain ⟨n3, rfl⟩ := hd6; exact below_drewN Bv _
  have B6 : Below w.heap.size w w6 := B5.trans (B6'.mono z5)
  have z6 := B6.size
  clear hcs hd6 B6' Bv B5 k3
  go_wp2_with fail
  obtain ⟨x1, x2⟩ := two_lit w6 [1] [0, 0] 3
  have Bv : Below w6.heap.size w6 ((w6.alloc (.cells (iv [1]).toArray 3)).alloc (.cells (iv [0, 0]).toArray 3)) := ((Below.refl _ _).alloc (Nat.le_refl _) _).alloc (by simp) _
  have hco := word_Compare (some ⟨w6.heap.size, 0, none⟩) (some ⟨w6.heap.size + 1, 0, none⟩) 1 2 [1] [0, 0] _ x1 (by decide) x2
  rw [show cmpW [1] [0, 0] = -1 from by decide] at hco
  refine hco.mono ?_
  rintro e w7 ⟨rfl, hb7⟩
  have B7 : Below w.heap.size w w7 := B6.trans ((Bv.trans (hb7.mono Bv.size)).mono z6)
  clear hco x1 x2 Bv hb7 B6
  go_wp2
  go_ret
  exact ⟨rfl, B7⟩
end Go.Proofs.Ytcbhencebflgcaa
