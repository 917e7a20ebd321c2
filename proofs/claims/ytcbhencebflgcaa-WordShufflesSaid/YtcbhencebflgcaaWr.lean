/- Walks: the reference's Behind, Put and Shuffles. -/
import Derived.Test.YtcbhencebflgcaaWp
import Derived.Test.YtcbhencebflgcaaPs
import Derived.Deep.RegionHeld3
namespace Go.Proofs.Ytcbhencebflgcaa
open Go.RowKit Go

/-- a slice of n ints, a slice of n words, that a call made -/
def RetK (l : List Int) (n : Nat) (w : World) (e : Ending) (w' : World) : Prop :=
  ∃ A c, e = .returned (.slice A n c) ∧ l.length = n ∧ n ≤ c ∧ c ≤ 9223372036854775807 ∧ RdI w' w'.heap.size A l ∧ Below w.heap.size w w'
def RetP (L : List (List Int)) (w : World) (e : Ending) (w' : World) : Prop :=
  ∃ (A : Option Addr) (c n : Nat) (ys : List SlV), e = .returned (.slice A n c) ∧ ys.length = n ∧ n ≤ c ∧ c ≤ 9223372036854775807 ∧ RdS w' w'.heap.size A ys ∧ ys.map SlV.l = L ∧ Below w.heap.size w w'
theorem SlV.ok.one {s : SlV} : s.v.oneCell' = true := rfl
theorem svs_one (xs : List SlV) : ∀ u ∈ xs.map SlV.v, u.oneCell' = true := fun u hu => by
  obtain ⟨s, _, rfl⟩ := List.mem_map.1 hu
  rfl
/-- l[k:] -/
theorem slice_from {P : Program} (t e : TypeId) (ht : P.underlying t = some (.slice e)) (hinfo : (P.info? e).map (fun i => i.size) = some 1) (w0 : World) (B : Nat) (A : Option Addr) (vs : List Value) (n c k : Nat) (hl : vs.length = n) (h1 : k ≤ n) (hc : n ≤ c)
    (h : RdV w0 B A vs) : ∃ A', (∀ W, (Instr.slice t (.slice A n c) (some (.int .i64 (k : Int))) none none).run P W = .ok (.slice A' (n - k) (c - k)) W) ∧ RdV w0 B A' (vs.drop k) := by
  refine ⟨if c = k then A else A.map (·.add k), fun W => ?_, h.cut (by omega)⟩
  obtain ⟨i, hi, hs⟩ := Option.map_eq_some_iff.1 hinfo
  have he : P.elem t = e := by simp [Program.elem, ht]
  have hsz : ∀ W, (sizeOf (P.elem t)).run P W = .ok 1 W := fun W => by rw [he]; simp [sizeOf, typeInfo, hi, hs]
  rw [run_slice_l W t A n c (by rw [he]; exact ht) IntKind.i64 (k : Int) (by omega) (by omega), hsz]
  simp [Result.andThen, sliced]

set_option maxHeartbeats 800000 in
theorem ref_Behind (A : Option Addr) (c n : Nat) (l : List Int) (x : Int) (w : World) (hl : l.length = n) (ha : RdI w w.heap.size A l) (hn : n ≤ 1000000) :
    Calls Try.prog 61 #[.slice A n c, .int .i64 x] w (RetK (l ++ [x]) (n + 1) w) := by
  have hiv : (iv l).length = n := by rw [iv_length]; exact hl
  have HL := Lib.hid hl; clear hl
  have HIV := Lib.hid hiv; clear hiv
  go_enter Try.func61, Try.ntmps61
  go_wp2_with (first
    | (at_builtin; refine wpList_app _ rfl (.tmp 5) (.tmp 6) 22 rfl w.heap.size 3 (.int .i64 0) 8 Try.underlying22 int_info rfl (.slice (some ⟨w.heap.size, 0, none⟩) 0 0) 0 _ rfl (World.ownsRow_lit w #[] 0 (Nat.le_refl _) (by unfold maxLen; omega) rfl) w.heap.size A n c (iv l) HIV.out rfl (RdV.alloc ha (Nat.le_refl _) _) (iv_one l) (by omega) (by omega) (by simp) ?_; intro v1 w1 ho1 hg1 hb1 hn1)
    | (at_builtin; refine wpList_push w1 (.int .i64 x) rfl (.tmp 7) (.tmp 9) 22 rfl w.heap.size 3 (.int .i64 0) 8 Try.underlying22 int_info rfl v1 (0 + n) _ rfl ho1 rfl rfl (by omega) (by omega) (by have := hb1.size; simp at this; omega) ?_; intro v2 w2 ho2 hg2 hb2))
  go_ret
  have ho : w2.ownsRow w.heap.size 3 1 v2 (l ++ [x]).length (iv (l ++ [x])) := by
    rw [iv_append, List.length_append, HL.out]
    have h := ho2
    simp only [Nat.zero_add] at h
    exact h
  obtain ⟨A2, c2, rfl, g1, g2, r2⟩ := own_slI ho
  have hlen : (l ++ [x]).length = n + 1 := by rw [List.length_append, HL.out]; rfl
  rw [hlen] at g1 ⊢
  exact ⟨A2, c2, rfl, hlen, g1, g2, r2, (((Below.refl _ _).alloc (Nat.le_refl _) _).trans hb1).trans hb2⟩

theorem put_end {L : List (List Int)} {v : List Int} {k : Nat} (h : putL L v = L.take k ++ putL (L.drop k) v) (h2 : putL (L.drop k) v = v :: L.drop k) : putL L v = L.take k ++ (v :: L.drop k) := by rw [h, h2]


set_option maxRecDepth 100000 in
set_option maxHeartbeats 3200000 in
theorem ref_Put (A V : Option Addr) (c cv n nv : Nat) (xs : List SlV) (v : List Int) (w : World) (hx : xs.length = n) (hv : v.length = nv) (h : RdS w w.heap.size A xs) (hn : n ≤ c) (hc : c ≤ 9223372036854775807) (hn2 : n ≤ 1000000)
    (hrv : RdI w w.heap.size V v) (hv1 : nv ≤ cv) (hv2 : cv ≤ 9223372036854775807) :
    Calls Try.prog 60 #[.slice A n c, .slice V nv cv] w (RetP (putL (xs.map SlV.l) v) w) := by
  have HX := Lib.hid hx; clear hx
  have HV := Lib.hid hv; clear hv
  go_enter Try.func60, Try.ntmps60
  go_wp2
  go_loopw [5] (fun i wr => ∃ k : Nat, k ≤ n ∧ i = .int .i64 k ∧ Hid (putL (xs.map SlV.l) v = (xs.map SlV.l).take k ++ putL ((xs.map SlV.l).drop k) v) ∧ ∃ m, wr = w.drewN m) (fun i _ => n - (intOf i).toNat)
  case atStart => exact ⟨0, Nat.zero_le _, rfl, Lib.hid (by simp), (by first | exact dr00 _ | exact dr0 _ _ | exact dr1 _ _ _ | exact dr2 _ _ _ _ | exact dr3 _ _ _ _ _)⟩
  case round =>
    obtain ⟨k, hk, rfl, HP, m, rfl⟩ := hrel
    by_cases hlt : k < n
    · obtain ⟨ad, s, rfl, _, hs, hcs, rs, gs1, gs2⟩ := h.at_ (k := k) (by have := HX.out; omega)
      have hsl : (xs.map SlV.l)[k]? = some s.l := by rw [List.getElem?_map, hs]; rfl
      generalize hns : s.l.length = ns at *
      generalize hz : cmpW s.l v = z
      have b1 : (k : Int) < (n : Int) := by omega
      have HNS := Lib.hid hns; clear hns
      have HZ := Lib.hid hz; clear hz
      have HSL := Lib.hid hsl; clear hsl
      clear hs
      by_cases hz0 : z < 0
      · go_wp2_with fail
        refine (ref_Compare_n s.A V s.c cv ns nv s.l v z _ HNS.out HV.out HZ.out (by exact rs) gs1 gs2 (by exact hrv)).mono ?_
        rintro e w' ⟨rfl, q, rfl⟩
        go_wp2
        go_roundw
        case rel => exact ⟨k + 1, by omega, by go_num, Lib.hid (by rw [HP.out, putL_less HSL.out (by rw [HZ.out]; exact hz0), take_snoc' HSL.out, List.append_assoc]; rfl), (by first | exact dr00 _ | exact dr0 _ _ | exact dr1 _ _ _ | exact dr2 _ _ _ _ | exact dr3 _ _ _ _ _)⟩
        case measure => simp [intOf]; omega
      · by_cases hz1 : z = 0
        · subst hz1
          have hfin := HP.out
          rw [putL_same HSL.out HZ.out, List.take_append_drop] at hfin
          have HF := Lib.hid hfin; clear hfin
          go_wp2_with fail
          refine (ref_Compare_n s.A V s.c cv ns nv s.l v 0 _ HNS.out HV.out HZ.out (by exact rs) gs1 gs2 (by exact hrv)).mono ?_
          rintro e w' ⟨rfl, q, rfl⟩
          go_wp2_with fail
          refine (ref_Compare_n s.A V s.c cv ns nv s.l v 0 _ HNS.out HV.out HZ.out (by exact rs) gs1 gs2 (by exact hrv)).mono ?_
          rintro e w' ⟨rfl, q2, rfl⟩
          go_wp2
          go_ret
          exact ⟨some ad, c, n, xs, rfl, HX.out, hn, hc, ⟨h.1, h.2⟩, HF.out.symm, by first | exact below_drewN (Below.refl _ _) _ | exact Below.refl _ _⟩
        · have hz2 : (z == 0) = false := by simpa using hz1
          have HP2 := Lib.hid (putL_more HSL.out (by rw [HZ.out]; exact hz0) (by rw [HZ.out]; exact hz1))
          go_wp2_with fail
          refine (ref_Compare_n s.A V s.c cv ns nv s.l v z _ HNS.out HV.out HZ.out (by exact rs) gs1 gs2 (by exact hrv)).mono ?_
          rintro e w' ⟨rfl, q, rfl⟩
          go_wp2_with fail
          refine (ref_Compare_n s.A V s.c cv ns nv s.l v z _ HNS.out HV.out HZ.out (by exact rs) gs1 gs2 (by exact hrv)).mono ?_
          rintro e w' ⟨rfl, q2, rfl⟩
          have hsl := slice_from (P := Try.prog) 45 22 Try.underlying45 (by kernel_rfl) w w.heap.size (some ad) (xs.map SlV.v) n c k (by rw [List.length_map]; exact HX.out) hk hn h.1
          obtain ⟨A', hsl, hrd⟩ := hsl
          have HRD := Lib.hid hrd; clear hrd
          have hkc : k ≤ c := by omega
          have hlt : ((xs.take k).map SlV.v).length = k := by rw [List.length_map, List.length_take, HX.out]; omega
          have hld : ((xs.drop k).map SlV.v).length = n - k := by rw [List.length_map, List.length_drop, HX.out]
          have HLT := Lib.hid hlt; clear hlt
          have HLD := Lib.hid hld; clear hld
          have hrt : RdV w w.heap.size (some ad) ((xs.take k).map SlV.v) := by rw [List.map_take]; exact h.1.take k
          have hn0 : ((n - k : Nat) : Int) ≤ 1000000 := by omega
          have row0 := fun (q : Nat) => World.ownsRow_lit (base := w.heap.size) (e := 22) (size := 1) (w.drewN q) #[] 0 (Nat.le_refl _) (by unfold maxLen; omega) rfl
          have rdt := fun (q : Nat) => RdV.alloc (w := w.drewN q) (B := w.heap.size) hrt (Nat.le_refl _) (.cells #[] 22)
          have hsz0 : ∀ q : Nat, w.heap.size ≤ ((w.drewN q).alloc (.cells #[] 22)).heap.size := fun q => by simp [World.alloc]
          have ROW := Lib.hid row0
          have RDT := Lib.hid rdt
          have HSZ := Lib.hid hsz0
          clear row0 rdt hsz0
          go_wp2_with (first
            | (at_builtin; (refine wpList_app _ rfl (.tmp 36) (.tmp 39) 45 rfl w.heap.size 22 (.slice none 0 0) 24 Try.underlying45 ints_info rfl (.slice (some ⟨w.heap.size, 0, none⟩) 0 0) 0 _ rfl (ROW.out _) w.heap.size (some ad) k c ((xs.take k).map SlV.v) HLT.out rfl (RDT.out _) (svs_one _) (by omega) (by omega) (HSZ.out _) ?_); intro v1 w1 ho1 hg1 hb1 hn1; have b1 : Below w.heap.size w w1 := ((below_drewN (Below.refl _ _) _).alloc (Nat.le_refl _) _).trans hb1; have z1 := b1.size; clear hg1 hb1 hn1)
            | (at_builtin; refine wpList_push w1 (.slice V nv cv) rfl (.tmp 41) (.tmp 43) 45 rfl w.heap.size 22 (.slice none 0 0) 24 Try.underlying45 ints_info rfl v1 (0 + k) _ rfl ho1 rfl rfl (by omega) (by omega) z1 ?_; intro v2 w2 ho2 hg2 hb2; have b2 : Below w.heap.size w w2 := b1.trans (hb2.mono (Nat.le_refl _)); have z2 := b2.size; clear hg2 hb2)
            | (at_builtin; refine wpList_app _ rfl (.tmp 45) (.tmp 48) 45 rfl w.heap.size 22 (.slice none 0 0) 24 Try.underlying45 ints_info rfl v2 (0 + k + 1) _ rfl ho2 w.heap.size A' (n - k) (c - k) ((xs.drop k).map SlV.v) HLD.out rfl (RdV.below (by rw [List.map_drop]; exact HRD.out) b2) (svs_one _) (by omega) (by omega) z2 ?_; intro v3 w3 ho3 hg3 hb3 hn3; have b3 : Below w.heap.size w w3 := b2.trans (hb3.mono (Nat.le_refl _)); clear hg3 hb3 hn3))
          go_ret
          have ho : w3.ownsRow w.heap.size 22 1 v3 (n + 1) ((xs.take k ++ ⟨V, cv, v⟩ :: xs.drop k).map SlV.v) := by
            have e1 : (xs.take k ++ ⟨V, cv, v⟩ :: xs.drop k).map SlV.v = (xs.take k).map SlV.v ++ [.slice V nv cv] ++ (xs.drop k).map SlV.v := by
              rw [List.map_append, List.map_cons, List.append_assoc, List.singleton_append]
              have : SlV.v ⟨V, cv, v⟩ = .slice V nv cv := by unfold SlV.v; rw [HV.out]
              rw [this]
            rw [e1]
            have h3 := ho3
            simp only [Nat.zero_add, List.nil_append] at h3
            rw [show k + 1 + (n - k) = n + 1 by omega] at h3
            exact h3
          have z3 := b3.size
          have hok : ∀ s ∈ xs.take k ++ ⟨V, cv, v⟩ :: xs.drop k, s.ok w3 w3.heap.size := fun s hs => by
            rcases List.mem_append.1 hs with hs | hs
            · exact ((h.2 s (List.mem_of_mem_take hs)).below b3).more z3
            · rcases List.mem_cons.1 hs with rfl | hs
              · exact ⟨(hrv.below b3).more z3, by show v.length ≤ cv; rw [HV.out]; exact hv1, hv2⟩
              · exact ((h.2 s (List.mem_of_mem_drop hs)).below b3).more z3
          have hlen : (xs.take k ++ ⟨V, cv, v⟩ :: xs.drop k).length = n + 1 := by rw [List.length_append, List.length_cons, List.length_take, List.length_drop, HX.out]; omega
          have hfin : (xs.take k ++ ⟨V, cv, v⟩ :: xs.drop k).map SlV.l = putL (xs.map SlV.l) v := by
            rw [put_end HP.out HP2.out, List.map_append, List.map_cons, List.map_take, List.map_drop]
          rcases ho.2 with ⟨rfl, h0⟩ | ⟨g, cap, cur, rfl, _, _, hnc, hcm, _⟩
          · omega
          · exact ⟨_, cap, n + 1, _, rfl, hlen, hnc, by simpa [maxLen] using hcm, ⟨RdV.of_own ho, hok⟩, hfin, b3⟩
    · have HP2 := Lib.hid (putL_end (L := xs.map SlV.l) (v := v) (k := k) (by rw [List.length_map, HX.out]; exact hlt))
      have b2 : decide (k < n) = false := by simpa using hlt
      have b3 : decide ((k : Int) < (n : Int)) = false := by simp; omega
      clear hlt
      have hsl := slice_from (P := Try.prog) 45 22 Try.underlying45 (by kernel_rfl) w w.heap.size A (xs.map SlV.v) n c k (by rw [List.length_map]; exact HX.out) hk hn h.1
      obtain ⟨A', hsl, hrd⟩ := hsl
      have HRD := Lib.hid hrd; clear hrd
      have hkc : k ≤ c := by omega
      have hlt : ((xs.take k).map SlV.v).length = k := by rw [List.length_map, List.length_take, HX.out]; omega
      have hld : ((xs.drop k).map SlV.v).length = n - k := by rw [List.length_map, List.length_drop, HX.out]
      have HLT := Lib.hid hlt; clear hlt
      have HLD := Lib.hid hld; clear hld
      have hrt : RdV w w.heap.size A ((xs.take k).map SlV.v) := by rw [List.map_take]; exact h.1.take k
      have hn0 : ((n - k : Nat) : Int) ≤ 1000000 := by omega
      have row0 := fun (q : Nat) => World.ownsRow_lit (base := w.heap.size) (e := 22) (size := 1) (w.drewN q) #[] 0 (Nat.le_refl _) (by unfold maxLen; omega) rfl
      have rdt := fun (q : Nat) => RdV.alloc (w := w.drewN q) (B := w.heap.size) hrt (Nat.le_refl _) (.cells #[] 22)
      have hsz0 : ∀ q : Nat, w.heap.size ≤ ((w.drewN q).alloc (.cells #[] 22)).heap.size := fun q => by simp [World.alloc]
      have ROW := Lib.hid row0
      have RDT := Lib.hid rdt
      have HSZ := Lib.hid hsz0
      clear row0 rdt hsz0
      go_wp2_with (first
        | (at_builtin; (refine wpList_app _ rfl (.tmp 36) (.tmp 39) 45 rfl w.heap.size 22 (.slice none 0 0) 24 Try.underlying45 ints_info rfl (.slice (some ⟨w.heap.size, 0, none⟩) 0 0) 0 _ rfl (ROW.out _) w.heap.size A k c ((xs.take k).map SlV.v) HLT.out rfl (RDT.out _) (svs_one _) (by omega) (by omega) (HSZ.out _) ?_); intro v1 w1 ho1 hg1 hb1 hn1; have b1 : Below w.heap.size w w1 := ((below_drewN (Below.refl _ _) _).alloc (Nat.le_refl _) _).trans hb1; have z1 := b1.size; clear hg1 hb1 hn1)
        | (at_builtin; refine wpList_push w1 (.slice V nv cv) rfl (.tmp 41) (.tmp 43) 45 rfl w.heap.size 22 (.slice none 0 0) 24 Try.underlying45 ints_info rfl v1 (0 + k) _ rfl ho1 rfl rfl (by omega) (by omega) z1 ?_; intro v2 w2 ho2 hg2 hb2; have b2 : Below w.heap.size w w2 := b1.trans (hb2.mono (Nat.le_refl _)); have z2 := b2.size; clear hg2 hb2)
        | (at_builtin; refine wpList_app _ rfl (.tmp 45) (.tmp 48) 45 rfl w.heap.size 22 (.slice none 0 0) 24 Try.underlying45 ints_info rfl v2 (0 + k + 1) _ rfl ho2 w.heap.size A' (n - k) (c - k) ((xs.drop k).map SlV.v) HLD.out rfl (RdV.below (by rw [List.map_drop]; exact HRD.out) b2) (svs_one _) (by omega) (by omega) z2 ?_; intro v3 w3 ho3 hg3 hb3 hn3; have b3 : Below w.heap.size w w3 := b2.trans (hb3.mono (Nat.le_refl _)); clear hg3 hb3 hn3))
      go_ret
      have ho : w3.ownsRow w.heap.size 22 1 v3 (n + 1) ((xs.take k ++ ⟨V, cv, v⟩ :: xs.drop k).map SlV.v) := by
        have e1 : (xs.take k ++ ⟨V, cv, v⟩ :: xs.drop k).map SlV.v = (xs.take k).map SlV.v ++ [.slice V nv cv] ++ (xs.drop k).map SlV.v := by
          rw [List.map_append, List.map_cons, List.append_assoc, List.singleton_append]
          have : SlV.v ⟨V, cv, v⟩ = .slice V nv cv := by unfold SlV.v; rw [HV.out]
          rw [this]
        rw [e1]
        have h3 := ho3
        simp only [Nat.zero_add, List.nil_append] at h3
        rw [show k + 1 + (n - k) = n + 1 by omega] at h3
        exact h3
      have z3 := b3.size
      have hok : ∀ s ∈ xs.take k ++ ⟨V, cv, v⟩ :: xs.drop k, s.ok w3 w3.heap.size := fun s hs => by
        rcases List.mem_append.1 hs with hs | hs
        · exact ((h.2 s (List.mem_of_mem_take hs)).below b3).more z3
        · rcases List.mem_cons.1 hs with rfl | hs
          · exact ⟨(hrv.below b3).more z3, by show v.length ≤ cv; rw [HV.out]; exact hv1, hv2⟩
          · exact ((h.2 s (List.mem_of_mem_drop hs)).below b3).more z3
      have hlen : (xs.take k ++ ⟨V, cv, v⟩ :: xs.drop k).length = n + 1 := by rw [List.length_append, List.length_cons, List.length_take, List.length_drop, HX.out]; omega
      have hfin : (xs.take k ++ ⟨V, cv, v⟩ :: xs.drop k).map SlV.l = putL (xs.map SlV.l) v := by
        rw [put_end HP.out HP2.out, List.map_append, List.map_cons, List.map_take, List.map_drop]
      rcases ho.2 with ⟨rfl, h0⟩ | ⟨g, cap, cur, rfl, _, _, hnc, hcm, _⟩
      · omega
      · exact ⟨_, cap, n + 1, _, rfl, hlen, hnc, by simpa [maxLen] using hcm, ⟨RdV.of_own ho, hok⟩, hfin, b3⟩
end Go.Proofs.Ytcbhencebflgcaa
