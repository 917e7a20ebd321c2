/- Walks: word.Shuffles whole; sameAll. -/
import Derived.Test.YtcbhencebflgcaaWh
namespace Go.Proofs.Ytcbhencebflgcaa
open Go.RowKit Go

theorem sort_any' (B base g cap n : Nat) (xs : List SlV) (w : World) (hx : xs.length = n) (hown : w.ownsRow base 22 1 (.slice (some ⟨g, 0, none⟩) n cap) n (xs.map SlV.v)) (hok : okK B w xs)
    (hB : B ≤ base) (hn : n ≤ 1000000) :
    Calls Try.prog 57 #[.slice (some ⟨g, 0, none⟩) n cap, .func (.func 24) #[] #[]] w (EndU fun w' =>
      ∃ ys : List SlV, ys.Perm xs ∧ ys.Pairwise (fun a b => cmpW a.l b.l ≤ 0) ∧ w'.ownsRow base 22 1 (.slice (some ⟨g, 0, none⟩) n cap) n (ys.map SlV.v) ∧ Fr 3 B w w' ∧ w.grownBy w' (some g)) := by
  subst hx
  exact sort_any B base g cap xs w hown hok hB hn

theorem compact_any' (B base n : Nat) (xs : List SlV) (g cap : Nat) (w : World) (hx : xs.length = n) (hown : w.ownsRow base 22 1 (.slice (some ⟨g, 0, none⟩) n cap) n (xs.map SlV.v)) (hok : okK B w xs)
    (hB : B ≤ base) (hbase : base ≤ w.heap.size) (h1 : 0 < n) (h2 : n ≤ 1000000) :
    Calls Try.prog 58 #[.slice (some ⟨g, 0, none⟩) n cap, .func (.func 59) #[] #[]] w fun e w' => e = .returned (.slice (some ⟨g, 0, none⟩) (cpt SlV.l xs).length cap) ∧
      w'.ownsRow base 22 1 (.slice (some ⟨g, 0, none⟩) (cpt SlV.l xs).length cap) (cpt SlV.l xs).length ((cpt SlV.l xs).map SlV.v) ∧ Fr 3 B w w' := by
  subst hx
  exact slices_CompactFunc B base xs g cap w hown hok hB hbase h1 h2

/-- What Shuffles hands back: a slice of the words L. -/
def RetS (L : List (List Int)) (w : World) (e : Ending) (w' : World) : Prop :=
  ∃ (A : Option Addr) (c : Nat) (ys : List SlV), e = .returned (.tuple #[.slice A ys.length c, .int .i64 0]) ∧ RdS w' w'.heap.size A ys ∧ ys.length ≤ c ∧ c ≤ 9223372036854775807 ∧ ys.map SlV.l = L ∧ Below w.heap.size w w'

/-- the shuffles of two words: L holds each once, in order -/
def ShufOf (a b : List Int) (L : List (List Int)) : Prop := IncW L ∧ ∀ l, l ∈ L ↔ l ∈ shufN (a.length + b.length) [] a b

theorem acc_open {B p : Nat} {w : World} {L : List (List Int)} (h : Acc B p w L) (hL : L ≠ []) : ∃ (g cap n : Nat) (xs : List SlV), w.heap[p]? = some (.cells #[.slice (some ⟨g, 0, none⟩) n cap] 45 (0, 0)) ∧ xs.length = n ∧ 0 < n ∧ g ≠ p ∧ p + 1 ≤ w.heap.size ∧
    w.ownsRow (p + 1) 22 1 (.slice (some ⟨g, 0, none⟩) n cap) n (xs.map SlV.v) ∧ okK B w xs ∧ xs.map SlV.l = L := by
  obtain ⟨v, xs, h1, h2, h3, h4⟩ := h
  have hpos : 0 < xs.length := by
    cases xs with
    | nil => exact absurd h4.symm hL
    | cons x r => simp
  obtain ⟨g, cap, rfl, hb, _⟩ := h2.form hpos
  have := heap_lt h1
  exact ⟨g, cap, xs.length, xs, h1, rfl, hpos, by omega, by omega, h2, h3, h4⟩

set_option maxHeartbeats 1600000 in
theorem word_Shuffles (A C : Option Addr) (ca cc : Nat) (a b : List Int) (w : World) (ha : RdI w w.heap.size A a) (ha1 : a.length ≤ ca) (ha2 : ca ≤ 9223372036854775807) (hb : RdI w w.heap.size C b) (hb1 : b.length ≤ cc) (hb2 : cc ≤ 9223372036854775807)
    (hl : a.length + b.length ≤ 12) :
    Calls Try.prog 32 #[.slice A a.length ca, .slice C b.length cc] w (fun e w' => ∃ L, ShufOf a b L ∧ RetS L w e w') := by
  have hW : Below w.heap.size w (w.alloc (.cells #[.slice none 0 0] 45)) := (Below.refl _ _).alloc (Nat.le_refl _) _
  have hacc0 : Acc w.heap.size w.heap.size (w.alloc (.cells #[.slice none 0 0] 45)) [] :=
    ⟨_, [], heap_alloc_new w _, World.ownsRow_nil _ _ _ _, fun s hs => by simp at hs, rfl⟩
  have h2n : 2 ^ (a.length + b.length) ≤ 2 ^ 12 := Nat.pow_le_pow_right (by decide) hl
  have hcon := shuffles_any w.heap.size w.heap.size (Nat.le_refl _) (a.length + b.length) none A C 0 a.length b.length 0 ca cc [] a b [] _ rfl rfl rfl rfl RdK.nil (Nat.le_refl _) (by decide) (ha.after hW (Nat.le_refl _)) ha1 ha2 (hb.after hW (Nat.le_refl _)) hb1 hb2 hacc0 (by simp; omega) (by omega)
  have hsl := shufN_le (a.length + b.length) [] a b
  have hne := shufN_ne (a.length + b.length) [] a b
  unfold ShufOf
  generalize shufN (a.length + b.length) [] a b = S at *
  rw [List.nil_append] at hcon
  have HC := Lib.hid hcon
  have hS : S.length ≤ 1000000 := by omega
  have HNE := Lib.hid hne
  clear hcon hacc0 hW hsl hne h2n
  go_enter Try.func32, Try.ntmps32
  go_wp2_with fail
  refine HC.out.mono ?_
  rintro e w2 ⟨rfl, hacc, hf2⟩
  obtain ⟨g, cap, n, xs, hp, hxn, hn0, hgp, hps, hown, hok, hxl⟩ := acc_open hacc HNE.out
  have hnS : n ≤ 1000000 := by rw [← hxn, ← List.length_map (f := SlV.l), hxl]; exact hS
  have hcell : w2.cell? ⟨w.heap.size, 0, none⟩ = some (.slice (some ⟨g, 0, none⟩) n cap) := by simp [World.cell?, hp]
  have HP := Lib.hid hp; clear hp
  have HXN := Lib.hid hxn; clear hxn
  have HXL := Lib.hid hxl; clear hxl
  clear hacc
  have HO := Lib.hid hown
  have HK := Lib.hid hok
  clear hown hok
  go_wp2_with fail
  refine (sort_any' w.heap.size (w.heap.size + 1) g cap n xs w2 HXN.out HO.out HK.out (by omega) hnS).mono ?_
  rintro e w3 ⟨rfl, ys, hperm, hpw, hown3, hf3, hg3⟩
  have hp3 := (hg3.block w.heap.size (by omega) (fun e => hgp (by injection e with e; exact e.symm))).trans HP.out
  have hcell3 : w3.cell? ⟨w.heap.size, 0, none⟩ = some (.slice (some ⟨g, 0, none⟩) n cap) := by simp [World.cell?, hp3]
  have hyn : ys.length = n := by rw [hperm.length_eq]; exact HXN.out
  have hok3 : okK w.heap.size w3 ys := fun s hs => (HK.out.fr hf3) s (hperm.mem_iff.1 hs)
  have hsz3 : w.heap.size + 1 ≤ w3.heap.size := Nat.le_trans hps hf3.size
  have HY := Lib.hid hyn
  have HPM := Lib.hid hperm
  have HPW := Lib.hid hpw
  have HO3 := Lib.hid hown3
  have HK3 := Lib.hid hok3
  clear hyn hperm hpw hown3 hok3 hp3
  go_wp2_with fail
  refine (compact_any' w.heap.size (w.heap.size + 1) n ys g cap w3 HY.out HO3.out HK3.out (by omega) hsz3 hn0 hnS).mono ?_
  rintro e w4 ⟨rfl, hown4, hf4⟩
  have HO4 := Lib.hid hown4
  clear hown4
  go_wp2_with fail
  go_ret2
  have hb4 : Below w.heap.size w w4 := ((Below.refl _ _).alloc (Nat.le_refl _) _).trans ((hf2.trans (hf3.trans hf4)).below)
  refine ⟨(cpt SlV.l ys).map SlV.l, ⟨cpt_inc SlV.l HPW.out, fun l => ?_⟩, some ⟨g, 0, none⟩, cap, cpt SlV.l ys, rfl, ⟨RdV.of_own HO4.out, fun s hs => ?_⟩, (own_cap HO4.out).1, (own_cap HO4.out).2, rfl, hb4⟩
  · rw [cpt_mem, (HPM.out.map SlV.l).mem_iff, HXL.out]
  · have hsy : s ∈ ys := cpt_sub hs
    obtain ⟨k1, k2⟩ := (HK3.out.fr hf4) s hsy
    exact ⟨k1.rd, k2⟩

set_option maxHeartbeats 400000 in
theorem word_Shuffles_many (A C : Option Addr) (na nb ca cc : Nat) (w : World) (hl : 12 < na + nb) (ha : na ≤ 1000000) (hb : nb ≤ 1000000) :
    Calls Try.prog 32 #[.slice A na ca, .slice C nb cc] w (fun e w' => e = .returned (.tuple #[.slice none 0 0, .int .i64 3]) ∧ w = w') := by
  have h : (12 : Int) < (na : Int) + (nb : Int) := by omega
  go_enter Try.func32, Try.ntmps32
  go_wp2
  go_ret2
  exact ⟨rfl, rfl⟩

def sameB (a b : List (List Int)) : Bool := decide (a = b)
theorem sameB_ne {a b : List (List Int)} {k : Nat} {x y : List Int} (ha : a[k]? = some x) (hb : b[k]? = some y) (h : x ≠ y) : sameB a b = false := by
  unfold sameB; rw [decide_eq_false_iff_not]; rintro rfl; rw [ha] at hb; exact h (by injection hb)
theorem sameB_len {a b : List (List Int)} (h : a.length ≠ b.length) : sameB a b = false := by
  unfold sameB; rw [decide_eq_false_iff_not]; rintro rfl; exact h rfl
theorem sameB_of {a b : List (List Int)} (h : a = b) : sameB a b = true := by unfold sameB; rw [decide_eq_true_iff]; exact h

set_option maxHeartbeats 800000 in
theorem law_sameAll (A C : Option Addr) (ca cc : Nat) (xs ys : List SlV) (w : World) (hx : RdS w w.heap.size A xs) (hx1 : xs.length ≤ ca) (hx2 : ca ≤ 9223372036854775807) (hy : RdS w w.heap.size C ys) :
    Calls Try.prog 33 #[.slice A xs.length ca, .slice C ys.length cc] w fun e w' => e = .returned (.bool (sameB (xs.map SlV.l) (ys.map SlV.l))) ∧ ∃ n, w' = w.drewN n := by
  by_cases hl : xs.length = ys.length
  · have hl1 : ((xs.length : Int) != (ys.length : Int)) = false := by simp [hl]
    have HL := Lib.hid hl; clear hl
    go_enter Try.func33, Try.ntmps33
    go_wp2
    go_loopw [5] (fun i wr => ∃ (k n : Nat), k ≤ xs.length ∧ i = .int .i64 k ∧ Hid ((xs.take k).map SlV.l = (ys.take k).map SlV.l) ∧ wr = w.drewN n) (fun i _ => xs.length - (intOf i).toNat)
    case atStart => exact ⟨0, 0, Nat.zero_le _, rfl, Lib.hid rfl, rfl⟩
    case round =>
      obtain ⟨k, n, hk, rfl, HX, rfl⟩ := hrel
      by_cases hlt : k < xs.length
      · obtain ⟨ad, s, rfl, _, hs, hcs, hrs, hs1, hs2⟩ := hx.at_ hlt
        obtain ⟨bd, t, rfl, _, ht, hct, hrt, ht1, ht2⟩ := hy.at_ (k := k) (by have := HL.out; omega)
        have HS := Lib.hid hs; clear hs
        have HT := Lib.hid ht; clear ht
        have hkb : k < ys.length := by have := HL.out; omega
        have b1 : (k : Int) < (xs.length : Int) := by omega
        have b2 : (k : Int) < (ys.length : Int) := by omega
        cases hq : eqB s.l t.l with
        | true =>
          go_wp2_with fail
          go_quiet ((go_at_call 20; refine quiet_add (law_same _ _ _ _ _ _ _ (by exact hrs) hs1 hs2 (by exact hrt))))
          rw [hq]
          go_wp2
          go_roundw
          case rel => exact ⟨k + 1, _, by omega, by go_num, Lib.hid (by rw [take_snoc' HS.out, take_snoc' HT.out, List.map_append, List.map_append, HX.out, List.map_cons, List.map_cons, eqB_eq hq]), rfl⟩
          case measure => simp [intOf]; omega
        | false =>
          go_wp2_with fail
          go_quiet ((go_at_call 20; refine quiet_add (law_same _ _ _ _ _ _ _ (by exact hrs) hs1 hs2 (by exact hrt))))
          rw [hq]
          go_wp2
          go_ret
          exact ⟨ret_bool (sameB_ne (k := k) (by rw [List.getElem?_map, HS.out]; rfl) (by rw [List.getElem?_map, HT.out]; rfl) (eqB_ne hq)).symm, (by first | exact dr00 _ | exact dr0 _ _ | exact dr1 _ _ _ | exact dr2 _ _ _ _ | exact dr3 _ _ _ _ _)⟩
      · go_wp2
        go_ret
        refine ⟨ret_bool (sameB_of ?_).symm, (by first | exact dr00 _ | exact dr0 _ _ | exact dr1 _ _ _ | exact dr2 _ _ _ _ | exact dr3 _ _ _ _ _)⟩
        have := HX.out
        rwa [take_all' hlt, take_all' (by have := HL.out; omega)] at this
  · have hl1 : ((xs.length : Int) != (ys.length : Int)) = true := by rw [bne_iff_ne]; omega
    have HL := Lib.hid hl; clear hl
    go_enter Try.func33, Try.ntmps33
    go_wp2
    go_ret
    exact ⟨ret_bool (sameB_len (by simpa using HL.out)).symm, (by first | exact dr00 _ | exact dr0 _ _ | exact dr1 _ _ _ | exact dr2 _ _ _ _ | exact dr3 _ _ _ _ _)⟩
end Go.Proofs.Ytcbhencebflgcaa
