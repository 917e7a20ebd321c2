/- Walks: the reference's Match. Printed by gen_refmatch.py. -/
import Derived.Test.YtcbhencebflgcaaWl
import Derived.Test.YtcbhencebflgcaaPo
import Derived.Test.YtcbhencebflgcaaLd
namespace Go.Proofs.Ytcbhencebflgcaa
open Go.RowKit Go

def RetF (l : List Int) (f : Bool) (w : World) (e : Ending) (w' : World) : Prop :=
  ∃ A c, e = .returned (.tuple #[.slice A l.length c, .bool f]) ∧ l.length ≤ c ∧ c ≤ 9223372036854775807 ∧ RdI w' w'.heap.size A l ∧ Below w.heap.size w w'
def RetR : Option (List Int) → World → Ending → World → Prop
  | none, w, e, w' => RetF [] false w e w'
  | some m, w, e, w' => RetF m true w e w'
theorem own_lit (w : World) (u : Value) (I : TypeId) : (w.alloc (.cells #[u] I)).ownsRow w.heap.size I 1 (.slice (some ⟨w.heap.size, 0, none⟩) 1 1) 1 [u] :=
  ⟨by simp, .inr ⟨w.heap.size, 1, #[u], rfl, Nat.le_refl _, heap_alloc_new w _, by omega, by unfold maxLen; omega, by simp, by simp⟩⟩
theorem refM_le (f s : List Int) : ∀ (n : Nat) (a b m : List Int), refM f s n a b = some m → m.length ≤ n
  | 0, _, _, m, h => by simp only [refM, Option.some.injEq] at h; subst h; simp
  | n + 1, a, b, m, h => by
    have go : ∀ {r : Option (List Int)} {x : Int}, (∀ q, r = some q → q.length ≤ n) → r.map (x :: ·) = some m → m.length ≤ n + 1 := by
      intro r x hq hr
      obtain ⟨q, e, rfl⟩ := Option.map_eq_some_iff.1 hr
      have := hq q e
      simp; omega
    simp only [refM] at h
    split at h
    · simp only [Option.some.injEq] at h; subst h; simp
    · split at h
      · cases h
      · exact go (fun q hq => refM_le f s n _ _ q hq) h
    · split at h
      · cases h
      · exact go (fun q hq => refM_le f s n _ _ q hq) h
    · split at h
      · exact go (fun q hq => refM_le f s n _ _ q hq) h
      · split at h
        · exact go (fun q hq => refM_le f s n _ _ q hq) h
        · split at h
          · exact go (fun q hq => refM_le f s n _ _ q hq) h
          · cases h
theorem ref_Has' (A : Option Addr) (c : Nat) (l : List Int) (x : Int) (q : Bool) (hq : hasB l x = q) (w : World) (h : RdI w w.heap.size A l) (hlc : l.length ≤ c) (hc : c ≤ 9223372036854775807) :
    Calls Try.prog 48 #[.slice A l.length c, .int .i64 x] w fun e w' => e = .returned (.bool q) ∧ w = w' := by
  subst hq; exact ref_Has A c l x w h hlc hc
theorem quiet_same {P : Program} {f : FuncId} {args : Array Value} {w : World} {n : Nat} {v : Value} (h : Calls P f args (w.drewN n) fun e w' => e = .returned v ∧ w.drewN n = w') :
    Calls P f args (w.drewN n) fun e w' => e = .returned v ∧ ∃ m, w' = w.drewN m :=
  h.mono fun _ _ ⟨he, hw⟩ => ⟨he, n, hw.symm⟩
def NonN (l : List Int) : Prop := ∀ x, hasB l x = true → 0 ≤ x

set_option maxHeartbeats 6400000 in
theorem ref_Match (F S : Option Addr) (cf cs : Nat) (f s : List Int) (hfn : NonN f) (hsn : NonN s) (hf1 : f.length ≤ cf) (hf2 : cf ≤ 9223372036854775807) (hs1 : s.length ≤ cs) (hs2 : cs ≤ 9223372036854775807) :
    ∀ (n : Nat) (A C : Option Addr) (na nb ca cc : Nat) (a b : List Int) (w : World), a.length = na → b.length = nb → na + nb ≤ n → n ≤ 2000000 → RdI w w.heap.size A a → na ≤ ca → ca ≤ 9223372036854775807 → RdI w w.heap.size C b → nb ≤ cc → cc ≤ 9223372036854775807 →
    RdI w w.heap.size F f → RdI w w.heap.size S s → OverB a f → OverB b s →
    Calls Try.prog 23 #[.slice A na ca, .slice F f.length cf, .slice C nb cc, .slice S s.length cs] w (RetR (refM f s n a b) w) := by
  intro n
  induction n with
  | zero =>
    intro A C na nb ca cc a b w hna hnb hn hN ha ha1 ha2 hb hb1 hb2 hf hs oa ob
    obtain rfl : na = 0 := by omega
    obtain rfl : nb = 0 := by omega
    have e : refM f s 0 a b = some [] := rfl
    rw [e]
    clear e
    go_enter Try.func23, Try.ntmps23
    go_wp2
    go_ret2
    exact ⟨none, 0, rfl, Nat.le_refl _, by omega, RdI.nil, Below.refl _ _⟩
  | succ n ih =>
    intro A C na nb ca cc a b w hna hnb hn hN ha ha1 ha2 hb hb1 hb2 hf hs oa ob
    have IH := Lib.hid ih
    clear ih
    have OA := Lib.hid oa; clear oa
    have OB := Lib.hid ob; clear ob
    have FN := Lib.hid hfn; clear hfn
    have SN := Lib.hid hsn; clear hsn
    by_cases h1 : na = 0
    · subst h1
      obtain rfl : a = [] := List.eq_nil_of_length_eq_zero hna
      by_cases h2 : nb = 0
      · subst h2
        obtain rfl : b = [] := List.eq_nil_of_length_eq_zero hnb
        have e : refM f s (n + 1) [] [] = some [] := rfl
        rw [e]
        clear e IH
        go_enter Try.func23, Try.ntmps23
        go_wp2
        go_ret2
        exact ⟨none, 0, rfl, Nat.le_refl _, by omega, RdI.nil, Below.refl _ _⟩
      · have g2 : 0 < nb := by omega
        obtain ⟨bd, y, rfl, hbdB, hy, hcy⟩ := hb.at_ (k := 0) (by omega)
        rw [add_zero'] at hcy
        obtain ⟨C1, hsC1, hrC1⟩ := slice_tail (P := Try.prog) 22 3 Try.underlying22 (by kernel_rfl) w w.heap.size (some bd) b nb cc hnb (by omega) hb1 hb
        have oy := OB.out.at_ hy
        have ny := SN.out _ oy
        have HY := Lib.hid hy; clear hy
        have inb : (0 : Int) < (nb : Int) := by omega
        have jnb : (1 : Int) ≤ (nb : Int) := by omega
        cases qf : hasB f y with
        | true =>
          have e : refM f s (n + 1) [] b = none := by simp [refM, HY.out, qf]
          rw [e]
          clear e IH
          go_enter Try.func23, Try.ntmps23
          go_wp2_with fail
          refine (ref_Has' F cf f y true qf w (by exact hf) hf1 hf2).mono ?_
          rintro e w' ⟨rfl, rfl⟩
          go_wp2_with fail
          go_quiet (fail)
          go_wp2
          go_ret2
          exact ⟨none, 0, rfl, Nat.le_refl _, by omega, RdI.nil, (by first | exact Below.refl _ _ | exact (Below.refl _ _).drew | exact below_drewN (Below.refl _ _) _ | exact (below_drewN (Below.refl _ _) _).drew)⟩
        | false =>
          have e : refM f s (n + 1) [] b = (refM f s n ([]) (b.drop 1)).map (y :: ·) := by simp [refM, HY.out, qf]
          have E := Lib.hid e; clear e
          cases hq : refM f s n ([]) (b.drop 1) with
          | none =>
            have e2 := E.out
            rw [hq] at e2
            rw [e2]
            clear e2
            have HQ := Lib.hid hq; clear hq
            go_enter Try.func23, Try.ntmps23
            go_wp2_with fail
            refine (ref_Has' F cf f y false qf w (by exact hf) hf1 hf2).mono ?_
            rintro e w' ⟨rfl, rfl⟩
            go_wp2_with fail
            go_quiet (fail)
            go_wp2_with fail
            refine (ref_Has' S cs s y true oy (w.drewN _) (by exact hs) hs1 hs2).mono ?_
            rintro e w' ⟨rfl, rfl⟩
            go_wp2_with fail
            have hcon := IH.out (A) (C1) (0) (nb - 1) (ca) (cc - 1) ([]) (b.drop 1)
            refine (hcon _ (rfl) (by rw [List.length_drop, hnb]) (by omega) (by omega) (by exact ha) (by omega) (by omega) (by exact hrC1) (by omega) (by omega) (by exact hf) (by exact hs) (OA.out) (OB.out.drop 1)).mono ?_
            rw [HQ.out]
            clear hcon
            rintro e w5 ⟨A5, k5, rfl, t1, t2, r5, hb5⟩
            have hb5' : Below w.heap.size w w5 := (by first | exact hb5 | exact below_undrew hb5 | exact below_undrewN hb5 | exact below_undrew (below_undrewN hb5))
            clear hb5
            go_wp2
            go_ret2
            exact ⟨none, 0, rfl, Nat.le_refl _, by omega, RdI.nil, hb5'⟩
          | some m =>
            have e2 := E.out
            rw [hq] at e2
            rw [e2]
            clear e2
            have hm := refM_le f s n _ _ _ hq
            have HQ := Lib.hid hq; clear hq
            go_enter Try.func23, Try.ntmps23
            go_wp2_with fail
            refine (ref_Has' F cf f y false qf w (by exact hf) hf1 hf2).mono ?_
            rintro e w' ⟨rfl, rfl⟩
            go_wp2_with fail
            go_quiet (fail)
            go_wp2_with fail
            refine (ref_Has' S cs s y true oy (w.drewN _) (by exact hs) hs1 hs2).mono ?_
            rintro e w' ⟨rfl, rfl⟩
            go_wp2_with fail
            have hcon := IH.out (A) (C1) (0) (nb - 1) (ca) (cc - 1) ([]) (b.drop 1)
            refine (hcon _ (rfl) (by rw [List.length_drop, hnb]) (by omega) (by omega) (by exact ha) (by omega) (by omega) (by exact hrC1) (by omega) (by omega) (by exact hf) (by exact hs) (OA.out) (OB.out.drop 1)).mono ?_
            rw [HQ.out]
            clear hcon
            rintro e w5 ⟨A5, k5, rfl, t1, t2, r5, hb5⟩
            have hb5' : Below w.heap.size w w5 := (by first | exact hb5 | exact below_undrew hb5 | exact below_undrewN hb5 | exact below_undrew (below_undrewN hb5))
            clear hb5
            have hz5 := hb5'.size
            go_wp2_with (at_builtin; refine wpList_app _ rfl (.tmp 128) (.tmp 129) 22 rfl w5.heap.size 3 (.int .i64 0) 8 Try.underlying22 int_info rfl (.slice (some ⟨w5.heap.size, 0, none⟩) 1 1) 1 [.int .i64 y] rfl (own_lit w5 _ _) w5.heap.size A5 m.length k5 (iv m) (iv_length _) rfl (r5.alloc (Nat.le_refl _) _) (iv_one _) (by omega) (by omega) (by simp) ?_; intro v6 w6 ho6 hg6 hb6 hn6)
            go_ret2
            have ho7 := own_jn (l := [y]) (m := m) (l' := y :: m) ho6 rfl
            obtain ⟨A7, c7, rfl, g1, g2, r7⟩ := own_slI ho7
            have hb7 : Below w5.heap.size w5 w6 := ((Below.refl _ _).alloc (Nat.le_refl _) _).trans (by exact hb6)
            exact ⟨A7, c7, rfl, g1, g2, r7, hb5'.trans (hb7.mono hz5)⟩
    · have g1 : 0 < na := by omega
      obtain ⟨ad, x, rfl, hadB, hx, hcx⟩ := ha.at_ (k := 0) (by omega)
      rw [add_zero'] at hcx
      obtain ⟨A1, hsA1, hrA1⟩ := slice_tail (P := Try.prog) 22 3 Try.underlying22 (by kernel_rfl) w w.heap.size (some ad) a na ca hna (by omega) ha1 ha
      have ox := OA.out.at_ hx
      have nx := FN.out _ ox
      have HX := Lib.hid hx; clear hx
      have ina : (0 : Int) < (na : Int) := by omega
      have jna : (1 : Int) ≤ (na : Int) := by omega
      by_cases h2 : nb = 0
      · subst h2
        obtain rfl : b = [] := List.eq_nil_of_length_eq_zero hnb
        cases qs : hasB s x with
        | true =>
          have e : refM f s (n + 1) a [] = none := by simp [refM, HX.out, qs]
          rw [e]
          clear e IH
          go_enter Try.func23, Try.ntmps23
          go_wp2_with fail
          refine (ref_Has' S cs s x true qs w (by exact hs) hs1 hs2).mono ?_
          rintro e w' ⟨rfl, rfl⟩
          go_wp2_with fail
          go_quiet (fail)
          go_wp2
          go_ret2
          exact ⟨none, 0, rfl, Nat.le_refl _, by omega, RdI.nil, (by first | exact Below.refl _ _ | exact (Below.refl _ _).drew | exact below_drewN (Below.refl _ _) _ | exact (below_drewN (Below.refl _ _) _).drew)⟩
        | false =>
          have e : refM f s (n + 1) a [] = (refM f s n (a.drop 1) ([])).map (x :: ·) := by simp [refM, HX.out, qs]
          have E := Lib.hid e; clear e
          cases hq : refM f s n (a.drop 1) ([]) with
          | none =>
            have e2 := E.out
            rw [hq] at e2
            rw [e2]
            clear e2
            have HQ := Lib.hid hq; clear hq
            go_enter Try.func23, Try.ntmps23
            go_wp2_with fail
            refine (ref_Has' S cs s x false qs w (by exact hs) hs1 hs2).mono ?_
            rintro e w' ⟨rfl, rfl⟩
            go_wp2_with fail
            go_quiet (fail)
            go_wp2_with fail
            refine (ref_Has' S cs s x false qs (w.drewN _) (by exact hs) hs1 hs2).mono ?_
            rintro e w' ⟨rfl, rfl⟩
            go_wp2_with fail
            have hcon := IH.out (A1) (C) (na - 1) (0) (ca - 1) (cc) (a.drop 1) ([])
            refine (hcon _ (by rw [List.length_drop, hna]) (rfl) (by omega) (by omega) (by exact hrA1) (by omega) (by omega) (by exact hb) (by omega) (by omega) (by exact hf) (by exact hs) (OA.out.drop 1) (OB.out)).mono ?_
            rw [HQ.out]
            clear hcon
            rintro e w5 ⟨A5, k5, rfl, t1, t2, r5, hb5⟩
            have hb5' : Below w.heap.size w w5 := (by first | exact hb5 | exact below_undrew hb5 | exact below_undrewN hb5 | exact below_undrew (below_undrewN hb5))
            clear hb5
            go_wp2
            go_ret2
            exact ⟨none, 0, rfl, Nat.le_refl _, by omega, RdI.nil, hb5'⟩
          | some m =>
            have e2 := E.out
            rw [hq] at e2
            rw [e2]
            clear e2
            have hm := refM_le f s n _ _ _ hq
            have HQ := Lib.hid hq; clear hq
            go_enter Try.func23, Try.ntmps23
            go_wp2_with fail
            refine (ref_Has' S cs s x false qs w (by exact hs) hs1 hs2).mono ?_
            rintro e w' ⟨rfl, rfl⟩
            go_wp2_with fail
            go_quiet (fail)
            go_wp2_with fail
            refine (ref_Has' S cs s x false qs (w.drewN _) (by exact hs) hs1 hs2).mono ?_
            rintro e w' ⟨rfl, rfl⟩
            go_wp2_with fail
            have hcon := IH.out (A1) (C) (na - 1) (0) (ca - 1) (cc) (a.drop 1) ([])
            refine (hcon _ (by rw [List.length_drop, hna]) (rfl) (by omega) (by omega) (by exact hrA1) (by omega) (by omega) (by exact hb) (by omega) (by omega) (by exact hf) (by exact hs) (OA.out.drop 1) (OB.out)).mono ?_
            rw [HQ.out]
            clear hcon
            rintro e w5 ⟨A5, k5, rfl, t1, t2, r5, hb5⟩
            have hb5' : Below w.heap.size w w5 := (by first | exact hb5 | exact below_undrew hb5 | exact below_undrewN hb5 | exact below_undrew (below_undrewN hb5))
            clear hb5
            have hz5 := hb5'.size
            go_wp2_with (at_builtin; refine wpList_app _ rfl (.tmp 128) (.tmp 129) 22 rfl w5.heap.size 3 (.int .i64 0) 8 Try.underlying22 int_info rfl (.slice (some ⟨w5.heap.size, 0, none⟩) 1 1) 1 [.int .i64 x] rfl (own_lit w5 _ _) w5.heap.size A5 m.length k5 (iv m) (iv_length _) rfl (r5.alloc (Nat.le_refl _) _) (iv_one _) (by omega) (by omega) (by simp) ?_; intro v6 w6 ho6 hg6 hb6 hn6)
            go_ret2
            have ho7 := own_jn (l := [x]) (m := m) (l' := x :: m) ho6 rfl
            obtain ⟨A7, c7, rfl, g1, g2, r7⟩ := own_slI ho7
            have hb7 : Below w5.heap.size w5 w6 := ((Below.refl _ _).alloc (Nat.le_refl _) _).trans (by exact hb6)
            exact ⟨A7, c7, rfl, g1, g2, r7, hb5'.trans (hb7.mono hz5)⟩
      · have g2 : 0 < nb := by omega
        obtain ⟨bd, y, rfl, hbdB, hy, hcy⟩ := hb.at_ (k := 0) (by omega)
        rw [add_zero'] at hcy
        obtain ⟨C1, hsC1, hrC1⟩ := slice_tail (P := Try.prog) 22 3 Try.underlying22 (by kernel_rfl) w w.heap.size (some bd) b nb cc hnb (by omega) hb1 hb
        have oy := OB.out.at_ hy
        have ny := SN.out _ oy
        have HY := Lib.hid hy; clear hy
        have inb : (0 : Int) < (nb : Int) := by omega
        have jnb : (1 : Int) ≤ (nb : Int) := by omega
        cases qs : hasB s x with
        | false =>
          have hxy : x ≠ y := by rintro rfl; rw [oy] at qs; cases qs
          have hne : (x == y) = false := by simpa using hxy
          cases qf : hasB f y with
          | true =>
            have e : refM f s (n + 1) a b = (refM f s n (a.drop 1) (b)).map (x :: ·) := by simp [refM, HX.out, HY.out, qs, qf]
            have E := Lib.hid e; clear e
            cases hq : refM f s n (a.drop 1) (b) with
            | none =>
              have e2 := E.out
              rw [hq] at e2
              rw [e2]
              clear e2
              have HQ := Lib.hid hq; clear hq
              go_enter Try.func23, Try.ntmps23
              go_wp2_with fail
              refine (ref_Has' S cs s x false qs w (by exact hs) hs1 hs2).mono ?_
              rintro e w' ⟨rfl, rfl⟩
              go_wp2_with fail
              refine (ref_Has' F cf f y true qf w (by exact hf) hf1 hf2).mono ?_
              rintro e w' ⟨rfl, rfl⟩
              go_wp2_with fail
              go_quiet (fail)
              go_wp2_with fail
              refine (ref_Has' S cs s x false qs (w.drewN _) (by exact hs) hs1 hs2).mono ?_
              rintro e w' ⟨rfl, rfl⟩
              go_wp2_with fail
              have hcon := IH.out (A1) ((some bd)) (na - 1) (nb) (ca - 1) (cc) (a.drop 1) (b)
              refine (hcon _ (by rw [List.length_drop, hna]) (hnb) (by omega) (by omega) (by exact hrA1) (by omega) (by omega) (by exact hb) (by omega) (by omega) (by exact hf) (by exact hs) (OA.out.drop 1) (OB.out)).mono ?_
              rw [HQ.out]
              clear hcon
              rintro e w5 ⟨A5, k5, rfl, t1, t2, r5, hb5⟩
              have hb5' : Below w.heap.size w w5 := (by first | exact hb5 | exact below_undrew hb5 | exact below_undrewN hb5 | exact below_undrew (below_undrewN hb5))
              clear hb5
              go_wp2
              go_ret2
              exact ⟨none, 0, rfl, Nat.le_refl _, by omega, RdI.nil, hb5'⟩
            | some m =>
              have e2 := E.out
              rw [hq] at e2
              rw [e2]
              clear e2
              have hm := refM_le f s n _ _ _ hq
              have HQ := Lib.hid hq; clear hq
              go_enter Try.func23, Try.ntmps23
              go_wp2_with fail
              refine (ref_Has' S cs s x false qs w (by exact hs) hs1 hs2).mono ?_
              rintro e w' ⟨rfl, rfl⟩
              go_wp2_with fail
              refine (ref_Has' F cf f y true qf w (by exact hf) hf1 hf2).mono ?_
              rintro e w' ⟨rfl, rfl⟩
              go_wp2_with fail
              go_quiet (fail)
              go_wp2_with fail
              refine (ref_Has' S cs s x false qs (w.drewN _) (by exact hs) hs1 hs2).mono ?_
              rintro e w' ⟨rfl, rfl⟩
              go_wp2_with fail
              have hcon := IH.out (A1) ((some bd)) (na - 1) (nb) (ca - 1) (cc) (a.drop 1) (b)
              refine (hcon _ (by rw [List.length_drop, hna]) (hnb) (by omega) (by omega) (by exact hrA1) (by omega) (by omega) (by exact hb) (by omega) (by omega) (by exact hf) (by exact hs) (OA.out.drop 1) (OB.out)).mono ?_
              rw [HQ.out]
              clear hcon
              rintro e w5 ⟨A5, k5, rfl, t1, t2, r5, hb5⟩
              have hb5' : Below w.heap.size w w5 := (by first | exact hb5 | exact below_undrew hb5 | exact below_undrewN hb5 | exact below_undrew (below_undrewN hb5))
              clear hb5
              have hz5 := hb5'.size
              go_wp2_with (at_builtin; refine wpList_app _ rfl (.tmp 128) (.tmp 129) 22 rfl w5.heap.size 3 (.int .i64 0) 8 Try.underlying22 int_info rfl (.slice (some ⟨w5.heap.size, 0, none⟩) 1 1) 1 [.int .i64 x] rfl (own_lit w5 _ _) w5.heap.size A5 m.length k5 (iv m) (iv_length _) rfl (r5.alloc (Nat.le_refl _) _) (iv_one _) (by omega) (by omega) (by simp) ?_; intro v6 w6 ho6 hg6 hb6 hn6)
              go_ret2
              have ho7 := own_jn (l := [x]) (m := m) (l' := x :: m) ho6 rfl
              obtain ⟨A7, c7, rfl, g1, g2, r7⟩ := own_slI ho7
              have hb7 : Below w5.heap.size w5 w6 := ((Below.refl _ _).alloc (Nat.le_refl _) _).trans (by exact hb6)
              exact ⟨A7, c7, rfl, g1, g2, r7, hb5'.trans (hb7.mono hz5)⟩
          | false =>
            by_cases hlt : x < y
            · have hg : ¬ y < x := by omega
              have e : refM f s (n + 1) a b = (refM f s n (a.drop 1) (b)).map (x :: ·) := by simp [refM, HX.out, HY.out, qs, qf, hlt]
              have E := Lib.hid e; clear e
              cases hq : refM f s n (a.drop 1) (b) with
              | none =>
                have e2 := E.out
                rw [hq] at e2
                rw [e2]
                clear e2
                have HQ := Lib.hid hq; clear hq
                go_enter Try.func23, Try.ntmps23
                go_wp2_with fail
                refine (ref_Has' S cs s x false qs w (by exact hs) hs1 hs2).mono ?_
                rintro e w' ⟨rfl, rfl⟩
                go_wp2_with fail
                refine (ref_Has' F cf f y false qf w (by exact hf) hf1 hf2).mono ?_
                rintro e w' ⟨rfl, rfl⟩
                go_wp2_with fail
                go_quiet (fail)
                go_wp2_with fail
                refine (ref_Has' S cs s x false qs (w.drewN _) (by exact hs) hs1 hs2).mono ?_
                rintro e w' ⟨rfl, rfl⟩
                go_wp2_with fail
                have hcon := IH.out (A1) ((some bd)) (na - 1) (nb) (ca - 1) (cc) (a.drop 1) (b)
                refine (hcon _ (by rw [List.length_drop, hna]) (hnb) (by omega) (by omega) (by exact hrA1) (by omega) (by omega) (by exact hb) (by omega) (by omega) (by exact hf) (by exact hs) (OA.out.drop 1) (OB.out)).mono ?_
                rw [HQ.out]
                clear hcon
                rintro e w5 ⟨A5, k5, rfl, t1, t2, r5, hb5⟩
                have hb5' : Below w.heap.size w w5 := (by first | exact hb5 | exact below_undrew hb5 | exact below_undrewN hb5 | exact below_undrew (below_undrewN hb5))
                clear hb5
                go_wp2
                go_ret2
                exact ⟨none, 0, rfl, Nat.le_refl _, by omega, RdI.nil, hb5'⟩
              | some m =>
                have e2 := E.out
                rw [hq] at e2
                rw [e2]
                clear e2
                have hm := refM_le f s n _ _ _ hq
                have HQ := Lib.hid hq; clear hq
                go_enter Try.func23, Try.ntmps23
                go_wp2_with fail
                refine (ref_Has' S cs s x false qs w (by exact hs) hs1 hs2).mono ?_
                rintro e w' ⟨rfl, rfl⟩
                go_wp2_with fail
                refine (ref_Has' F cf f y false qf w (by exact hf) hf1 hf2).mono ?_
                rintro e w' ⟨rfl, rfl⟩
                go_wp2_with fail
                go_quiet (fail)
                go_wp2_with fail
                refine (ref_Has' S cs s x false qs (w.drewN _) (by exact hs) hs1 hs2).mono ?_
                rintro e w' ⟨rfl, rfl⟩
                go_wp2_with fail
                have hcon := IH.out (A1) ((some bd)) (na - 1) (nb) (ca - 1) (cc) (a.drop 1) (b)
                refine (hcon _ (by rw [List.length_drop, hna]) (hnb) (by omega) (by omega) (by exact hrA1) (by omega) (by omega) (by exact hb) (by omega) (by omega) (by exact hf) (by exact hs) (OA.out.drop 1) (OB.out)).mono ?_
                rw [HQ.out]
                clear hcon
                rintro e w5 ⟨A5, k5, rfl, t1, t2, r5, hb5⟩
                have hb5' : Below w.heap.size w w5 := (by first | exact hb5 | exact below_undrew hb5 | exact below_undrewN hb5 | exact below_undrew (below_undrewN hb5))
                clear hb5
                have hz5 := hb5'.size
                go_wp2_with (at_builtin; refine wpList_app _ rfl (.tmp 128) (.tmp 129) 22 rfl w5.heap.size 3 (.int .i64 0) 8 Try.underlying22 int_info rfl (.slice (some ⟨w5.heap.size, 0, none⟩) 1 1) 1 [.int .i64 x] rfl (own_lit w5 _ _) w5.heap.size A5 m.length k5 (iv m) (iv_length _) rfl (r5.alloc (Nat.le_refl _) _) (iv_one _) (by omega) (by omega) (by simp) ?_; intro v6 w6 ho6 hg6 hb6 hn6)
                go_ret2
                have ho7 := own_jn (l := [x]) (m := m) (l' := x :: m) ho6 rfl
                obtain ⟨A7, c7, rfl, g1, g2, r7⟩ := own_slI ho7
                have hb7 : Below w5.heap.size w5 w6 := ((Below.refl _ _).alloc (Nat.le_refl _) _).trans (by exact hb6)
                exact ⟨A7, c7, rfl, g1, g2, r7, hb5'.trans (hb7.mono hz5)⟩
            · have hg : y < x := by omega
              have e : refM f s (n + 1) a b = (refM f s n (a) (b.drop 1)).map (y :: ·) := by simp [refM, HX.out, HY.out, qs, qf, hlt]
              have E := Lib.hid e; clear e
              cases hq : refM f s n (a) (b.drop 1) with
              | none =>
                have e2 := E.out
                rw [hq] at e2
                rw [e2]
                clear e2
                have HQ := Lib.hid hq; clear hq
                go_enter Try.func23, Try.ntmps23
                go_wp2_with fail
                refine (ref_Has' S cs s x false qs w (by exact hs) hs1 hs2).mono ?_
                rintro e w' ⟨rfl, rfl⟩
                go_wp2_with fail
                refine (ref_Has' F cf f y false qf w (by exact hf) hf1 hf2).mono ?_
                rintro e w' ⟨rfl, rfl⟩
                go_wp2_with fail
                go_quiet (fail)
                go_wp2_with fail
                refine (ref_Has' S cs s y true oy (w.drewN _) (by exact hs) hs1 hs2).mono ?_
                rintro e w' ⟨rfl, rfl⟩
                go_wp2_with fail
                have hcon := IH.out ((some ad)) (C1) (na) (nb - 1) (ca) (cc - 1) (a) (b.drop 1)
                refine (hcon _ (hna) (by rw [List.length_drop, hnb]) (by omega) (by omega) (by exact ha) (by omega) (by omega) (by exact hrC1) (by omega) (by omega) (by exact hf) (by exact hs) (OA.out) (OB.out.drop 1)).mono ?_
                rw [HQ.out]
                clear hcon
                rintro e w5 ⟨A5, k5, rfl, t1, t2, r5, hb5⟩
                have hb5' : Below w.heap.size w w5 := (by first | exact hb5 | exact below_undrew hb5 | exact below_undrewN hb5 | exact below_undrew (below_undrewN hb5))
                clear hb5
                go_wp2
                go_ret2
                exact ⟨none, 0, rfl, Nat.le_refl _, by omega, RdI.nil, hb5'⟩
              | some m =>
                have e2 := E.out
                rw [hq] at e2
                rw [e2]
                clear e2
                have hm := refM_le f s n _ _ _ hq
                have HQ := Lib.hid hq; clear hq
                go_enter Try.func23, Try.ntmps23
                go_wp2_with fail
                refine (ref_Has' S cs s x false qs w (by exact hs) hs1 hs2).mono ?_
                rintro e w' ⟨rfl, rfl⟩
                go_wp2_with fail
                refine (ref_Has' F cf f y false qf w (by exact hf) hf1 hf2).mono ?_
                rintro e w' ⟨rfl, rfl⟩
                go_wp2_with fail
                go_quiet (fail)
                go_wp2_with fail
                refine (ref_Has' S cs s y true oy (w.drewN _) (by exact hs) hs1 hs2).mono ?_
                rintro e w' ⟨rfl, rfl⟩
                go_wp2_with fail
                have hcon := IH.out ((some ad)) (C1) (na) (nb - 1) (ca) (cc - 1) (a) (b.drop 1)
                refine (hcon _ (hna) (by rw [List.length_drop, hnb]) (by omega) (by omega) (by exact ha) (by omega) (by omega) (by exact hrC1) (by omega) (by omega) (by exact hf) (by exact hs) (OA.out) (OB.out.drop 1)).mono ?_
                rw [HQ.out]
                clear hcon
                rintro e w5 ⟨A5, k5, rfl, t1, t2, r5, hb5⟩
                have hb5' : Below w.heap.size w w5 := (by first | exact hb5 | exact below_undrew hb5 | exact below_undrewN hb5 | exact below_undrew (below_undrewN hb5))
                clear hb5
                have hz5 := hb5'.size
                go_wp2_with (at_builtin; refine wpList_app _ rfl (.tmp 128) (.tmp 129) 22 rfl w5.heap.size 3 (.int .i64 0) 8 Try.underlying22 int_info rfl (.slice (some ⟨w5.heap.size, 0, none⟩) 1 1) 1 [.int .i64 y] rfl (own_lit w5 _ _) w5.heap.size A5 m.length k5 (iv m) (iv_length _) rfl (r5.alloc (Nat.le_refl _) _) (iv_one _) (by omega) (by omega) (by simp) ?_; intro v6 w6 ho6 hg6 hb6 hn6)
                go_ret2
                have ho7 := own_jn (l := [y]) (m := m) (l' := y :: m) ho6 rfl
                obtain ⟨A7, c7, rfl, g1, g2, r7⟩ := own_slI ho7
                have hb7 : Below w5.heap.size w5 w6 := ((Below.refl _ _).alloc (Nat.le_refl _) _).trans (by exact hb6)
                exact ⟨A7, c7, rfl, g1, g2, r7, hb5'.trans (hb7.mono hz5)⟩
        | true =>
          cases qf : hasB f y with
          | false =>
            have hxy : x ≠ y := by rintro rfl; rw [ox] at qf; cases qf
            have hne : (x == y) = false := by simpa using hxy
            have e : refM f s (n + 1) a b = (refM f s n (a) (b.drop 1)).map (y :: ·) := by simp [refM, HX.out, HY.out, qs, qf]
            have E := Lib.hid e; clear e
            cases hq : refM f s n (a) (b.drop 1) with
            | none =>
              have e2 := E.out
              rw [hq] at e2
              rw [e2]
              clear e2
              have HQ := Lib.hid hq; clear hq
              go_enter Try.func23, Try.ntmps23
              go_wp2_with fail
              refine (ref_Has' S cs s x true qs w (by exact hs) hs1 hs2).mono ?_
              rintro e w' ⟨rfl, rfl⟩
              go_wp2_with fail
              refine (ref_Has' F cf f y false qf w (by exact hf) hf1 hf2).mono ?_
              rintro e w' ⟨rfl, rfl⟩
              go_wp2_with fail
              go_quiet (fail)
              go_wp2_with fail
              refine (ref_Has' S cs s y true oy (w.drewN _) (by exact hs) hs1 hs2).mono ?_
              rintro e w' ⟨rfl, rfl⟩
              go_wp2_with fail
              have hcon := IH.out ((some ad)) (C1) (na) (nb - 1) (ca) (cc - 1) (a) (b.drop 1)
              refine (hcon _ (hna) (by rw [List.length_drop, hnb]) (by omega) (by omega) (by exact ha) (by omega) (by omega) (by exact hrC1) (by omega) (by omega) (by exact hf) (by exact hs) (OA.out) (OB.out.drop 1)).mono ?_
              rw [HQ.out]
              clear hcon
              rintro e w5 ⟨A5, k5, rfl, t1, t2, r5, hb5⟩
              have hb5' : Below w.heap.size w w5 := (by first | exact hb5 | exact below_undrew hb5 | exact below_undrewN hb5 | exact below_undrew (below_undrewN hb5))
              clear hb5
              go_wp2
              go_ret2
              exact ⟨none, 0, rfl, Nat.le_refl _, by omega, RdI.nil, hb5'⟩
            | some m =>
              have e2 := E.out
              rw [hq] at e2
              rw [e2]
              clear e2
              have hm := refM_le f s n _ _ _ hq
              have HQ := Lib.hid hq; clear hq
              go_enter Try.func23, Try.ntmps23
              go_wp2_with fail
              refine (ref_Has' S cs s x true qs w (by exact hs) hs1 hs2).mono ?_
              rintro e w' ⟨rfl, rfl⟩
              go_wp2_with fail
              refine (ref_Has' F cf f y false qf w (by exact hf) hf1 hf2).mono ?_
              rintro e w' ⟨rfl, rfl⟩
              go_wp2_with fail
              go_quiet (fail)
              go_wp2_with fail
              refine (ref_Has' S cs s y true oy (w.drewN _) (by exact hs) hs1 hs2).mono ?_
              rintro e w' ⟨rfl, rfl⟩
              go_wp2_with fail
              have hcon := IH.out ((some ad)) (C1) (na) (nb - 1) (ca) (cc - 1) (a) (b.drop 1)
              refine (hcon _ (hna) (by rw [List.length_drop, hnb]) (by omega) (by omega) (by exact ha) (by omega) (by omega) (by exact hrC1) (by omega) (by omega) (by exact hf) (by exact hs) (OA.out) (OB.out.drop 1)).mono ?_
              rw [HQ.out]
              clear hcon
              rintro e w5 ⟨A5, k5, rfl, t1, t2, r5, hb5⟩
              have hb5' : Below w.heap.size w w5 := (by first | exact hb5 | exact below_undrew hb5 | exact below_undrewN hb5 | exact below_undrew (below_undrewN hb5))
              clear hb5
              have hz5 := hb5'.size
              go_wp2_with (at_builtin; refine wpList_app _ rfl (.tmp 128) (.tmp 129) 22 rfl w5.heap.size 3 (.int .i64 0) 8 Try.underlying22 int_info rfl (.slice (some ⟨w5.heap.size, 0, none⟩) 1 1) 1 [.int .i64 y] rfl (own_lit w5 _ _) w5.heap.size A5 m.length k5 (iv m) (iv_length _) rfl (r5.alloc (Nat.le_refl _) _) (iv_one _) (by omega) (by omega) (by simp) ?_; intro v6 w6 ho6 hg6 hb6 hn6)
              go_ret2
              have ho7 := own_jn (l := [y]) (m := m) (l' := y :: m) ho6 rfl
              obtain ⟨A7, c7, rfl, g1, g2, r7⟩ := own_slI ho7
              have hb7 : Below w5.heap.size w5 w6 := ((Below.refl _ _).alloc (Nat.le_refl _) _).trans (by exact hb6)
              exact ⟨A7, c7, rfl, g1, g2, r7, hb5'.trans (hb7.mono hz5)⟩
          | true =>
            by_cases hxy : x = y
            · subst hxy
              have e : refM f s (n + 1) a b = (refM f s n (a.drop 1) (b.drop 1)).map (x :: ·) := by simp [refM, HX.out, HY.out, qs, qf]
              have E := Lib.hid e; clear e
              cases hq : refM f s n (a.drop 1) (b.drop 1) with
              | none =>
                have e2 := E.out
                rw [hq] at e2
                rw [e2]
                clear e2
                have HQ := Lib.hid hq; clear hq
                go_enter Try.func23, Try.ntmps23
                go_wp2_with fail
                refine (ref_Has' S cs s x true qs w (by exact hs) hs1 hs2).mono ?_
                rintro e w' ⟨rfl, rfl⟩
                go_wp2_with fail
                refine (ref_Has' F cf f x true qf w (by exact hf) hf1 hf2).mono ?_
                rintro e w' ⟨rfl, rfl⟩
                go_wp2_with fail
                go_quiet ((go_at_call 48; refine quiet_same (ref_Has' S cs s x true qs _ (by exact hs) hs1 hs2)))
                go_wp2_with fail
                refine (ref_Has' S cs s x true qs (w.drewN _) (by exact hs) hs1 hs2).mono ?_
                rintro e w' ⟨rfl, rfl⟩
                go_wp2_with fail
                have hcon := IH.out (A1) (C1) (na - 1) (nb - 1) (ca - 1) (cc - 1) (a.drop 1) (b.drop 1)
                refine (hcon _ (by rw [List.length_drop, hna]) (by rw [List.length_drop, hnb]) (by omega) (by omega) (by exact hrA1) (by omega) (by omega) (by exact hrC1) (by omega) (by omega) (by exact hf) (by exact hs) (OA.out.drop 1) (OB.out.drop 1)).mono ?_
                rw [HQ.out]
                clear hcon
                rintro e w5 ⟨A5, k5, rfl, t1, t2, r5, hb5⟩
                have hb5' : Below w.heap.size w w5 := (by first | exact hb5 | exact below_undrew hb5 | exact below_undrewN hb5 | exact below_undrew (below_undrewN hb5))
                clear hb5
                go_wp2
                go_ret2
                exact ⟨none, 0, rfl, Nat.le_refl _, by omega, RdI.nil, hb5'⟩
              | some m =>
                have e2 := E.out
                rw [hq] at e2
                rw [e2]
                clear e2
                have hm := refM_le f s n _ _ _ hq
                have HQ := Lib.hid hq; clear hq
                go_enter Try.func23, Try.ntmps23
                go_wp2_with fail
                refine (ref_Has' S cs s x true qs w (by exact hs) hs1 hs2).mono ?_
                rintro e w' ⟨rfl, rfl⟩
                go_wp2_with fail
                refine (ref_Has' F cf f x true qf w (by exact hf) hf1 hf2).mono ?_
                rintro e w' ⟨rfl, rfl⟩
                go_wp2_with fail
                go_quiet ((go_at_call 48; refine quiet_same (ref_Has' S cs s x true qs _ (by exact hs) hs1 hs2)))
                go_wp2_with fail
                refine (ref_Has' S cs s x true qs (w.drewN _) (by exact hs) hs1 hs2).mono ?_
                rintro e w' ⟨rfl, rfl⟩
                go_wp2_with fail
                have hcon := IH.out (A1) (C1) (na - 1) (nb - 1) (ca - 1) (cc - 1) (a.drop 1) (b.drop 1)
                refine (hcon _ (by rw [List.length_drop, hna]) (by rw [List.length_drop, hnb]) (by omega) (by omega) (by exact hrA1) (by omega) (by omega) (by exact hrC1) (by omega) (by omega) (by exact hf) (by exact hs) (OA.out.drop 1) (OB.out.drop 1)).mono ?_
                rw [HQ.out]
                clear hcon
                rintro e w5 ⟨A5, k5, rfl, t1, t2, r5, hb5⟩
                have hb5' : Below w.heap.size w w5 := (by first | exact hb5 | exact below_undrew hb5 | exact below_undrewN hb5 | exact below_undrew (below_undrewN hb5))
                clear hb5
                have hz5 := hb5'.size
                go_wp2_with (at_builtin; refine wpList_app _ rfl (.tmp 128) (.tmp 129) 22 rfl w5.heap.size 3 (.int .i64 0) 8 Try.underlying22 int_info rfl (.slice (some ⟨w5.heap.size, 0, none⟩) 1 1) 1 [.int .i64 x] rfl (own_lit w5 _ _) w5.heap.size A5 m.length k5 (iv m) (iv_length _) rfl (r5.alloc (Nat.le_refl _) _) (iv_one _) (by omega) (by omega) (by simp) ?_; intro v6 w6 ho6 hg6 hb6 hn6)
                go_ret2
                have ho7 := own_jn (l := [x]) (m := m) (l' := x :: m) ho6 rfl
                obtain ⟨A7, c7, rfl, g1, g2, r7⟩ := own_slI ho7
                have hb7 : Below w5.heap.size w5 w6 := ((Below.refl _ _).alloc (Nat.le_refl _) _).trans (by exact hb6)
                exact ⟨A7, c7, rfl, g1, g2, r7, hb5'.trans (hb7.mono hz5)⟩
            · have hne : (x == y) = false := by simpa using hxy
              have e : refM f s (n + 1) a b = none := by simp [refM, HX.out, HY.out, qs, qf, hxy]
              rw [e]
              clear e IH
              go_enter Try.func23, Try.ntmps23
              go_wp2_with fail
              refine (ref_Has' S cs s x true qs w (by exact hs) hs1 hs2).mono ?_
              rintro e w' ⟨rfl, rfl⟩
              go_wp2_with fail
              refine (ref_Has' F cf f y true qf w (by exact hf) hf1 hf2).mono ?_
              rintro e w' ⟨rfl, rfl⟩
              go_wp2_with fail
              go_quiet (fail)
              go_wp2
              go_ret2
              exact ⟨none, 0, rfl, Nat.le_refl _, by omega, RdI.nil, (by first | exact Below.refl _ _ | exact (Below.refl _ _).drew | exact below_drewN (Below.refl _ _) _ | exact (below_drewN (Below.refl _ _) _).drew)⟩
end Go.Proofs.Ytcbhencebflgcaa
