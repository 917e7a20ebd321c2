/- Walks: slices.CompactFunc over slices of ints; the comparison that it is given. -/
import Derived.Test.YtcbhencebflgcaaWf
import Derived.Lib.SliceRun
namespace Go.Proofs.Ytcbhencebflgcaa
open Go.RowKit Go

set_option maxHeartbeats 400000 in
theorem shuffles_2 (A C : Option Addr) (c d : Nat) (a b : List Int) (w : World) (ha : RdI w w.heap.size A a) (hac : a.length ≤ c) (hc : c ≤ 9223372036854775807) (hb : RdI w w.heap.size C b) :
    Calls Try.prog 59 #[.slice A a.length c, .slice C b.length d] w fun e w' => e = .returned (.bool (eqB a b)) ∧ ∃ n, w' = w.drewN n := by
  go_enter Try.func59, Try.ntmps59
  go_wp2_with (go_at_call 49; refine (slices_Equal _ _ _ _ _ _ _ ha hac hc hb).mono ?_; rintro e w' ⟨rfl, n, rfl⟩)
  go_ret
  exact ⟨rfl, (by first | exact dr00 _ | exact dr0 _ _ | exact dr1 _ _ _ | exact dr2 _ _ _ _ | exact dr3 _ _ _ _ _)⟩

/-- a quiet call where the world has drawn before -/
theorem quiet_add {P : Program} {f : FuncId} {args : Array Value} {w : World} {a n : Nat} {v : Value} (h : Calls P f args (w.drewN (a + n)) fun e w' => e = .returned v ∧ ∃ m, w' = (w.drewN (a + n)).drewN m) :
    Calls P f args (w.drewN (a + n)) fun e w' => e = .returned v ∧ ∃ m, w' = w.drewN (a + m) :=
  h.mono fun _ _ ⟨he, m, hm⟩ => ⟨he, n + m, by rw [hm, World.drewN_drewN, Nat.add_assoc]⟩

section
variable {w : World} {base : Nat} {e : TypeId} {g n cap : Nat} {xs : List Value}
theorem own_prefix (h : w.ownsRow base e 1 (.slice (some ⟨g, 0, none⟩) n cap) n xs) {k : Nat} (hk : k ≤ n) : w.ownsRow base e 1 (.slice (some ⟨g, 0, none⟩) k cap) k (xs.take k) := by
  rcases h.2 with ⟨h', _⟩ | ⟨g', cap', cur, h', hb, hg, hnc, hcm, hcs, ht⟩
  · cases h'
  · injection h' with h1 _ h3
    injection h1 with h1
    injection h1 with h1
    subst h1; subst h3
    refine ⟨by have := h.1; simp; omega, .inr ⟨g, cap, cur, rfl, hb, hg, by omega, hcm, hcs, ?_⟩⟩
    rw [← ht, List.take_take]
    congr 1
    omega
theorem own_setCells : ∀ (vs : List Value) (o : Nat) (w : World) (xs : List Value), w.ownsRow base e 1 (.slice (some ⟨g, 0, none⟩) n cap) n xs →
    ∃ ys, (w.setCells g o vs).ownsRow base e 1 (.slice (some ⟨g, 0, none⟩) n cap) n ys ∧ ys.take o = xs.take o ∧ w.grownBy (w.setCells g o vs) (some g)
  | [], o, w, xs, h => ⟨xs, h, rfl, World.grownBy.refl w _⟩
  | v :: vs, o, w, xs, h => by
    obtain ⟨h1, h2⟩ := h.stored o v
    obtain ⟨ys, h3, h4, h5⟩ := own_setCells vs (o + 1) _ _ h1
    refine ⟨ys, h3, ?_, h2.trans h5⟩
    have e1 : ys.take o = (ys.take (o + 1)).take o := by rw [List.take_take]; congr 1; omega
    rw [e1, h4, List.take_take, show min o (o + 1) = o by omega, List.take_set_of_le (by omega)]
end

theorem own_at {w : World} {base : Nat} {e : TypeId} {g n cap k : Nat} {s : SlV} {vs : List Value} (h : w.ownsRow base e 1 (.slice (some ⟨g, 0, none⟩) n cap) n vs) (hv : vs[k]? = some s.v) : w.cell? ⟨g, k, none⟩ = some (.slice s.A s.l.length s.c) := by
  have hk : k < n := by have := (List.getElem?_eq_some_iff.1 hv).1; have := h.1; omega
  rw [h.cellAt k (by omega), hv]
  rfl

def okK (B : Nat) (w : World) (xs : List SlV) : Prop := ∀ s ∈ xs, RdK 3 B w s.A s.l ∧ s.l.length ≤ s.c ∧ s.c ≤ 9223372036854775807
theorem okK.fr {B : Nat} {w w' : World} {xs : List SlV} (h : okK B w xs) (hf : Fr 3 B w w') : okK B w' xs := fun s hs => ⟨(h s hs).1.fr hf, (h s hs).2⟩
theorem okK.at_ {B : Nat} {w : World} {xs : List SlV} (h : okK B w xs) {k : Nat} {s : SlV} (hs : xs[k]? = some s) : RdI w w.heap.size s.A s.l ∧ s.l.length ≤ s.c ∧ s.c ≤ 9223372036854775807 :=
  ⟨(h s (List.mem_of_getElem? hs)).1.rd, (h s (List.mem_of_getElem? hs)).2⟩

/-- the second loop's row: i done, the rest as it was -/
def CInv (xs : List SlV) (j i : Nat) (cur : List Value) : Prop :=
  i = (cpt SlV.l (xs.take j)).length ∧ cur.length = xs.length ∧ cur.take i = (cpt SlV.l (xs.take j)).map SlV.v ∧ cur.drop i = (xs.drop i).map SlV.v
theorem CInv.high {xs : List SlV} {j i k : Nat} {cur : List Value} {s : SlV} (h : CInv xs j i cur) (hk : i ≤ k) (hs : xs[k]? = some s) : cur[k]? = some s.v := by
  have h1 : (cur.drop i)[k - i]? = some s.v := by
    rw [h.2.2.2, List.getElem?_map, List.getElem?_drop, show i + (k - i) = k by omega, hs]; rfl
  rw [List.getElem?_drop, show i + (k - i) = k by omega] at h1
  exact h1
theorem CInv.skip {xs : List SlV} {j i : Nat} {cur : List Value} {x y : SlV} (h : CInv xs (j + 1) i cur) (hx : xs[j + 1]? = some x) (hy : xs[j]? = some y) (e : y.l = x.l) : CInv xs (j + 1 + 1) i cur := by
  unfold CInv at *
  rw [cpt_same SlV.l hx hy e]; exact h
theorem CInv.keep {xs : List SlV} {j i : Nat} {cur : List Value} {x y : SlV} (h : CInv xs (j + 1) i cur) (hx : xs[j + 1]? = some x) (hy : xs[j]? = some y) (e : y.l ≠ x.l) (hi : i < xs.length) : CInv xs (j + 1 + 1) (i + 1) (cur.set i x.v) := by
  obtain ⟨h1, h2, h3, h4⟩ := h
  unfold CInv
  rw [cpt_keep SlV.l hx hy e]
  refine ⟨by simp [h1], by simpa using h2, ?_, ?_⟩
  · rw [set_take _ _ _ (by omega), h3]; simp
  · rw [set_drop, ← List.drop_drop, h4, ← List.map_drop, List.drop_drop]

set_option maxHeartbeats 3200000 in
theorem slices_CompactFunc (B base : Nat) (xs : List SlV) (g cap : Nat) (w : World) (hown : w.ownsRow base 22 1 (.slice (some ⟨g, 0, none⟩) xs.length cap) xs.length (xs.map SlV.v)) (hok : okK B w xs)
    (hB : B ≤ base) (hbase : base ≤ w.heap.size) (h1 : 0 < xs.length) (h2 : xs.length ≤ 1000000) :
    Calls Try.prog 58 #[.slice (some ⟨g, 0, none⟩) xs.length cap, .func (.func 59) #[] #[]] w fun e w' => e = .returned (.slice (some ⟨g, 0, none⟩) (cpt SlV.l xs).length cap) ∧
      w'.ownsRow base 22 1 (.slice (some ⟨g, 0, none⟩) (cpt SlV.l xs).length cap) (cpt SlV.l xs).length ((cpt SlV.l xs).map SlV.v) ∧ Fr 3 B w w' := by
  obtain ⟨hcap, hcap2⟩ := own_cap hown
  have hgb : base ≤ g := ((hown.lt g rfl)).1
  have hnib : ∀ (w' : World) (cur : List Value), w'.ownsRow base 22 1 (.slice (some ⟨g, 0, none⟩) xs.length cap) xs.length cur → ¬ IntBlk 3 w' g := by
    rintro w' cur ho ⟨cs, fz, he⟩
    rcases ho.2 with ⟨hv, _⟩ | ⟨g', cap', cur', hv, _, hgg, _⟩
    · cases hv
    · injection hv with hv _ _
      injection hv with hv
      injection hv with hv
      subst hv
      rw [hgg] at he
      cases he
  have HNI := Lib.hid hnib; clear hnib
  by_cases hlt2 : xs.length < 2
  · have hone : cpt SlV.l xs = xs := by
      obtain ⟨x, rfl⟩ := List.length_eq_one_iff.1 (show xs.length = 1 by omega)
      exact cpt_one SlV.l x
    rw [hone]
    have HO := Lib.hid hown
    clear hown hone
    go_enter Try.func58, Try.ntmps58
    go_wp2
    go_ret
    exact ⟨rfl, HO.out, Fr.refl _ _ _⟩
  · have HO := Lib.hid hown
    have HK := Lib.hid hok
    clear hown hok
    go_enter Try.func58, Try.ntmps58
    go_wp2
    go_loopw [5] (fun i wr => ∃ (k m : Nat), k + 1 ≤ xs.length ∧ i = .int .i64 ((k + 1 : Nat) : Int) ∧ Hid (cpt SlV.l (xs.take (k + 1)) = xs.take (k + 1)) ∧ wr = w.drewN m) (fun i _ => xs.length - (intOf i).toNat)
    case atStart =>
      refine ⟨0, 0, by omega, rfl, ?_, rfl⟩
      cases xs with
      | nil => simp at h1
      | cons x r => exact Lib.hid (cpt_one SlV.l x)
    case round =>
      obtain ⟨k, m, hk, rfl, HC, rfl⟩ := hrel
      by_cases hlt : k + 1 < xs.length
      · obtain ⟨x, hx⟩ : ∃ x, xs[k + 1]? = some x := ⟨_, List.getElem?_eq_getElem hlt⟩
        obtain ⟨y, hy⟩ : ∃ y, xs[k]? = some y := ⟨_, List.getElem?_eq_getElem (by omega)⟩
        have cx := own_at HO.out (k := k + 1) (s := x) (by rw [List.getElem?_map, hx]; rfl)
        have cy := own_at HO.out (k := k) (s := y) (by rw [List.getElem?_map, hy]; rfl)
        obtain ⟨rx, lx, bx⟩ := HK.out.at_ hx
        obtain ⟨ry, ly, by'⟩ := HK.out.at_ hy
        have HX := Lib.hid hx; clear hx
        have HY := Lib.hid hy; clear hy
        have i1 : (k : Int) + 1 < (xs.length : Int) := by omega
        have i2 : (k : Int) < (xs.length : Int) := by omega
        cases hq : eqB x.l y.l with
        | false =>
          go_wp2_with fail
          go_quiet ((go_at_call 59; refine quiet_add (shuffles_2 _ _ _ _ _ _ _ (by exact rx) lx bx (by exact ry))))
          rw [hq]
          go_wp2
          go_roundw
          case rel => exact ⟨k + 1, _, by omega, by go_num, Lib.hid (by rw [cpt_keep SlV.l HX.out HY.out (fun e => eqB_ne hq e.symm), HC.out, take_snoc' HX.out]), rfl⟩
          case measure => simp [intOf]; omega
        | true =>
          go_wp2_with fail
          go_quiet ((go_at_call 59; refine quiet_add (shuffles_2 _ _ _ _ _ _ _ (by exact rx) lx bx (by exact ry))))
          rw [hq]
          go_wp2_with fail
          clear cx cy
          go_loopw [5, 7] (fun i q wr => ∃ (ii qq : Nat) (cur : List Value), i = .int .i64 ii ∧ q = .int .i64 ((qq + 1 : Nat) : Int) ∧ k + 1 + (qq + 1) ≤ xs.length ∧ ii ≤ k + 1 + qq ∧ Hid (CInv xs (k + 1 + qq + 1) ii cur) ∧
            Hid (wr.ownsRow base 22 1 (.slice (some ⟨g, 0, none⟩) xs.length cap) xs.length cur) ∧ Fr 3 B w wr) (fun _ q _ => xs.length - (k + 1) - (intOf q).toNat)
          case atStart =>
            refine ⟨k + 1, 0, xs.map SlV.v, rfl, rfl, by omega, by omega, ?_, ?_, ?_⟩
            · refine ⟨?_, by simp, ?_, by rw [List.map_drop]⟩
              · rw [cpt_same SlV.l HX.out HY.out (eqB_eq hq).symm, HC.out, List.length_take]; omega
              · rw [cpt_same SlV.l HX.out HY.out (eqB_eq hq).symm, HC.out, List.map_take]
            · exact HO.out
            · exact ⟨rfl, rfl, rfl, Nat.le_refl _, fun _ _ => rfl, fun _ _ _ h => h⟩
          case round =>
            obtain ⟨ii, qq, cur, rfl, rfl, hqq, hii, HI, HR, hfr⟩ := hrel
            have hk' := HK.out.fr hfr
            by_cases hlt2 : k + 1 + (qq + 1) < xs.length
            · obtain ⟨x2, hx2⟩ : ∃ x, xs[k + 1 + qq + 1]? = some x := ⟨_, List.getElem?_eq_getElem (by omega)⟩
              obtain ⟨y2, hy2⟩ : ∃ y, xs[k + 1 + qq]? = some y := ⟨_, List.getElem?_eq_getElem (by omega)⟩
              have cx := own_at HR.out (HI.out.high (by omega) hx2)
              have cy := own_at HR.out (HI.out.high (by omega) hy2)
              rw [show k + 1 + qq + 1 = k + 1 + (qq + 1) from rfl] at cx
              obtain ⟨rx2, lx2, bx2⟩ := hk'.at_ hx2
              obtain ⟨ry2, ly2, by2⟩ := hk'.at_ hy2
              have HX2 := Lib.hid hx2; clear hx2
              have HY2 := Lib.hid hy2; clear hy2
              have HK2 := Lib.hid hk'
              clear hk'
              have j1 : (qq : Int) + 1 < ((xs.length - (k + 1) : Nat) : Int) := by omega
              have j2 : (qq : Int) < ((xs.length - (k + 1) : Nat) : Int) := by omega
              cases hq2 : eqB x2.l y2.l with
              | true =>
                go_wp2_with fail
                go_quiet ((go_at_call 59; refine Calls.quiet_of (shuffles_2 _ _ _ _ _ _ _ (by exact rx2) lx2 bx2 (by exact ry2))))
                rw [hq2]
                go_wp2
                go_roundw
                case rel => exact ⟨ii, qq + 1, cur, rfl, by go_num, by omega, by omega, HI.out.skip HX2.out HY2.out (eqB_eq hq2).symm, HR.out, ⟨hfr.os, hfr.tape, hfr.output, hfr.size, hfr.old, hfr.int⟩⟩
                case measure => simp [intOf]; omega
              | false =>
                have ci : wr.cell? ⟨g, ii, none⟩ = cur[ii]? := HR.out.cellAt ii (by omega)
                rw [List.getElem?_eq_getElem (by have := HI.out.2.1; omega)] at ci
                have fi : wr.frozen? ⟨g, ii, none⟩ = false := HR.out.frozenAt ii
                have hil : (ii : Int) < (xs.length : Int) := by omega
                generalize cur[ii]'(by have := HI.out.2.1; omega) = old at ci
                go_wp2_with fail
                go_quiet ((go_at_call 59; refine Calls.quiet_of (shuffles_2 _ _ _ _ _ _ _ (by exact rx2) lx2 bx2 (by exact ry2))))
                rw [hq2]
                go_wp2
                go_roundw
                case rel =>
                  have hst := HR.out.stored ii (.slice x2.A x2.l.length x2.c)
                  refine ⟨ii + 1, qq + 1, cur.set ii (.slice x2.A x2.l.length x2.c), by go_num, by go_num, by omega, by omega, HI.out.keep HX2.out HY2.out (fun e => eqB_ne hq2 e.symm) (by omega), hst.1, ?_⟩
                  have h9 := hfr.trans (Fr.setCell (p := ⟨g, ii, none⟩) (.slice x2.A x2.l.length x2.c) (by show B ≤ g; omega) (HNI.out _ cur HR.out))
                  exact ⟨h9.os, h9.tape, h9.output, h9.size, h9.old, h9.int⟩
                case measure => simp [intOf]; omega
            · have hend : k + 1 + qq + 1 = xs.length := by omega
              have hi2 := HI.out
              rw [hend] at hi2
              unfold CInv at hi2
              rw [List.take_length] at hi2
              obtain ⟨i1', i2', i3', i4'⟩ := hi2
              have hcl : ∀ ty, (Builtin.clear_ #[45] ty #[.slice (some ⟨g, 0 + ii, none⟩) (xs.length - ii) (cap - ii)]).run Try.prog wr = .ok (.tuple #[]) (wr.setCells g (0 + ii) (List.replicate (xs.length - ii) (.slice none 0 0))) :=
                fun ty => Lib.run_clear_slice wr _ _ ty _ Try.underlying45 Try.zeroValue22 rfl rfl g (0 + ii) _ _ (by omega) (fun j hj => by rw [HR.out.cellAt _ (by omega), List.getElem?_eq_getElem (by omega)]; rfl) (fun j hj => HR.out.frozenAt _)
              rw [Nat.zero_add] at hcl
              obtain ⟨ys, ho2, ht2, hg2⟩ := own_setCells (List.replicate (xs.length - ii) (.slice none 0 0)) ii wr cur HR.out
              have hpre := own_prefix ho2 (k := ii) (by omega)
              rw [ht2, i3'] at hpre
              have hfr2 : Fr 3 B w (wr.setCells g ii (List.replicate (xs.length - ii) (.slice none 0 0))) := hfr.trans (Fr.grown hg2 (fun g' hg' => by injection hg' with hg'; subst hg'; exact ⟨by omega, HNI.out _ cur HR.out⟩) (Nat.le_trans hB (Nat.le_trans hbase hfr.size)))
              have hil : (ii : Int) ≤ (xs.length : Int) := by omega
              have hcne : ¬ cap = ii := by omega
              have HP := Lib.hid hpre; clear hpre
              have HF := Lib.hid hfr2; clear hfr2
              have I1 := Lib.hid i1'; clear i1'
              clear ho2 ht2 hg2 i3' i4' hk'
              go_wp2
              go_ret
              rw [← I1.out]
              exact ⟨rfl, HP.out, HF.out⟩
      · have hend : k + 1 = xs.length := by omega
        have hc := HC.out
        rw [hend, List.take_length] at hc
        have HC2 := Lib.hid hc; clear hc
        go_wp2
        go_ret
        rw [HC2.out]
        exact ⟨rfl, HO.out, Fr.of_below (below_drewN (Below.refl _ _) _) (Nat.le_trans hB hbase)⟩
end Go.Proofs.Ytcbhencebflgcaa
