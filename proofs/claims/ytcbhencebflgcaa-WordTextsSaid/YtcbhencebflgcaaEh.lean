/- Walks: the reference's Find and Check of an alphabet. -/
import Derived.Test.YtcbhencebflgcaaEg
import Derived.Test.YtcbhencebflgcaaEf
import Derived.Test.YtcbhencebflgcaaPt
import Derived.Deep.QuietTactic
import Derived.BigQuiet
namespace Go.Proofs.Ytcbhencebflgcaa
open Go.RowKit Go

theorem fnd_none : ∀ {names : List ByteArray} {s : ByteArray}, inB names s = false → fnd names s = -1
  | [], _, _ => rfl
  | a :: r, s, h => by
    unfold inB at h
    simp only [List.any_cons, Bool.or_eq_false_iff, decide_eq_false_iff_not] at h
    have ih : fnd r s = -1 := fnd_none (by unfold inB; exact h.2)
    unfold fnd
    rw [if_neg h.1, ih, if_pos (by omega)]
theorem fnd_hit : ∀ {names : List ByteArray} {k : Nat} {s : ByteArray}, names[k]? = some s → inB (names.take k) s = false → fnd names s = k
  | [], k, s, h, _ => by simp at h
  | a :: r, 0, s, h, _ => by
    simp at h; subst h; simp [fnd]
  | a :: r, k + 1, s, h, hn => by
    unfold inB at hn
    simp only [List.take_succ_cons, List.any_cons, Bool.or_eq_false_iff, decide_eq_false_iff_not] at hn
    have ih := fnd_hit (names := r) (k := k) (s := s) (by simpa using h) (by unfold inB; exact hn.2)
    unfold fnd
    rw [if_neg hn.1, ih, if_neg (by omega)]
    omega
theorem fnd_in {names : List ByteArray} {s : ByteArray} : decide (0 ≤ fnd names s) = inB names s := by
  cases h : inB names s with
  | false => rw [fnd_none h]; rfl
  | true =>
    obtain ⟨k, hk⟩ := List.getElem?_of_mem (inB_iff.1 h)
    have : ∀ (l : List ByteArray), inB l s = true → 0 ≤ fnd l s := by
      intro l
      induction l with
      | nil => intro h; simp [inB] at h
      | cons a r ih =>
        intro h
        unfold fnd
        split
        · omega
        · split
          · rename_i h1 h2
            have : inB r s = true := by
              unfold inB at h ⊢
              simp only [List.any_cons, Bool.or_eq_true, decide_eq_true_eq] at h
              rcases h with h | h
              · exact absurd h h1
              · exact h
            have := ih this; omega
          · rename_i h1 h2; omega
    simpa using this names h
theorem inB_step {l : List Ev} {k : Nat} {e : Ev} {s : ByteArray} (h : inB ((l.take k).map Ev.nm) s = false) (he : l[k]? = some e) (hs : e.nm ≠ s) : inB ((l.take (k + 1)).map Ev.nm) s = false := by
  rw [names_snoc he]
  unfold inB at h ⊢
  rw [List.any_append, h]; simp [hs]

theorem str_ne {a b : ByteArray} (h : a ≠ b) : (a.toList == b.toList) = false := by
  rw [ByteArray.toList_eq, ByteArray.toList_eq, beq_eq_false_iff_ne]
  exact fun e => h (bytes_eq e)

set_option maxHeartbeats 1600000 in
theorem ref01_Find (A : Option Addr) (c n : Nat) (l : List Ev) (s : ByteArray) (w : World) (hl : l.length = n) (h : RdE w w.heap.size A l) (hc1 : n ≤ c) (hc2 : c ≤ 9223372036854775807) :
    Calls Try.prog 79 #[.slice A n c, .string s] w fun e w' => e = .returned (.int .i64 (fnd (l.map Ev.nm) s)) ∧ w = w' := by
  have HL := Lib.hid hl; clear hl
  go_enter Try.func79, Try.ntmps79
  go_wp2
  go_loop [5] (fun i => ∃ k : Nat, k ≤ n ∧ i = .int .i64 k ∧ Hid (inB ((l.take k).map Ev.nm) s = false)) (fun i => n - (intOf i).toNat)
  case atStart => exact ⟨0, Nat.zero_le _, rfl, Lib.hid rfl⟩
  case round =>
    obtain ⟨k, hk, rfl, HX⟩ := hrel
    by_cases hlt : k < n
    · obtain ⟨ad, e, rfl, hb, he, hs, q0, q1, q2, q3, q4⟩ := h.at_ (k := k) (by have := HL.out; omega)
      have b1 : (k : Int) < (n : Int) := by omega
      by_cases heq : e.nm = s
      · have hf : fnd (l.map Ev.nm) s = k := fnd_hit (by rw [List.getElem?_map, he, ← heq]; rfl) (by rw [← List.map_take]; exact HX.out)
        have HF := Lib.hid hf; clear hf
        have HE := Lib.hid he; clear he
        subst heq
        go_wp2
        go_ret
        exact ⟨ret_int HF.out.symm, rfl⟩
      · have HS := Lib.hid (inB_step HX.out he heq)
        have hne := str_ne heq
        have HE := Lib.hid he; clear he
        go_wp2
        go_round
        case rel => exact ⟨k + 1, by omega, by go_num, HS⟩
        case measure => simp [intOf]; omega
    · have hf : fnd (l.map Ev.nm) s = -1 := fnd_none (by have := HX.out; rwa [List.take_of_length_le (by have := HL.out; omega)] at this)
      have HF := Lib.hid hf; clear hf
      go_wp2
      go_ret
      exact ⟨ret_int HF.out.symm, rfl⟩
theorem refName_q (s : ByteArray) (q : Bool) (hq : nameB s = q) (w : World) (hs : s.size ≤ 9223372036854775807) :
    Calls Try.prog 78 #[.string s] w fun e w' => e = .returned (.bool q) ∧ w = w' := by subst hq; exact ref_IsName s w hs
theorem refFind_q (A : Option Addr) (c n : Nat) (l : List Ev) (s : ByteArray) (r : Int) (hr : fnd (l.map Ev.nm) s = r) (w : World) (hl : l.length = n) (h : RdE w w.heap.size A l) (hc1 : n ≤ c) (hc2 : c ≤ 9223372036854775807) :
    Calls Try.prog 79 #[.slice A n c, .string s] w fun e w' => e = .returned (.int .i64 r) ∧ w = w' := by subst hr; exact ref01_Find A c n l s w hl h hc1 hc2
theorem quiet_id {P : Program} {f : FuncId} {args : Array Value} {w : World} {n : Nat} {v : Value} (h : Calls P f args (w.drewN n) fun e w' => e = .returned v ∧ w.drewN n = w') :
    Calls P f args (w.drewN n) fun e w' => e = .returned v ∧ ∃ m, w' = w.drewN m :=
  h.mono fun _ _ ⟨he, hw⟩ => ⟨he, n, hw.symm⟩


set_option maxRecDepth 100000 in
set_option maxHeartbeats 3200000 in
theorem ref01_Check (A : Option Addr) (c n : Nat) (l : List Ev) (w : World) (hl : l.length = n) (h : RdE w w.heap.size A l) (hc1 : n ≤ c) (hc2 : c ≤ 9223372036854775807) :
    Calls Try.prog 65 #[.slice A n c] w fun e w' => e = .returned (.int .i64 (chkE l)) ∧ Below w.heap.size w w' := by
  by_cases h32 : 32 < n
  · have hr : chkE l = 3 := by unfold chkE; rw [if_pos (by omega)]
    rw [hr]
    clear hr hl
    go_enter Try.func65, Try.ntmps65
    go_wp2
    go_ret
    exact ⟨rfl, Below.refl _ _⟩
  · have hg : chkE l = chkG ((l.take 0).map Ev.nm) (l.drop 0) := by unfold chkE; rw [if_neg (by omega)]; rfl
    have HL := Lib.hid hl; clear hl
    have HG := Lib.hid hg; clear hg
    go_enter Try.func65, Try.ntmps65
    go_wp2
    go_loopw [3] (fun i wr => ∃ k : Nat, k ≤ n ∧ i = .int .i64 k ∧ Hid (chkE l = chkG ((l.take k).map Ev.nm) (l.drop k)) ∧ Below w.heap.size w wr) (fun i _ => n - (intOf i).toNat)
    case atStart => exact ⟨0, Nat.zero_le _, rfl, HG, Below.refl _ _⟩
    case round =>
      obtain ⟨k, hk, rfl, HX, hbel⟩ := hrel
      clear HG
      have hsz := hbel.size
      by_cases hlt : k < n
      · obtain ⟨ad, e, rfl, hb, he, hs, q0, q1, q2, q3, q4⟩ := (h.below hbel).at_ (k := k) (by have := HL.out; omega)
        have HE := Lib.hid he; clear he
        have b1 : (k : Int) < (n : Int) := by omega
        have hkc : k ≤ c := by omega
        have htk : (l.take k).length = k := by rw [List.length_take, HL.out]; omega
        have HTK := Lib.hid htk; clear htk
        have p1 : wr.cell? ⟨(ad.add (k * 5)).block, (ad.add (k * 5)).off + 1, none⟩ = some (.bool e.c) := ev_cells (j := 0) q1
        have p2 : wr.cell? ⟨(ad.add (k * 5)).block, (ad.add (k * 5)).off + 2, none⟩ = some (.bool e.o) := ev_cells (j := 1) q2
        have p3 : wr.cell? ⟨(ad.add (k * 5)).block, (ad.add (k * 5)).off + 3, none⟩ = some (.bool e.f) := ev_cells (j := 2) q3
        have p4 : wr.cell? ⟨(ad.add (k * 5)).block, (ad.add (k * 5)).off + 4, none⟩ = some (.int .i64 e.fault) := ev_cells (j := 3) q4
        clear q1 q2 q3 q4
        cases hnm : nameB e.nm with
        | false =>
          have HR := Lib.hid (chk_stop HX.out HE.out (ev7 hnm) (by decide))
          have HN := Lib.hid hnm; clear hnm
          go_wp2_with fail
          refine (refName_q e.nm false HN.out _ hs).mono ?_
          rintro e' w' ⟨rfl, rfl⟩
          go_wp2
          go_ret
          exact ⟨ret_int HR.out.symm, (by first | exact Below.alloc hbel hbel.size _ | exact below_drewN (Below.alloc hbel hbel.size _) _ | exact (below_drewN (Below.alloc hbel hbel.size _) _).drew)⟩
        | true =>
          obtain ⟨r, hr⟩ : ∃ r, fnd ((l.take k).map Ev.nm) e.nm = r := ⟨_, rfl⟩
          have hri := fnd_in (names := (l.take k).map Ev.nm) (s := e.nm)
          rw [hr] at hri
          cases hin : inB ((l.take k).map Ev.nm) e.nm with
          | true =>
            rw [hin] at hri
            have HR := Lib.hid (chk_stop HX.out HE.out (ev8 hnm hin) (by decide))
            have rdk : RdE (wr.alloc (.cells #[.string e.nm, .bool e.c, .bool e.o, .bool e.f, .int .i64 e.fault] 79)) (wr.alloc (.cells #[.string e.nm, .bool e.c, .bool e.o, .bool e.f, .int .i64 e.fault] 79)).heap.size (some ad) (l.take k) := (((h.below hbel).take k).keep (fun p hp => World.cell?_alloc_lt _ _ _ (by omega))).more (by simp; omega)
            have HR0 := Lib.hid hr; clear hr
            have HN := Lib.hid hnm; clear hnm
            have HI := Lib.hid hin; clear hin
            go_wp2_with fail
            refine (refName_q e.nm true HN.out _ hs).mono ?_
            rintro e' w' ⟨rfl, rfl⟩
            go_wp2
            go_quiet ((go_at_call 79; refine quiet_id (refFind_q (some ad) c k (l.take k) e.nm r HR0.out _ HTK.out (by exact rdk) hkc hc2)))
            go_wp2
            go_ret
            exact ⟨ret_int HR.out.symm, (by first | exact Below.alloc hbel hbel.size _ | exact below_drewN (Below.alloc hbel hbel.size _) _ | exact (below_drewN (Below.alloc hbel hbel.size _) _).drew)⟩
          | false =>
            rw [hin] at hri
            by_cases f1 : e.fault < 0
            · have HR := Lib.hid (chk_stop HX.out HE.out (ev2 hnm hin (.inl f1)) (by decide))
              have rdk : RdE (wr.alloc (.cells #[.string e.nm, .bool e.c, .bool e.o, .bool e.f, .int .i64 e.fault] 79)) (wr.alloc (.cells #[.string e.nm, .bool e.c, .bool e.o, .bool e.f, .int .i64 e.fault] 79)).heap.size (some ad) (l.take k) := (((h.below hbel).take k).keep (fun p hp => World.cell?_alloc_lt _ _ _ (by omega))).more (by simp; omega)
              have HR0 := Lib.hid hr; clear hr
              have HN := Lib.hid hnm; clear hnm
              have HI := Lib.hid hin; clear hin
              go_wp2_with fail
              refine (refName_q e.nm true HN.out _ hs).mono ?_
              rintro e' w' ⟨rfl, rfl⟩
              go_wp2
              go_quiet ((go_at_call 79; refine quiet_id (refFind_q (some ad) c k (l.take k) e.nm r HR0.out _ HTK.out (by exact rdk) hkc hc2)))
              go_wp2
              go_ret
              exact ⟨ret_int HR.out.symm, (by first | exact Below.alloc hbel hbel.size _ | exact below_drewN (Below.alloc hbel hbel.size _) _ | exact (below_drewN (Below.alloc hbel hbel.size _) _).drew)⟩
            · by_cases f2 : 4 < e.fault
              · have HR := Lib.hid (chk_stop HX.out HE.out (ev2 hnm hin (.inr f2)) (by decide))
                have rdk : RdE (wr.alloc (.cells #[.string e.nm, .bool e.c, .bool e.o, .bool e.f, .int .i64 e.fault] 79)) (wr.alloc (.cells #[.string e.nm, .bool e.c, .bool e.o, .bool e.f, .int .i64 e.fault] 79)).heap.size (some ad) (l.take k) := (((h.below hbel).take k).keep (fun p hp => World.cell?_alloc_lt _ _ _ (by omega))).more (by simp; omega)
                have HR0 := Lib.hid hr; clear hr
                have HN := Lib.hid hnm; clear hnm
                have HI := Lib.hid hin; clear hin
                go_wp2_with fail
                refine (refName_q e.nm true HN.out _ hs).mono ?_
                rintro e' w' ⟨rfl, rfl⟩
                go_wp2
                go_quiet ((go_at_call 79; refine quiet_id (refFind_q (some ad) c k (l.take k) e.nm r HR0.out _ HTK.out (by exact rdk) hkc hc2)))
                go_wp2
                go_ret
                exact ⟨ret_int HR.out.symm, (by first | exact Below.alloc hbel hbel.size _ | exact below_drewN (Below.alloc hbel hbel.size _) _ | exact (below_drewN (Below.alloc hbel hbel.size _) _).drew)⟩
              · have f12 : ¬ (e.fault < 0 ∨ 4 < e.fault) := by omega
                have d1 : decide (e.fault < 0) = false := decide_eq_false f1
                have d2 : decide (4 < e.fault) = false := decide_eq_false f2
                by_cases f3 : e.fault = 0
                · have HR := Lib.hid (ev0 hnm hin f12 (fun h => h.1 f3))
                  have d3 : decide (0 < e.fault) = false := decide_eq_false (by omega)
                  have F3 := Lib.hid f3; clear f3
                  have F12 := Lib.hid f12; clear f12
                  have rdk : RdE (wr.alloc (.cells #[.string e.nm, .bool e.c, .bool e.o, .bool e.f, .int .i64 e.fault] 79)) (wr.alloc (.cells #[.string e.nm, .bool e.c, .bool e.o, .bool e.f, .int .i64 e.fault] 79)).heap.size (some ad) (l.take k) := (((h.below hbel).take k).keep (fun p hp => World.cell?_alloc_lt _ _ _ (by omega))).more (by simp; omega)
                  have HR0 := Lib.hid hr; clear hr
                  have HN := Lib.hid hnm; clear hnm
                  have HI := Lib.hid hin; clear hin
                  go_wp2_with fail
                  refine (refName_q e.nm true HN.out _ hs).mono ?_
                  rintro e' w' ⟨rfl, rfl⟩
                  go_wp2
                  go_quiet ((go_at_call 79; refine quiet_id (refFind_q (some ad) c k (l.take k) e.nm r HR0.out _ HTK.out (by exact rdk) hkc hc2)))
                  go_wp2
                  go_roundw
                  case rel => exact ⟨k + 1, by omega, by go_num, Lib.hid (chk_go HX.out HE.out HR.out), (by first | exact Below.alloc hbel hbel.size _ | exact below_drewN (Below.alloc hbel hbel.size _) _)⟩
                  case measure => simp [intOf]; omega
                · have d3 : (0 : Int) < e.fault := by omega
                  cases hc : e.c with
                  | true =>
                    have HR := Lib.hid (chk_stop HX.out HE.out (ev13 hnm hin f12 f3 (.inl hc)) (by decide))
                    rw [hc] at p1
                    have HC := Lib.hid hc; clear hc
                    have F12 := Lib.hid f12; clear f12
                    have rdk : RdE (wr.alloc (.cells #[.string e.nm, .bool true, .bool e.o, .bool e.f, .int .i64 e.fault] 79)) (wr.alloc (.cells #[.string e.nm, .bool true, .bool e.o, .bool e.f, .int .i64 e.fault] 79)).heap.size (some ad) (l.take k) := (((h.below hbel).take k).keep (fun p hp => World.cell?_alloc_lt _ _ _ (by omega))).more (by simp; omega)
                    have HR0 := Lib.hid hr; clear hr
                    have HN := Lib.hid hnm; clear hnm
                    have HI := Lib.hid hin; clear hin
                    go_wp2_with fail
                    refine (refName_q e.nm true HN.out _ hs).mono ?_
                    rintro e' w' ⟨rfl, rfl⟩
                    go_wp2
                    go_quiet ((go_at_call 79; refine quiet_id (refFind_q (some ad) c k (l.take k) e.nm r HR0.out _ HTK.out (by exact rdk) hkc hc2)))
                    go_wp2
                    go_ret
                    exact ⟨ret_int HR.out.symm, (by first | exact Below.alloc hbel hbel.size _ | exact below_drewN (Below.alloc hbel hbel.size _) _ | exact (below_drewN (Below.alloc hbel hbel.size _) _).drew)⟩
                  | false =>
                    cases ho : e.o with
                    | true =>
                      have HR := Lib.hid (chk_stop HX.out HE.out (ev13 hnm hin f12 f3 (.inr ho)) (by decide))
                      rw [hc] at p1
                      rw [ho] at p2
                      have HC := Lib.hid hc; clear hc
                      have HO := Lib.hid ho; clear ho
                      have F12 := Lib.hid f12; clear f12
                      have rdk : RdE (wr.alloc (.cells #[.string e.nm, .bool false, .bool true, .bool e.f, .int .i64 e.fault] 79)) (wr.alloc (.cells #[.string e.nm, .bool false, .bool true, .bool e.f, .int .i64 e.fault] 79)).heap.size (some ad) (l.take k) := (((h.below hbel).take k).keep (fun p hp => World.cell?_alloc_lt _ _ _ (by omega))).more (by simp; omega)
                      have HR0 := Lib.hid hr; clear hr
                      have HN := Lib.hid hnm; clear hnm
                      have HI := Lib.hid hin; clear hin
                      go_wp2_with fail
                      refine (refName_q e.nm true HN.out _ hs).mono ?_
                      rintro e' w' ⟨rfl, rfl⟩
                      go_wp2
                      go_quiet ((go_at_call 79; refine quiet_id (refFind_q (some ad) c k (l.take k) e.nm r HR0.out _ HTK.out (by exact rdk) hkc hc2)))
                      go_wp2
                      go_ret
                      exact ⟨ret_int HR.out.symm, (by first | exact Below.alloc hbel hbel.size _ | exact below_drewN (Below.alloc hbel hbel.size _) _ | exact (below_drewN (Below.alloc hbel hbel.size _) _).drew)⟩
                    | false =>
                      have HR := Lib.hid (ev0 hnm hin f12 (fun h => by rw [hc, ho] at h; simp at h))
                      rw [hc] at p1
                      rw [ho] at p2
                      have HC := Lib.hid hc; clear hc
                      have HO := Lib.hid ho; clear ho
                      have F12 := Lib.hid f12; clear f12
                      have rdk : RdE (wr.alloc (.cells #[.string e.nm, .bool false, .bool false, .bool e.f, .int .i64 e.fault] 79)) (wr.alloc (.cells #[.string e.nm, .bool false, .bool false, .bool e.f, .int .i64 e.fault] 79)).heap.size (some ad) (l.take k) := (((h.below hbel).take k).keep (fun p hp => World.cell?_alloc_lt _ _ _ (by omega))).more (by simp; omega)
                      have HR0 := Lib.hid hr; clear hr
                      have HN := Lib.hid hnm; clear hnm
                      have HI := Lib.hid hin; clear hin
                      go_wp2_with fail
                      refine (refName_q e.nm true HN.out _ hs).mono ?_
                      rintro e' w' ⟨rfl, rfl⟩
                      go_wp2
                      go_quiet ((go_at_call 79; refine quiet_id (refFind_q (some ad) c k (l.take k) e.nm r HR0.out _ HTK.out (by exact rdk) hkc hc2)))
                      go_wp2
                      go_roundw
                      case rel => exact ⟨k + 1, by omega, by go_num, Lib.hid (chk_go HX.out HE.out HR.out), (by first | exact Below.alloc hbel hbel.size _ | exact below_drewN (Below.alloc hbel hbel.size _) _)⟩
                      case measure => simp [intOf]; omega
      · have hfin : chkE l = 0 := by rw [HX.out, chkG_end (by have := HL.out; omega)]
        have HF := Lib.hid hfin; clear hfin
        go_wp2
        go_ret
        exact ⟨ret_int HF.out.symm, hbel⟩
end Go.Proofs.Ytcbhencebflgcaa
