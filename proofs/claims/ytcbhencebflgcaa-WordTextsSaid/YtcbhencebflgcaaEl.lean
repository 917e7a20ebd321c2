/- Walks: the reference's Parse. -/
import Derived.Test.YtcbhencebflgcaaEk
namespace Go.Proofs.Ytcbhencebflgcaa
open Go.RowKit Go

/-- is the byte before place p no blank? -/
def insB (l : List UInt8) : Nat → Bool
  | 0 => false
  | q + 1 => match l[q]? with | some d => !(d == 32) | none => false
theorem insB_succ {l : List UInt8} {p : Nat} {c : UInt8} (h : l[p]? = some c) : insB l (p + 1) = !(c == 32) := by
  show (match l[p]? with | some d => !(d == 32) | none => false) = _
  rw [h]
theorem rfs_blank {names : List ByteArray} {l : List UInt8} {p : Nat} {acc : List Int} {c : UInt8} (hc : l[p]? = some c) (h : c = 32) : rfs names (insB l p) (l.drop p) p acc = rfs names (insB l (p + 1)) (l.drop (p + 1)) (p + 1) acc := by
  rw [drop_cons' hc, insB_succ hc]; subst h; simp [rfs]
theorem rfs_in {names : List ByteArray} {l : List UInt8} {p : Nat} {acc : List Int} {c : UInt8} (hc : l[p]? = some c) (h : c ≠ 32) (hi : insB l p = true) : rfs names (insB l p) (l.drop p) p acc = rfs names (insB l (p + 1)) (l.drop (p + 1)) (p + 1) acc := by
  have hb : (!(c == 32)) = true := by simpa using h
  rw [drop_cons' hc, insB_succ hc, hi, hb]; simp [rfs, h]
theorem rfs_bad {names : List ByteArray} {l : List UInt8} {p : Nat} {acc : List Int} {c : UInt8} (hc : l[p]? = some c) (h : c ≠ 32) (hi : insB l p = false) (hf : fnd names (nameOf (l.drop p)) < 0) : rfs names (insB l p) (l.drop p) p acc = ([], (p : Int), 9) := by
  rw [hi]
  rw [drop_cons' hc] at hf ⊢
  simp [rfs, h, hf]
theorem rfs_tok {names : List ByteArray} {l : List UInt8} {p : Nat} {acc : List Int} {c : UInt8} {r : Int} (hc : l[p]? = some c) (h : c ≠ 32) (hi : insB l p = false) (hr : fnd names (nameOf (l.drop p)) = r) (hf : ¬ r < 0) : rfs names (insB l p) (l.drop p) p acc = rfs names (insB l (p + 1)) (l.drop (p + 1)) (p + 1) (acc ++ [r]) := by
  rw [hi, insB_succ hc]
  have e := drop_cons' hc
  rw [e] at hr ⊢
  have hb : (!(c == 32)) = true := by simpa using h
  rw [hb]
  simp only [rfs, if_neg h, Bool.false_eq_true, if_false]
  rw [hr, if_neg hf]
theorem tok_step {l : List UInt8} {k : Nat} {c : UInt8} (hc : l[k]? = some c) (h : c ≠ 32) : (tok (l.drop k)).length = 1 + (tok (l.drop (k + 1))).length := by
  rw [drop_cons' hc]
  have ht : tok (c :: l.drop (k + 1)) = c :: tok (l.drop (k + 1)) := by simp [tok, h]
  rw [ht, List.length_cons]; omega
theorem tok_stop {l : List UInt8} {k : Nat} (h : ∀ c, l[k]? = some c → c = 32) : (tok (l.drop k)).length = 0 := by
  cases hd : l.drop k with
  | nil => rfl
  | cons c r =>
    have : l[k]? = some c := by
      have := congrArg List.head? hd
      rw [List.head?_drop] at this
      simpa using this
    rw [h c this]; simp [tok]
theorem tok_take (r : List UInt8) : tok r = r.take (tok r).length := by
  have := List.takeWhile_prefix (p := fun c : UInt8 => !(c == 32)) (l := r)
  exact (List.prefix_iff_eq_take.1 this)
theorem ext_name {s : ByteArray} {p k : Nat} (_h1 : p ≤ k) (_h2 : k ≤ s.size) (h : (tok (s.data.toList.drop p)).length = k - p) : nameOf (s.data.toList.drop p) = s.extract p k := bytes_eq (by
  unfold nameOf
  show (tok (s.data.toList.drop p)).toArray.toList = _
  rw [tok_take, h]
  simp [ByteArray.data_extract])


set_option maxRecDepth 100000 in
set_option maxHeartbeats 3200000 in
theorem ref_Parse (A : Option Addr) (c n : Nat) (l : List Ev) (s : ByteArray) (w : World) (hl : l.length = n) (h : RdE w w.heap.size A l) (hc1 : n ≤ c) (hc2 : c ≤ 9223372036854775807) (hs : s.size ≤ 4000) :
    Calls Try.prog 40 #[.slice A n c, .string s] w (RetW (prs (l.map Ev.nm) s.size s.data.toList 0 []) w) := by
  generalize hres : prs (l.map Ev.nm) s.size s.data.toList 0 [] = res
  have hres0 : res = rfs (l.map Ev.nm) (insB s.data.toList 0) (s.data.toList.drop 0) 0 [] := by rw [← hres, prs_rfs _ _ _ _ _ (by simp)]; rfl
  have HR0 := Lib.hid hres0; clear hres0
  have HL := Lib.hid hl; clear hl
  clear hres
  have hs1 : (s.size : Int) ≤ 4000 := by omega
  go_enter Try.func40, Try.ntmps40
  go_wp2
  go_loopw [7, 8] (fun s7 s8 wr => ∃ (p m : Nat) (acc : List Int), p ≤ s.size ∧ s8 = .int .i64 p ∧ m ≤ p ∧ Hid (acc.length = m) ∧ Hid (wr.ownsRow w.heap.size 3 1 s7 m (iv acc)) ∧ Hid (res = rfs (l.map Ev.nm) (insB s.data.toList p) (s.data.toList.drop p) p acc) ∧ Below w.heap.size w wr) (fun _ s8 _ => s.size - (intOf s8).toNat)
  case atStart => exact ⟨0, 0, [], Nat.zero_le _, rfl, Nat.le_refl _, Lib.hid rfl, World.ownsRow_nil _ _ _ _, HR0, Below.refl _ _⟩
  case round =>
    obtain ⟨p, m, acc, hp, rfl, hmp, HM, HO, HR, hbel⟩ := hrel
    clear HR0
    have hsz := hbel.size
    obtain ⟨A4, k4, rfl, g1, g2, r4⟩ : ∃ A4 k4, u7 = .slice A4 m k4 ∧ m ≤ k4 ∧ k4 ≤ 9223372036854775807 ∧ RdI wr wr.heap.size A4 acc := by
      have hoo := HO.out
      rw [← HM.out] at hoo
      obtain ⟨A4, k4, e1, e2, e3, e4⟩ := own_slI hoo
      rw [HM.out] at e1 e2
      exact ⟨A4, k4, e1, e2, e3, e4⟩
    by_cases hlt : p < s.size
    · have hgb := get_byte hlt
      have b1 : (p : Int) < (s.size : Int) := by omega
      by_cases hc32 : s[p] = 32
      · have hbb : ((s[p].toNat : Int) == 32) = true := by rw [hc32]; rfl
        have HX := Lib.hid (show res = rfs (l.map Ev.nm) (insB s.data.toList (p + 1)) (s.data.toList.drop (p + 1)) (p + 1) acc from by rw [HR.out, rfs_blank hgb hc32])
        have HG := Lib.hid hgb; clear hgb
        have H32 := Lib.hid hc32; clear hc32
        go_wp2
        go_roundw
        case rel => exact ⟨p + 1, m, acc, by omega, by go_num, by omega, HM, HO, HX, hbel⟩
        case measure => simp [intOf]; omega
      · have hbb : ((s[p].toNat : Int) == 32) = false := by
          rw [beq_eq_false_iff_ne]
          intro hh
          exact hc32 (UInt8.toNat_inj.1 (by have : s[p].toNat = 32 := by omega
                                            exact this))
        cases p with
        | zero =>
          have HIN : Hid (insB s.data.toList 0 = false) := Lib.hid rfl
          have HG := Lib.hid hgb; clear hgb
          have H32 := Lib.hid hc32; clear hc32
          go_wp2
          go_loop [9] (fun s9 => ∃ k : Nat, 0 ≤ k ∧ k ≤ s.size ∧ s9 = .int .i64 k ∧ Hid ((tok (s.data.toList.drop 0)).length = (k - 0) + (tok (s.data.toList.drop k)).length)) (fun s9 => s.size - (intOf s9).toNat)
          case atStart => exact ⟨0, Nat.le_refl _, by omega, rfl, Lib.hid (by omega)⟩
          case round =>
            obtain ⟨k, hpk, hks, rfl, HK⟩ := hrel
            by_cases hkl : k < s.size
            · have hgk := get_byte hkl
              have bk : (k : Int) < (s.size : Int) := by omega
              by_cases hk32 : s[k] = 32
              · have hkb : ((s[k].toNat : Int) != 32) = false := by rw [hk32]; rfl
                have HT : Hid ((tok (s.data.toList.drop 0)).length = k - 0) := Lib.hid (by rw [HK.out, tok_stop (fun c hc => by rw [hgk] at hc; injection hc with hc; rw [← hc]; exact hk32)]; omega)
                have HGK := Lib.hid hgk; clear hgk
                have HK32 := Lib.hid hk32; clear hk32
                have hnm : nameOf (s.data.toList.drop 0) = s.extract 0 k := ext_name hpk hks (by have := HT.out; omega)
                obtain ⟨r, hr⟩ : ∃ r, fnd (l.map Ev.nm) (s.extract 0 k) = r := ⟨_, rfl⟩
                have hm4 : decide ((4096 : Int) ≤ (m : Int)) = false := decide_eq_false (by omega)
                have hm5 : decide (4096 ≤ m) = false := decide_eq_false (by omega)
                have hpk2 : (0 : Int) ≤ (k : Int) := by omega
                have hks2 : (k : Int) ≤ (s.size : Int) := by omega
                have hcon := ref02_Find A c n l (s.extract 0 k) wr HL.out ((h.below hbel).more hsz) hc1 hc2
                rw [hr] at hcon
                have HCF := Lib.hid hcon
                clear hcon
                by_cases hr0 : r < 0
                · have HX := Lib.hid (show res = ([], (0 : Int), 9) from by rw [HR.out, rfs_bad HG.out H32.out HIN.out (by rw [hnm, hr]; exact hr0)]; simp)
                  have HNM := Lib.hid hnm; clear hnm
                  have HRR := Lib.hid hr; clear hr
                  go_wp2_with fail
                  refine HCF.out.mono ?_
                  rintro e w3 ⟨rfl, rfl⟩
                  go_wp2
                  go_ret3
                  rw [HX.out]
                  exact ⟨none, 0, 0, rfl, rfl, Nat.le_refl _, by omega, RdI.nil, hbel⟩
                · have HX := Lib.hid (show res = rfs (l.map Ev.nm) (insB s.data.toList (0 + 1)) (s.data.toList.drop (0 + 1)) (0 + 1) (acc ++ [r]) from by rw [HR.out, rfs_tok HG.out H32.out HIN.out (by rw [hnm, hr]) hr0])
                  have HNM := Lib.hid hnm; clear hnm
                  have HRR := Lib.hid hr; clear hr
                  go_wp2_with fail
                  refine HCF.out.mono ?_
                  rintro e w3 ⟨rfl, rfl⟩
                  go_wp2_with (at_builtin; refine wpList_push wr (.int .i64 r) rfl (.tmp 58) (.tmp 60) 22 rfl w.heap.size 3 (.int .i64 0) 8 Try.underlying22 int_info rfl (.slice A4 m k4) m _ rfl HO.out rfl rfl (by omega) (by omega) hsz ?_; intro v' w' ho' hg' hb1)
                  go_roundw
                  case rel => exact ⟨0 + 1, m + 1, acc ++ [r], by omega, by go_num, by omega, Lib.hid (by rw [List.length_append, HM.out]; rfl), Lib.hid (by rw [iv_append]; exact ho'), HX, hbel.trans hb1⟩
                  case measure => simp [intOf]; omega
              · have hkb : ((s[k].toNat : Int) != 32) = true := by
                  rw [bne_iff_ne]
                  intro hh
                  exact hk32 (UInt8.toNat_inj.1 (by have : s[k].toNat = 32 := by omega
                                                    exact this))
                have HK2 := Lib.hid (show (tok (s.data.toList.drop 0)).length = (k + 1 - 0) + (tok (s.data.toList.drop (k + 1))).length from by rw [HK.out, tok_step hgk hk32]; omega)
                have HGK := Lib.hid hgk; clear hgk
                have HK32 := Lib.hid hk32; clear hk32
                go_wp2
                go_round
                case rel => exact ⟨k + 1, by omega, by omega, by go_num, HK2⟩
                case measure => simp [intOf]; omega
            · have hk2 : decide (k < s.size) = false := decide_eq_false hkl
              have hk3 : decide ((k : Int) < (s.size : Int)) = false := decide_eq_false (by omega)
              have HT : Hid ((tok (s.data.toList.drop 0)).length = k - 0) := Lib.hid (by rw [HK.out, tok_stop (fun c hc => absurd (get_lt hc) (by simpa using hkl))]; omega)
              have hnm : nameOf (s.data.toList.drop 0) = s.extract 0 k := ext_name hpk hks (by have := HT.out; omega)
              obtain ⟨r, hr⟩ : ∃ r, fnd (l.map Ev.nm) (s.extract 0 k) = r := ⟨_, rfl⟩
              have hm4 : decide ((4096 : Int) ≤ (m : Int)) = false := decide_eq_false (by omega)
              have hm5 : decide (4096 ≤ m) = false := decide_eq_false (by omega)
              have hpk2 : (0 : Int) ≤ (k : Int) := by omega
              have hks2 : (k : Int) ≤ (s.size : Int) := by omega
              have hcon := ref02_Find A c n l (s.extract 0 k) wr HL.out ((h.below hbel).more hsz) hc1 hc2
              rw [hr] at hcon
              have HCF := Lib.hid hcon
              clear hcon
              by_cases hr0 : r < 0
              · have HX := Lib.hid (show res = ([], (0 : Int), 9) from by rw [HR.out, rfs_bad HG.out H32.out HIN.out (by rw [hnm, hr]; exact hr0)]; simp)
                have HNM := Lib.hid hnm; clear hnm
                have HRR := Lib.hid hr; clear hr
                go_wp2_with fail
                refine HCF.out.mono ?_
                rintro e w3 ⟨rfl, rfl⟩
                go_wp2
                go_ret3
                rw [HX.out]
                exact ⟨none, 0, 0, rfl, rfl, Nat.le_refl _, by omega, RdI.nil, hbel⟩
              · have HX := Lib.hid (show res = rfs (l.map Ev.nm) (insB s.data.toList (0 + 1)) (s.data.toList.drop (0 + 1)) (0 + 1) (acc ++ [r]) from by rw [HR.out, rfs_tok HG.out H32.out HIN.out (by rw [hnm, hr]) hr0])
                have HNM := Lib.hid hnm; clear hnm
                have HRR := Lib.hid hr; clear hr
                go_wp2_with fail
                refine HCF.out.mono ?_
                rintro e w3 ⟨rfl, rfl⟩
                go_wp2_with (at_builtin; refine wpList_push wr (.int .i64 r) rfl (.tmp 58) (.tmp 60) 22 rfl w.heap.size 3 (.int .i64 0) 8 Try.underlying22 int_info rfl (.slice A4 m k4) m _ rfl HO.out rfl rfl (by omega) (by omega) hsz ?_; intro v' w' ho' hg' hb1)
                go_roundw
                case rel => exact ⟨0 + 1, m + 1, acc ++ [r], by omega, by go_num, by omega, Lib.hid (by rw [List.length_append, HM.out]; rfl), Lib.hid (by rw [iv_append]; exact ho'), HX, hbel.trans hb1⟩
                case measure => simp [intOf]; omega
        | succ q =>
          have hql : q < s.size := by omega
          have hgq := get_byte hql
          have bq : (q : Int) < (s.size : Int) := by omega
          have bq0 : (0 : Int) < (q : Int) + 1 := by omega
          by_cases hq32 : s[q] = 32
          · have hqb : ((s[q].toNat : Int) != 32) = false := by rw [hq32]; rfl
            have HIN := Lib.hid (show insB s.data.toList (q + 1) = false from by rw [insB_succ hgq, hq32]; rfl)
            have HG := Lib.hid hgb; clear hgb
            have H32 := Lib.hid hc32; clear hc32
            have HGQ := Lib.hid hgq; clear hgq
            have HQ32 := Lib.hid hq32; clear hq32
            go_wp2
            go_loop [9] (fun s9 => ∃ k : Nat, (q + 1) ≤ k ∧ k ≤ s.size ∧ s9 = .int .i64 k ∧ Hid ((tok (s.data.toList.drop (q + 1))).length = (k - (q + 1)) + (tok (s.data.toList.drop k)).length)) (fun s9 => s.size - (intOf s9).toNat)
            case atStart => exact ⟨(q + 1), Nat.le_refl _, by omega, rfl, Lib.hid (by omega)⟩
            case round =>
              obtain ⟨k, hpk, hks, rfl, HK⟩ := hrel
              by_cases hkl : k < s.size
              · have hgk := get_byte hkl
                have bk : (k : Int) < (s.size : Int) := by omega
                by_cases hk32 : s[k] = 32
                · have hkb : ((s[k].toNat : Int) != 32) = false := by rw [hk32]; rfl
                  have HT : Hid ((tok (s.data.toList.drop (q + 1))).length = k - (q + 1)) := Lib.hid (by rw [HK.out, tok_stop (fun c hc => by rw [hgk] at hc; injection hc with hc; rw [← hc]; exact hk32)]; omega)
                  have HGK := Lib.hid hgk; clear hgk
                  have HK32 := Lib.hid hk32; clear hk32
                  have hnm : nameOf (s.data.toList.drop (q + 1)) = s.extract (q + 1) k := ext_name hpk hks (by have := HT.out; omega)
                  obtain ⟨r, hr⟩ : ∃ r, fnd (l.map Ev.nm) (s.extract (q + 1) k) = r := ⟨_, rfl⟩
                  have hm4 : decide ((4096 : Int) ≤ (m : Int)) = false := decide_eq_false (by omega)
                  have hm5 : decide (4096 ≤ m) = false := decide_eq_false (by omega)
                  have hpk2 : ((q + 1) : Int) ≤ (k : Int) := by omega
                  have hks2 : (k : Int) ≤ (s.size : Int) := by omega
                  have hcon := ref02_Find A c n l (s.extract (q + 1) k) wr HL.out ((h.below hbel).more hsz) hc1 hc2
                  rw [hr] at hcon
                  have HCF := Lib.hid hcon
                  clear hcon
                  by_cases hr0 : r < 0
                  · have HX := Lib.hid (show res = ([], ((q + 1) : Int), 9) from by rw [HR.out, rfs_bad HG.out H32.out HIN.out (by rw [hnm, hr]; exact hr0)]; simp)
                    have HNM := Lib.hid hnm; clear hnm
                    have HRR := Lib.hid hr; clear hr
                    go_wp2_with fail
                    refine HCF.out.mono ?_
                    rintro e w3 ⟨rfl, rfl⟩
                    go_wp2
                    go_ret3
                    rw [HX.out]
                    exact ⟨none, 0, 0, rfl, rfl, Nat.le_refl _, by omega, RdI.nil, hbel⟩
                  · have HX := Lib.hid (show res = rfs (l.map Ev.nm) (insB s.data.toList ((q + 1) + 1)) (s.data.toList.drop ((q + 1) + 1)) ((q + 1) + 1) (acc ++ [r]) from by rw [HR.out, rfs_tok HG.out H32.out HIN.out (by rw [hnm, hr]) hr0])
                    have HNM := Lib.hid hnm; clear hnm
                    have HRR := Lib.hid hr; clear hr
                    go_wp2_with fail
                    refine HCF.out.mono ?_
                    rintro e w3 ⟨rfl, rfl⟩
                    go_wp2_with (at_builtin; refine wpList_push wr (.int .i64 r) rfl (.tmp 58) (.tmp 60) 22 rfl w.heap.size 3 (.int .i64 0) 8 Try.underlying22 int_info rfl (.slice A4 m k4) m _ rfl HO.out rfl rfl (by omega) (by omega) hsz ?_; intro v' w' ho' hg' hb1)
                    go_roundw
                    case rel => exact ⟨(q + 1) + 1, m + 1, acc ++ [r], by omega, by go_num, by omega, Lib.hid (by rw [List.length_append, HM.out]; rfl), Lib.hid (by rw [iv_append]; exact ho'), HX, hbel.trans hb1⟩
                    case measure => simp [intOf]; omega
                · have hkb : ((s[k].toNat : Int) != 32) = true := by
                    rw [bne_iff_ne]
                    intro hh
                    exact hk32 (UInt8.toNat_inj.1 (by have : s[k].toNat = 32 := by omega
                                                      exact this))
                  have HK2 := Lib.hid (show (tok (s.data.toList.drop (q + 1))).length = (k + 1 - (q + 1)) + (tok (s.data.toList.drop (k + 1))).length from by rw [HK.out, tok_step hgk hk32]; omega)
                  have HGK := Lib.hid hgk; clear hgk
                  have HK32 := Lib.hid hk32; clear hk32
                  go_wp2
                  go_round
                  case rel => exact ⟨k + 1, by omega, by omega, by go_num, HK2⟩
                  case measure => simp [intOf]; omega
              · have hk2 : decide (k < s.size) = false := decide_eq_false hkl
                have hk3 : decide ((k : Int) < (s.size : Int)) = false := decide_eq_false (by omega)
                have HT : Hid ((tok (s.data.toList.drop (q + 1))).length = k - (q + 1)) := Lib.hid (by rw [HK.out, tok_stop (fun c hc => absurd (get_lt hc) (by simpa using hkl))]; omega)
                have hnm : nameOf (s.data.toList.drop (q + 1)) = s.extract (q + 1) k := ext_name hpk hks (by have := HT.out; omega)
                obtain ⟨r, hr⟩ : ∃ r, fnd (l.map Ev.nm) (s.extract (q + 1) k) = r := ⟨_, rfl⟩
                have hm4 : decide ((4096 : Int) ≤ (m : Int)) = false := decide_eq_false (by omega)
                have hm5 : decide (4096 ≤ m) = false := decide_eq_false (by omega)
                have hpk2 : ((q + 1) : Int) ≤ (k : Int) := by omega
                have hks2 : (k : Int) ≤ (s.size : Int) := by omega
                have hcon := ref02_Find A c n l (s.extract (q + 1) k) wr HL.out ((h.below hbel).more hsz) hc1 hc2
                rw [hr] at hcon
                have HCF := Lib.hid hcon
                clear hcon
                by_cases hr0 : r < 0
                · have HX := Lib.hid (show res = ([], ((q + 1) : Int), 9) from by rw [HR.out, rfs_bad HG.out H32.out HIN.out (by rw [hnm, hr]; exact hr0)]; simp)
                  have HNM := Lib.hid hnm; clear hnm
                  have HRR := Lib.hid hr; clear hr
                  go_wp2_with fail
                  refine HCF.out.mono ?_
                  rintro e w3 ⟨rfl, rfl⟩
                  go_wp2
                  go_ret3
                  rw [HX.out]
                  exact ⟨none, 0, 0, rfl, rfl, Nat.le_refl _, by omega, RdI.nil, hbel⟩
                · have HX := Lib.hid (show res = rfs (l.map Ev.nm) (insB s.data.toList ((q + 1) + 1)) (s.data.toList.drop ((q + 1) + 1)) ((q + 1) + 1) (acc ++ [r]) from by rw [HR.out, rfs_tok HG.out H32.out HIN.out (by rw [hnm, hr]) hr0])
                  have HNM := Lib.hid hnm; clear hnm
                  have HRR := Lib.hid hr; clear hr
                  go_wp2_with fail
                  refine HCF.out.mono ?_
                  rintro e w3 ⟨rfl, rfl⟩
                  go_wp2_with (at_builtin; refine wpList_push wr (.int .i64 r) rfl (.tmp 58) (.tmp 60) 22 rfl w.heap.size 3 (.int .i64 0) 8 Try.underlying22 int_info rfl (.slice A4 m k4) m _ rfl HO.out rfl rfl (by omega) (by omega) hsz ?_; intro v' w' ho' hg' hb1)
                  go_roundw
                  case rel => exact ⟨(q + 1) + 1, m + 1, acc ++ [r], by omega, by go_num, by omega, Lib.hid (by rw [List.length_append, HM.out]; rfl), Lib.hid (by rw [iv_append]; exact ho'), HX, hbel.trans hb1⟩
                  case measure => simp [intOf]; omega
          · have hqb : ((s[q].toNat : Int) != 32) = true := by
              rw [bne_iff_ne]
              intro hh
              exact hq32 (UInt8.toNat_inj.1 (by have : s[q].toNat = 32 := by omega
                                                exact this))
            have hin : insB s.data.toList (q + 1) = true := by rw [insB_succ hgq]; simpa using hq32
            have HX := Lib.hid (show res = rfs (l.map Ev.nm) (insB s.data.toList (q + 1 + 1)) (s.data.toList.drop (q + 1 + 1)) (q + 1 + 1) acc from by rw [HR.out, rfs_in hgb hc32 hin])
            have HG := Lib.hid hgb; clear hgb
            have H32 := Lib.hid hc32; clear hc32
            have HGQ := Lib.hid hgq; clear hgq
            have HQ32 := Lib.hid hq32; clear hq32
            have HIN := Lib.hid hin; clear hin
            go_wp2
            go_roundw
            case rel => exact ⟨q + 1 + 1, m, acc, by omega, by go_num, by omega, HM, HO, HX, hbel⟩
            case measure => simp [intOf]; omega
    · obtain rfl : p = s.size := by omega
      have hfin : res = (acc, 0, 0) := by
        rw [HR.out, List.drop_of_length_le (by simp)]; cases insB s.data.toList s.size <;> rfl
      have HF := Lib.hid hfin; clear hfin
      go_wp2
      go_ret3
      rw [HF.out]
      exact ⟨A4, k4, m, rfl, HM.out, g1, g2, r4, hbel⟩
end Go.Proofs.Ytcbhencebflgcaa
