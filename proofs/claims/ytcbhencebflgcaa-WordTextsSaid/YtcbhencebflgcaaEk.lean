/- Walks: word.Parse. -/
import Derived.Test.YtcbhencebflgcaaEj
import Derived.Test.YtcbhencebflgcaaWe
namespace Go.Proofs.Ytcbhencebflgcaa
open Go.RowKit Go

def RetN2 (nm : ByteArray) (w : World) (e : Ending) (w' : World) : Prop := ∃ (a : ByteArray) (f : Bool) (n : Nat), e = .returned (.tuple #[.string nm, .string a, .bool f]) ∧ w' = w.drewN n
theorem strings_Cut_q (s nm : ByteArray) (h : nameOf s.data.toList = nm) (w : World) (hs : s.size ≤ 1000000) : Calls Try.prog 63 #[.string s, .string ⟨#[32]⟩] w (RetN2 nm w) := by
  subst h; exact strings_Cut s w hs
/-- What Parse hands back. -/
def RetW (r : List Int × Int × Int) (w : World) (e : Ending) (w' : World) : Prop :=
  ∃ A c n, e = .returned (.tuple #[.slice A n c, .int .i64 r.2.1, .int .i64 r.2.2]) ∧ r.1.length = n ∧ n ≤ c ∧ c ≤ 9223372036854775807 ∧ RdI w' w'.heap.size A r.1 ∧ Below w.heap.size w w'
theorem ext_drop {s : ByteArray} {p : Nat} (_h : p ≤ s.size) : (s.extract p s.size).data.toList = s.data.toList.drop p := by
  simp [ByteArray.data_extract]
  rw [List.take_of_length_le (by simp)]
theorem tok_len {c : UInt8} {r : List UInt8} (h : c ≠ 32) : 1 ≤ (tok (c :: r)).length ∧ (tok (c :: r)).length ≤ (c :: r).length := by
  have ht : tok (c :: r) = c :: tok r := by simp [tok, h]
  refine ⟨by rw [ht]; simp, ?_⟩
  unfold tok
  exact (List.takeWhile_sublist _).length_le
theorem nameOf_size (r : List UInt8) : (nameOf r).size = (tok r).length := by simp [nameOf, ByteArray.size]
theorem prs_blank {names : List ByteArray} {l : List UInt8} {p m : Nat} {acc : List Int} {c : UInt8} (hc : l[p]? = some c) (h : c = 32) : prs names (m + 1) (l.drop p) p acc = prs names m (l.drop (p + 1)) (p + 1) acc := by
  rw [drop_cons' hc, prs, if_pos h]
theorem prs_bad {names : List ByteArray} {l : List UInt8} {p m : Nat} {acc : List Int} {c : UInt8} (hc : l[p]? = some c) (h : c ≠ 32) (hf : fnd names (nameOf (l.drop p)) < 0) : prs names (m + 1) (l.drop p) p acc = ([], (p : Int), 9) := by
  rw [drop_cons' hc] at hf ⊢
  rw [prs, if_neg h, if_pos hf]
theorem prs_mono (names : List ByteArray) : ∀ (n m : Nat) (r : List UInt8) (p : Nat) (acc : List Int), r.length ≤ n → r.length ≤ m → prs names n r p acc = prs names m r p acc := fun n m r p acc h1 h2 => by
  rw [prs_rfs names n r p acc h1, prs_rfs names m r p acc h2]
theorem prs_tok {names : List ByteArray} {l : List UInt8} {p m t : Nat} {acc : List Int} {c : UInt8} (hc : l[p]? = some c) (h : c ≠ 32) (hf : ¬ fnd names (nameOf (l.drop p)) < 0) (ht : (tok (l.drop p)).length = t) :
    prs names (m + 1) (l.drop p) p acc = prs names m (l.drop (p + t)) (p + t) (acc ++ [fnd names (nameOf (l.drop p))]) := by
  subst ht
  have e := drop_cons' hc
  rw [← List.drop_drop]
  generalize l.drop p = d at *
  rw [e] at hf ⊢
  rw [prs, if_neg h, if_neg hf]

set_option maxHeartbeats 1600000 in
theorem parse_err (A : Option Addr) (c n : Nat) (l : List Ev) (s : ByteArray) (w : World) (hl : l.length = n) (h : RdE w w.heap.size A l) (h0 : chkE l ≠ 0) :
    Calls Try.prog 38 #[.slice A n c, .string s] w (RetW ([], 0, chkE l) w) := by
  have q1 : (chkE l != 0) = true := by simpa using h0
  have hcon := alphabet_Check A c n l w hl h
  generalize chkE l = z at *
  have HC := Lib.hid hcon
  clear hcon h0 hl
  go_enter Try.func38, Try.ntmps38
  go_wp2_with fail
  refine HC.out.mono ?_
  rintro e w1 ⟨rfl, hb⟩
  go_wp2
  go_ret3
  exact ⟨none, 0, 0, rfl, rfl, Nat.le_refl _, by omega, RdI.nil, hb⟩
set_option maxHeartbeats 1600000 in
theorem parse_long (A : Option Addr) (c n : Nat) (l : List Ev) (s : ByteArray) (w : World) (hl : l.length = n) (h : RdE w w.heap.size A l) (h0 : chkE l = 0) (hs : 65536 < s.size) (_hs2 : s.size ≤ 9223372036854775807) :
    Calls Try.prog 38 #[.slice A n c, .string s] w (RetW ([], 0, 15) w) := by
  have hcon := alphabet_Check A c n l w hl h
  rw [h0] at hcon
  have HC := Lib.hid hcon
  have hs1 : (65536 : Int) < (s.size : Int) := by omega
  clear hcon h0 hl
  go_enter Try.func38, Try.ntmps38
  go_wp2_with fail
  refine HC.out.mono ?_
  rintro e w1 ⟨rfl, hb⟩
  go_wp2
  go_ret3
  exact ⟨none, 0, 0, rfl, rfl, Nat.le_refl _, by omega, RdI.nil, hb⟩


set_option maxRecDepth 100000 in
set_option maxHeartbeats 3200000 in
theorem parse_ok (A : Option Addr) (c n : Nat) (l : List Ev) (s : ByteArray) (w : World) (hl : l.length = n) (h : RdE w w.heap.size A l) (hc1 : n ≤ c) (hc2 : c ≤ 9223372036854775807) (h0 : chkE l = 0) (hs : s.size ≤ 4000) :
    Calls Try.prog 38 #[.slice A n c, .string s] w (RetW (prs (l.map Ev.nm) s.size s.data.toList 0 []) w) := by
  have hcon := alphabet_Check A c n l w hl h
  rw [h0] at hcon
  have HC := Lib.hid hcon
  generalize hres : prs (l.map Ev.nm) s.size s.data.toList 0 [] = res
  have hres0 : res = prs (l.map Ev.nm) (s.size - 0) (s.data.toList.drop 0) 0 [] := by rw [← hres]; rfl
  have HR0 := Lib.hid hres0; clear hres0
  have HL := Lib.hid hl; clear hl
  clear hcon h0 hres
  have hs1 : (s.size : Int) ≤ 65536 := by omega
  have hs2 : ¬ (65536 : Int) < (s.size : Int) := by omega
  have hs3 : decide ((65536 : Int) < (s.size : Int)) = false := decide_eq_false hs2
  clear hs2
  go_enter Try.func38, Try.ntmps38
  go_wp2_with fail
  refine HC.out.mono ?_
  rintro e w1 ⟨rfl, hb⟩
  have hz1 := hb.size
  go_wp2
  go_loopw [4, 5] (fun s4 s5 wr => ∃ (p m : Nat) (acc : List Int), p ≤ s.size ∧ s5 = .int .i64 p ∧ m ≤ p ∧ Hid (acc.length = m) ∧ Hid (wr.ownsRow w.heap.size 3 1 s4 m (iv acc)) ∧ Hid (res = prs (l.map Ev.nm) (s.size - p) (s.data.toList.drop p) p acc) ∧ Below w.heap.size w wr) (fun _ s5 _ => s.size - (intOf s5).toNat)
  case atStart => exact ⟨0, 0, [], Nat.zero_le _, rfl, Nat.le_refl _, Lib.hid rfl, World.ownsRow_nil _ _ _ _, HR0, hb⟩
  case round =>
    obtain ⟨p, m, acc, hp, rfl, hmp, HM, HO, HR, hbel⟩ := hrel
    clear HR0 HC
    have hsz := hbel.size
    by_cases hlt : p < s.size
    · have hgb := get_byte hlt
      obtain ⟨fu, hfu⟩ : ∃ fu, s.size - p = fu + 1 := ⟨s.size - p - 1, by omega⟩
      have b1 : (p : Int) < (s.size : Int) := by omega
      by_cases hc32 : s[p] = 32
      · have hbb : ((s[p].toNat : Int) == 32) = true := by rw [hc32]; rfl
        have HX := Lib.hid (show res = prs (l.map Ev.nm) (s.size - (p + 1)) (s.data.toList.drop (p + 1)) (p + 1) acc from by rw [HR.out, hfu, prs_blank hgb hc32]; congr 1; omega)
        have HG := Lib.hid hgb; clear hgb
        have H32 := Lib.hid hc32; clear hc32
        have HFU := Lib.hid hfu; clear hfu
        go_wp2
        go_roundw
        case rel => exact ⟨p + 1, m, acc, by omega, by go_num, by omega, HM, HO, HX, hbel⟩
        case measure => simp [intOf]; omega
      · have hbb : ((s[p].toNat : Int) == 32) = false := by
          rw [beq_eq_false_iff_ne]
          intro hh
          exact hc32 (UInt8.toNat_inj.1 (by have : s[p].toNat = 32 := by omega
                                            exact this))
        obtain ⟨nm, hnm⟩ : ∃ nm, nameOf (s.extract p s.size).data.toList = nm := ⟨_, rfl⟩
        have hnm2 : nameOf (s.data.toList.drop p) = nm := by rw [← hnm, ext_drop hp]
        obtain ⟨t, ht⟩ : ∃ t, (tok (s.data.toList.drop p)).length = t := ⟨_, rfl⟩
        have htl : 1 ≤ t ∧ t ≤ s.size - p := by
          have := tok_len (c := s[p]) (r := s.data.toList.drop (p + 1)) hc32
          rw [← drop_cons' hgb, ht, List.length_drop] at this
          simpa using this
        have hns : nm.size = t := by rw [← hnm2, nameOf_size, ht]
        have hes : (s.extract p s.size).size ≤ 1000000 := by simp; omega
        have hm4 : ((m : Int) == 4096) = false := by rw [beq_eq_false_iff_ne]; omega
        obtain ⟨r, hr⟩ : ∃ r, fnd (l.map Ev.nm) nm = r := ⟨_, rfl⟩
        obtain ⟨t1, t2⟩ := htl
        obtain ⟨A4, k4, rfl, g1, g2, r4⟩ : ∃ A4 k4, u4 = .slice A4 m k4 ∧ m ≤ k4 ∧ k4 ≤ 9223372036854775807 ∧ RdI wr wr.heap.size A4 acc := by
          have hoo := HO.out
          rw [← HM.out] at hoo
          obtain ⟨A4, k4, e1, e2, e3, e4⟩ := own_slI hoo
          rw [HM.out] at e1 e2
          exact ⟨A4, k4, e1, e2, e3, e4⟩
        have hns1 : (p : Int) + (nm.size : Int) ≤ (s.size : Int) := by omega
        have hns2 : (0 : Int) ≤ (nm.size : Int) := by omega
        have hcon := fun (W : World) (hW : RdE W W.heap.size A l) => alphabet_Find A c n l nm r hr W HL.out hW hc1 hc2
        by_cases hr0 : r < 0
        · have HX := Lib.hid (show res = ([], (p : Int), 9) from by rw [HR.out, hfu, prs_bad hgb hc32 (by rw [hnm2, hr]; exact hr0)])
          have d1 : decide (0 ≤ r) = false := decide_eq_false (by omega)
          rw [if_pos hr0, d1] at hcon
          have HCF := Lib.hid hcon
          clear hcon
          have HNM := Lib.hid hnm; clear hnm
          have HNM2 := Lib.hid hnm2; clear hnm2
          have HT := Lib.hid ht; clear ht
          have HNS := Lib.hid hns; clear hns
          have HRR := Lib.hid hr; clear hr
          have HG := Lib.hid hgb; clear hgb
          have H32 := Lib.hid hc32; clear hc32
          have HFU := Lib.hid hfu; clear hfu
          go_wp2_with fail
          refine (strings_Cut_q (s.extract p s.size) nm HNM.out _ hes).mono ?_
          rintro e w2 ⟨a, f, nq, rfl, rfl⟩
          go_wp2_with fail
          refine (HCF.out (wr.drewN nq) ((h.below hbel).more hsz)).mono ?_
          rintro e w3 ⟨rfl, hb3⟩
          go_wp2
          go_ret3
          rw [HX.out]
          exact ⟨none, 0, 0, rfl, rfl, Nat.le_refl _, by omega, RdI.nil, hbel.trans ((below_undrewN hb3).mono hsz)⟩
        · have HX := Lib.hid (show res = prs (l.map Ev.nm) (s.size - (p + t)) (s.data.toList.drop (p + t)) (p + t) (acc ++ [r]) from by
            rw [HR.out, hfu, prs_tok hgb hc32 (by rw [hnm2, hr]; exact hr0) ht, hnm2, hr]
            exact prs_mono _ _ _ _ _ _ (by rw [List.length_drop]; simp; omega) (by rw [List.length_drop]; simp))
          have d1 : decide (0 ≤ r) = true := decide_eq_true (by omega)
          rw [if_neg hr0, d1] at hcon
          have HCF := Lib.hid hcon
          clear hcon
          have HNM := Lib.hid hnm; clear hnm
          have HNM2 := Lib.hid hnm2; clear hnm2
          have HT := Lib.hid ht; clear ht
          have HNS := Lib.hid hns; clear hns
          have HRR := Lib.hid hr; clear hr
          have HG := Lib.hid hgb; clear hgb
          have H32 := Lib.hid hc32; clear hc32
          have HFU := Lib.hid hfu; clear hfu
          go_wp2_with fail
          refine (strings_Cut_q (s.extract p s.size) nm HNM.out _ hes).mono ?_
          rintro e w2 ⟨a, f, nq, rfl, rfl⟩
          go_wp2_with fail
          refine (HCF.out (wr.drewN nq) ((h.below hbel).more hsz)).mono ?_
          rintro e w3 ⟨rfl, hb3⟩
          have hb3' := below_undrewN hb3
          have HO3 := Lib.hid (own_below HO.out hb3')
          have B3 := hbel.trans (hb3'.mono hsz)
          have z3 := B3.size
          clear hb3
          go_wp2_with (at_builtin; refine wpList_push w3 (.int .i64 r) rfl (.tmp 52) (.tmp 54) 22 rfl w.heap.size 3 (.int .i64 0) 8 Try.underlying22 int_info rfl (.slice A4 m k4) m _ rfl HO3.out rfl rfl (by omega) (by omega) z3 ?_; intro v' w' ho' hg' hb1)
          go_roundw
          case rel => exact ⟨p + t, m + 1, acc ++ [r], by omega, val_int (by have := HNS.out; omega), by omega, Lib.hid (by rw [List.length_append, HM.out]; rfl), Lib.hid (by rw [iv_append]; exact ho'), HX, B3.trans hb1⟩
          case measure => have := HNS.out; simp [intOf]; omega
    · obtain rfl : p = s.size := by omega
      have hfin : res = (acc, 0, 0) := by
        rw [HR.out, Nat.sub_self]; rfl
      have HF := Lib.hid hfin; clear hfin
      obtain ⟨A4, k4, rfl, g1, g2, r4⟩ : ∃ A4 k4, u4 = .slice A4 m k4 ∧ m ≤ k4 ∧ k4 ≤ 9223372036854775807 ∧ RdI wr wr.heap.size A4 acc := by
        have hoo := HO.out
        rw [← HM.out] at hoo
        obtain ⟨A4, k4, e1, e2, e3, e4⟩ := own_slI hoo
        rw [HM.out] at e1 e2
        exact ⟨A4, k4, e1, e2, e3, e4⟩
      go_wp2
      go_ret3
      rw [HF.out]
      exact ⟨A4, k4, m, rfl, HM.out, g1, g2, r4, hbel⟩
end Go.Proofs.Ytcbhencebflgcaa
