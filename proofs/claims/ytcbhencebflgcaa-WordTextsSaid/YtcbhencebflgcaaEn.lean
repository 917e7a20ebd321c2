/- Walks: word.Text. -/
import Derived.Test.YtcbhencebflgcaaEm
import Derived.Test.YtcbhencebflgcaaJoin
import Derived.Test.YtcbhencebflgcaaWk
namespace Go.Proofs.Ytcbhencebflgcaa
open Go.RowKit Go

theorem str_info : (Try.prog.info? 9).map (fun i => (i.zero, i.size, i.bytes)) = some (some (.string ⟨#[]⟩), 1, 16) := by kernel_rfl
def sv (l : List ByteArray) : List Value := l.map Value.string
/-- What Text hands back. -/
def RetT (s : ByteArray) (x : Int) (w : World) (e : Ending) (w' : World) : Prop := e = .returned (.tuple #[.string s, .int .i64 x]) ∧ Below w.heap.size w w'
theorem own_str {w : World} {base : Nat} {v : Value} {n : Nat} {l : List ByteArray} (h : w.ownsRow base 9 1 v n (sv l)) (hn : 0 < n) :
    ∃ g cap, v = .slice (some ⟨g, 0, none⟩) n cap ∧ n ≤ cap ∧ g < w.heap.size ∧ ∀ (j : Nat) x, l[j]? = some x → w.cell? ⟨g, 0 + j, none⟩ = some (.string x) := by
  obtain ⟨g, cap, rfl, _, hlt⟩ := h.form hn
  refine ⟨g, cap, rfl, (own_cap h).1, hlt, fun j x hj => ?_⟩
  have := h.cells (g := g) rfl j (.string x) (by simp [sv, hj])
  rw [add_lit0] at this
  rw [Nat.zero_add]; exact this
theorem own_str0 {w : World} {base : Nat} {v : Value} {l : List ByteArray} (h : w.ownsRow base 9 1 v 0 (sv l)) : ∃ a c, v = .slice a 0 c := by
  rcases h.2 with ⟨rfl, h0⟩ | ⟨g, cap, cur, rfl, _⟩
  · exact ⟨_, _, rfl⟩
  · exact ⟨_, _, rfl⟩

set_option maxHeartbeats 1600000 in
theorem text_err (A B : Option Addr) (c d n m : Nat) (l : List Ev) (w : World) (hl : l.length = n) (h : RdE w w.heap.size A l) (h0 : chkE l ≠ 0) :
    Calls Try.prog 41 #[.slice A n c, .slice B m d] w (RetT ⟨#[]⟩ (chkE l) w) := by
  have q1 : (chkE l != 0) = true := by simpa using h0
  have hcon := alphabet_Check A c n l w hl h
  generalize chkE l = z at *
  have HC := Lib.hid hcon
  clear hcon h0 hl
  go_enter Try.func41, Try.ntmps41
  go_wp2_with fail
  refine HC.out.mono ?_
  rintro e w1 ⟨rfl, hb⟩
  go_wp2
  go_ret2
  exact ⟨rfl, hb⟩
set_option maxHeartbeats 1600000 in
theorem text_long (A B : Option Addr) (c d n m : Nat) (l : List Ev) (w : World) (hl : l.length = n) (h : RdE w w.heap.size A l) (h0 : chkE l = 0) (hm : 4096 < m) (hm2 : m ≤ 9223372036854775807) :
    Calls Try.prog 41 #[.slice A n c, .slice B m d] w (RetT ⟨#[]⟩ 3 w) := by
  have hcon := alphabet_Check A c n l w hl h
  rw [h0] at hcon
  have HC := Lib.hid hcon
  have hs1 : (4096 : Int) < (m : Int) := by omega
  clear hcon h0 hl
  go_enter Try.func41, Try.ntmps41
  go_wp2_with fail
  refine HC.out.mono ?_
  rintro e w1 ⟨rfl, hb⟩
  go_wp2
  go_ret2
  exact ⟨rfl, hb⟩
def txS (l : List Ev) (ws : List Int) (n : Nat) : ByteArray := if okT n ws = true then txt l ws else ⟨#[]⟩
def txE (ws : List Int) (n : Nat) : Int := if okT n ws = true then 0 else 2
theorem tx_no {l : List Ev} {ws : List Int} {n : Nat} (h : okT n ws = false) : txS l ws n = ⟨#[]⟩ ∧ txE ws n = 2 := by simp [txS, txE, h]
theorem tx_yes {l : List Ev} {ws : List Int} {n : Nat} (h : okT n ws = true) : txS l ws n = txt l ws ∧ txE ws n = 0 := by simp [txS, txE, h]
set_option maxRecDepth 100000 in
set_option maxHeartbeats 3200000 in
theorem text_ok (A B : Option Addr) (c d n m : Nat) (l : List Ev) (ws : List Int) (w : World) (hl : l.length = n) (h : RdE w w.heap.size A l) (hc1 : n ≤ c) (hc2 : c ≤ 9223372036854775807) (hm : ws.length = m) (hB : RdI w w.heap.size B ws) (hd1 : m ≤ d) (_hd2 : d ≤ 9223372036854775807)
    (hz : chkE l = 0) (hm20 : m ≤ 4096) :
    Calls Try.prog 41 #[.slice A n c, .slice B m d] w (RetT (txS l ws n) (txE ws n) w) := by
  have hcon := alphabet_Check A c n l w hl h
  rw [hz] at hcon
  have HC := Lib.hid hcon
  have hs1 : (m : Int) ≤ 4096 := by omega
  have hs3 : decide ((4096 : Int) < (m : Int)) = false := decide_eq_false (by omega)
  have hs4 : decide (4096 < m) = false := decide_eq_false (by omega)
  have HL := Lib.hid hl; clear hl
  have HM := Lib.hid hm; clear hm
  have HZ := Lib.hid hz; clear hz
  clear hcon
  go_enter Try.func41, Try.ntmps41
  go_wp2_with fail
  refine HC.out.mono ?_
  rintro e w1 ⟨rfl, hb⟩
  have hz1 := hb.size
  clear HC
  go_wp2
  go_loopw [7, 20] (fun s7 s20 wr => ∃ k : Nat, k ≤ m ∧ s20 = .int .i64 k ∧ Hid (okT n (ws.take k) = true) ∧ Hid (wr.ownsRow w.heap.size 9 1 s7 k (sv (nmsT l (ws.take k)))) ∧ Below w.heap.size w wr) (fun _ s20 _ => m - (intOf s20).toNat)
  case atStart => exact ⟨0, Nat.zero_le _, rfl, Lib.hid rfl, World.ownsRow_nil _ _ _ _, hb⟩
  case round =>
    obtain ⟨k, hk, rfl, HK, HO, hbel⟩ := hrel
    have hsz := hbel.size
    by_cases hlt : k < m
    · have b1 : (k : Int) < (m : Int) := by omega
      obtain ⟨bd, x, rfl, hbB, hx, hcx⟩ := ((hB.below hbel).more hsz).at_ (k := k) (by have := HM.out; omega)
      cases hox : okX n x with
      | false =>
        have hno := tx_no (l := l) (okT_no hx hox)
        have hbad : x < 0 ∨ (n : Int) ≤ x := by
          unfold okX at hox
          by_cases h0 : 0 ≤ x
          · right
            by_cases h1 : x < (n : Int)
            · simp [h0, h1] at hox
            · omega
          · left; omega
        have HGX := Lib.hid hx; clear hx
        have HOX := Lib.hid hox; clear hox
        have HNO := Lib.hid hno; clear hno
        rcases hbad with h0 | h0
        · go_wp2
          go_ret2
          rw [HNO.out.1, HNO.out.2]
          exact ⟨rfl, hbel⟩
        · by_cases h1 : x < 0
          · omega
          · have h2 : decide (x < 0) = false := decide_eq_false h1
            clear h1
            go_wp2
            go_ret2
            rw [HNO.out.1, HNO.out.2]
            exact ⟨rfl, hbel⟩
      | true =>
        have hstep := okT_step HK.out hx hox
        have hox' : 0 ≤ x ∧ x < (n : Int) := by simpa [okX] using hox
        obtain ⟨j, rfl⟩ : ∃ j : Nat, x = (j : Int) := ⟨x.toNat, by omega⟩
        have hjn : j < n := by omega
        obtain ⟨ad, e, rfl, hb, he, hs, q0, q1, q2, q3, q4⟩ := ((h.below hbel).more hsz).at_ (k := j) (by have := HL.out; omega)
        have hjn2 : (j : Int) < (n : Int) := by omega
        have hsn := nmsT_snoc hx rfl he
        have HGX := Lib.hid hx; clear hx
        have HOX := Lib.hid hox; clear hox
        have HST := Lib.hid hstep; clear hstep
        have HE := Lib.hid he; clear he
        have HSN := Lib.hid hsn; clear hsn
        clear hox'
        go_wp2_with (at_builtin; refine wpList_push wr (.string e.nm) rfl (.tmp 32) (.tmp 38) 85 rfl w.heap.size 9 (.string ⟨#[]⟩) 16 Try.underlying85 str_info rfl u7 k _ rfl HO.out rfl rfl (by omega) (by omega) hsz ?_; intro v' w' ho' hg' hb1)
        go_roundw
        case rel => exact ⟨k + 1, by omega, by go_num, HST, Lib.hid (by rw [HSN.out]; unfold sv at *; rw [List.map_append]; exact ho'), hbel.trans hb1⟩
        case measure => simp [intOf]; omega
    · obtain rfl : k = m := by omega
      have hno := tx_yes (l := l) (okT_end HK.out (by have := HM.out; omega))
      have htk : ws.take k = ws := List.take_of_length_le (by have := HM.out; omega)
      have hoo := HO.out
      rw [htk] at hoo
      have hnl : (nmsT l ws).length = k := by rw [nmsT_len, HM.out]
      have htx := tx_yes (l := l) (okT_end HK.out (by have := HM.out; omega))
      have hjl := join_len HZ.out ws
      rw [HM.out] at hjl
      have hje := joinN_eq (bytesOf (nmsT l ws))
      rcases Nat.eq_zero_or_pos k with h0 | h0
      · subst h0
        obtain ⟨a, cc, rfl⟩ := own_str0 hoo
        have htt : txt l ws = ⟨#[]⟩ := by
          rw [List.eq_nil_of_length_eq_zero HM.out]; rfl
        rw [htt] at htx
        have HTX := Lib.hid htx; clear htx
        clear hno hoo hje hjl hnl htk htt
        go_wp2_with fail
        refine (Try.strings_Join_none a cc _ wr).mono ?_
        rintro e w2 ⟨rfl, rfl⟩
        go_wp2
        go_ret2
        rw [HTX.out.1, HTX.out.2]
        exact ⟨rfl, hbel⟩
      · obtain ⟨g, cap, rfl, hcap, hg, hcs⟩ := own_str hoo h0
        have hlen : (Lib.join ((nmsT l ws).map (·.data.toList)) (⟨#[32]⟩ : ByteArray).data.toList).length ≤ 140737488355328 := by
          show (Lib.join (bytesOf (nmsT l ws)) [32]).length ≤ _
          rw [hje]
          have : k * 33 ≤ 4096 * 33 := by omega
          omega
        have hj := Try.strings_Join g 0 cap (nmsT l ws) ⟨#[32]⟩ wr hcs hg (by rw [hnl]; omega) (by rw [hnl]; exact hcap) hlen
        rw [show Lib.join ((nmsT l ws).map (·.data.toList)) (⟨#[32]⟩ : ByteArray).data.toList = joinN (bytesOf (nmsT l ws)) from hje, hnl] at hj
        have HJ := Lib.hid hj
        have HTX := Lib.hid htx; clear htx
        clear hno hoo hje hjl hnl htk hcs hj hlen
        go_wp2_with fail
        refine HJ.out.mono ?_
        rintro e w2 ⟨rfl, hb2⟩
        go_wp2
        go_ret2
        rw [HTX.out.1, HTX.out.2]
        exact ⟨rfl, hbel.trans (hb2.mono hsz)⟩
end Go.Proofs.Ytcbhencebflgcaa
