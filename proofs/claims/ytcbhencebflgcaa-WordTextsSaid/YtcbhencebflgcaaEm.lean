/- Walks: the reference's Text. -/
import Derived.Test.YtcbhencebflgcaaEl
import Derived.Test.YtcbhencebflgcaaPu
namespace Go.Proofs.Ytcbhencebflgcaa
open Go.RowKit Go

theorem j_of {l : List Ev} {n : Nat} {ws : List Int} {k : Nat} {x : Int} (hl : l.length = n) (h : okT n ws = true) (hx : ws[k]? = some x) : ∃ j : Nat, x = (j : Int) ∧ j < l.length := by
  obtain ⟨g1, g2⟩ := okT_at h hx
  exact ⟨x.toNat, by omega, by omega⟩

set_option maxHeartbeats 1600000 in
theorem ref_Text (A B : Option Addr) (c d n m : Nat) (l : List Ev) (ws : List Int) (w : World) (hl : l.length = n) (h : RdE w w.heap.size A l) (hc1 : n ≤ c) (hc2 : c ≤ 9223372036854775807) (hm : ws.length = m) (hB : RdI w w.heap.size B ws) (hd1 : m ≤ d) (hd2 : d ≤ 9223372036854775807)
    (hz : chkE l = 0) (ho : okT n ws = true) (hm20 : m ≤ 4096) :
    Calls Try.prog 42 #[.slice A n c, .slice B m d] w fun e w' => e = .returned (.string (txt l ws)) ∧ w = w' := by
  have HL := Lib.hid hl; clear hl
  have HM := Lib.hid hm; clear hm
  have HZ := Lib.hid hz; clear hz
  have HOK := Lib.hid ho; clear ho
  go_enter Try.func42, Try.ntmps42
  go_wp2
  go_loop [5, 6] (fun s5 s6 => ∃ (k : Nat) (s : ByteArray), k ≤ m ∧ s6 = .int .i64 k ∧ s5 = .string s ∧ s.size ≤ k * 33 ∧ Hid (s = txt l (ws.take k))) (fun _ s6 => m - (intOf s6).toNat)
  case atStart => exact ⟨0, ⟨#[]⟩, Nat.zero_le _, rfl, rfl, Nat.zero_le _, Lib.hid rfl⟩
  case round =>
    obtain ⟨k, s, hk, rfl, rfl, hsz, HS⟩ := hrel
    by_cases hlt : k < m
    · have b1 : (k : Int) < (m : Int) := by omega
      cases k with
      | zero =>
        obtain ⟨bd, x, rfl, hbB, hx, hcx⟩ := hB.at_ (k := 0) (by have := HM.out; omega)
        replace hcx := cell_zero hcx
        obtain ⟨j, rfl, hjl⟩ := j_of HL.out HOK.out hx
        obtain ⟨ad, e, rfl, hb, he, hs, q0, q1, q2, q3, q4⟩ := h.at_ (k := j) hjl
        have hjn : j < n := by have := HL.out; omega
        have hjn2 : (j : Int) < (n : Int) := by omega
        have hes : e.nm.size ≤ 32 := (chkE_zero HZ.out).2.2 e.nm (List.mem_map.2 ⟨e, List.mem_of_getElem? he, rfl⟩)
        have hX := txt_one hx rfl he
        have hs0 : s = ⟨#[]⟩ := HS.out.trans (txt_nil l)
        have HX := Lib.hid hX; clear hX
        have HS0 := Lib.hid hs0; clear hs0
        clear HS
        have HGX := Lib.hid hx; clear hx
        have HE := Lib.hid he; clear he
        go_wp2
        go_round
        case rel =>
          have e0 : s ++ e.nm = e.nm := by rw [HS0.out]; apply ByteArray.ext; simp
          exact ⟨1, s ++ e.nm, by omega, by go_num, rfl, by rw [e0]; omega, Lib.hid (by rw [e0, HX.out])⟩
        case measure => simp [intOf]; omega
      | succ k =>
        obtain ⟨bd, x, rfl, hbB, hx, hcx⟩ := hB.at_ (k := k + 1) (by have := HM.out; omega)
        replace hcx := cell_succ hcx
        obtain ⟨j, rfl, hjl⟩ := j_of HL.out HOK.out hx
        obtain ⟨ad, e, rfl, hb, he, hs, q0, q1, q2, q3, q4⟩ := h.at_ (k := j) hjl
        have hjn : j < n := by have := HL.out; omega
        have hjn2 : (j : Int) < (n : Int) := by omega
        have hes : e.nm.size ≤ 32 := (chkE_zero HZ.out).2.2 e.nm (List.mem_map.2 ⟨e, List.mem_of_getElem? he, rfl⟩)
        have hX := txt_more (Nat.succ_pos k) hx rfl he
        have b0 : (0 : Int) < (k : Int) + 1 := by omega
        have HX := Lib.hid hX; clear hX
        have HGX := Lib.hid hx; clear hx
        have HE := Lib.hid he; clear he
        go_wp2
        go_round
        case rel =>
          exact ⟨k + 1 + 1, s ++ ⟨#[32]⟩ ++ e.nm, by omega, by go_num, rfl, by rw [ByteArray.size_append, ByteArray.size_append]; show s.size + 1 + e.nm.size ≤ _; omega, Lib.hid (by rw [HX.out, HS.out])⟩
        case measure => simp [intOf]; omega
    · obtain rfl : k = m := by omega
      have hf : s = txt l ws := by rw [HS.out, List.take_of_length_le (by rw [HM.out]; exact Nat.le_refl _)]
      have HF := Lib.hid hf; clear hf
      go_wp2
      go_ret
      exact ⟨by rw [HF.out]; rfl, rfl⟩
end Go.Proofs.Ytcbhencebflgcaa
