/- Walks: strings.Cut at a blank. -/
import Derived.Test.YtcbhencebflgcaaEi
import Derived.Lib.Strings
import Derived.Lib.Slices
import Derived.Lib.Walk
import Derived.Lib.Bytealg
import Derived.Lib.IndexLaws
namespace Go.Proofs.Ytcbhencebflgcaa
open Go.RowKit Go

set_option maxHeartbeats 1000000 in
set_option maxRecDepth 100000 in
theorem lite_IndexByte (s : ByteArray) (c : Int) (w : World) :
    Calls Try.prog 103 #[.string s, .int .u8 c] w fun e w' => e = .returned (.int .i64 (Lib.indexByte s.data.toList c.toNat.toUInt8)) ∧ w = w' := by
  go_enter Try.func103, Try.ntmps103
  go_wp2
  rw [run_callFunc_extern Try.func110 (by kernel_rfl) (by kernel_rfl) (by kernel_rfl) (e := Extern.BytealgIndexByte.indexByte) (by kernel_rfl), Lib.run_indexByteString]
  simp only [Result.andThen]
  rw [Oper.upon_value]
  go_wp2
  go_ret
  exact ⟨rfl, rfl⟩
set_option maxHeartbeats 2000000 in
set_option maxRecDepth 100000 in
theorem lite_Index (s : ByteArray) (w : World) :
    Calls Try.prog 95 #[.string s, .string ⟨#[32]⟩] w fun e w' => e = .returned (.int .i64 (Lib.indexByte s.data.toList 32)) ∧ w = w' := by
  go_enter Try.func95, Try.ntmps95
  go_wp2_with (go_at_call 103; refine (lite_IndexByte _ _ _).mono ?_; rintro e w' ⟨rfl, rfl⟩)
  · have h : ([32] == s.toList) = true := by assumption
    go_ret
    refine ⟨?_, rfl⟩
    have e : s.data.toList = [32] := by rw [← Lib.toList_data]; exact (beq_iff_eq.1 h).symm
    rw [e]
    simp [Lib.indexByte]
  · go_ret
    exact ⟨rfl, rfl⟩
theorem tok_some {r : List UInt8} {o : Nat} (h : Lib.indexByte r 32 = o) : tok r = r.take o ∧ o < r.length := by
  obtain ⟨h1, h2⟩ := Lib.indexByte_some h
  have ho := get_lt h1
  refine ⟨?_, ho⟩
  have e : r = r.take o ++ 32 :: r.drop (o + 1) := by rw [← drop_cons' h1, List.take_append_drop]
  have ht := tok_join (a := r.take o) (rest := 32 :: r.drop (o + 1)) (fun c hc => by
    obtain ⟨k, hk⟩ := List.getElem?_of_mem hc
    have hko : k < o := by have := get_lt hk; rw [List.length_take] at this; omega
    rw [List.getElem?_take, if_pos hko] at hk
    rintro rfl
    exact h2 k hko hk) (.inr ⟨_, rfl⟩)
  rw [← e] at ht
  exact ht
theorem tok_none {r : List UInt8} (h : Lib.indexByte r 32 = -1) : tok r = r := by
  have ht := tok_join (a := r) (rest := []) (fun c hc => by
    obtain ⟨k, hk⟩ := List.getElem?_of_mem hc
    rintro rfl
    exact Lib.indexByte_none h k hk) (.inl rfl)
  rwa [List.append_nil] at ht

/-- what stands before the first blank -/
def RetC (s : ByteArray) (w : World) (e : Ending) (w' : World) : Prop := ∃ (a : ByteArray) (f : Bool) (n : Nat), e = .returned (.tuple #[.string (nameOf s.data.toList), .string a, .bool f]) ∧ w' = w.drewN n
set_option maxHeartbeats 2000000 in
theorem lite_Cut (s : ByteArray) (w : World) (hs : s.size ≤ 1000000) :
    Calls Try.prog 75 #[.string s, .string ⟨#[32]⟩] w (RetC s w) := by
  have hge := Lib.indexByte_ge s.data.toList 32
  generalize hi : Lib.indexByte s.data.toList 32 = i at hge
  by_cases h0 : i = -1
  · subst h0
    have ht := tok_none hi
    have hn : nameOf s.data.toList = s := by unfold nameOf; rw [ht]
    have HI := Lib.hid hi; clear hi
    have HN := Lib.hid hn; clear hn
    clear ht
    go_enter Try.func75, Try.ntmps75
    go_wp2_with fail
    have hc := lite_Index s w
    rw [HI.out] at hc
    refine hc.mono ?_
    rintro e w' ⟨rfl, rfl⟩
    clear hc
    go_wp2
    go_ret3
    exact ⟨_, _, 0, by rw [HN.out]; rfl, rfl⟩
  · obtain ⟨o, rfl⟩ : ∃ o : Nat, i = o := ⟨i.toNat, by omega⟩
    obtain ⟨ht, ho⟩ := tok_some hi
    have hon : o < s.size := by simpa using ho
    have HI := Lib.hid hi; clear hi
    have hex : s.extract 0 o = nameOf s.data.toList := bytes_eq (by
      unfold nameOf
      rw [ht]
      simp [ByteArray.data_extract])
    have HE := Lib.hid hex; clear hex
    clear ho h0 hge ht
    go_enter Try.func75, Try.ntmps75
    go_wp2_with fail
    have hc := lite_Index s w
    rw [HI.out] at hc
    refine hc.mono ?_
    rintro e w' ⟨rfl, rfl⟩
    clear hc
    go_wp2
    go_quiet (fail)
    go_wp2
    go_ret3
    exact ⟨_, _, _, by rw [← HE.out]; rfl, rfl⟩

set_option maxHeartbeats 800000 in
theorem strings_Cut (s : ByteArray) (w : World) (hs : s.size ≤ 1000000) : Calls Try.prog 63 #[.string s, .string ⟨#[32]⟩] w (RetC s w) := by
  go_enter Try.func63, Try.ntmps63
  go_wp2_with fail
  refine (lite_Cut s _ hs).mono ?_
  rintro e w' ⟨a, f, n, rfl, rfl⟩
  go_wp2
  go_ret3
  exact ⟨a, f, n, rfl, rfl⟩
end Go.Proofs.Ytcbhencebflgcaa
