/- Plain laws, tenth text: the text of a word; what a clean list of events says. -/
import Derived.Test.YtcbhencebflgcaaPt
import Derived.Test.YtcbhencebflgcaaEa
import Derived.Lib.Join
namespace Go.Proofs.Ytcbhencebflgcaa
open Go

theorem joinN_eq : ∀ xs : List (List UInt8), Lib.join xs [32] = joinN xs
  | [] => by simp [Lib.join, joinN, List.intercalate]
  | [a] => by simp [Lib.join, joinN, List.intercalate]
  | a :: b :: r => by
    have ih := joinN_eq (b :: r)
    unfold Lib.join at ih ⊢
    rw [joinN, ← ih]
    simp [List.intercalate, List.intersperse]
theorem joinN_snoc : ∀ (xs : List (List UInt8)) (b : List UInt8), xs ≠ [] → joinN (xs ++ [b]) = joinN xs ++ 32 :: b
  | [], b, h => absurd rfl h
  | [a], b, _ => by simp [joinN]
  | a :: c :: r, b, _ => by
    have ih := joinN_snoc (c :: r) b (by simp)
    show a ++ 32 :: joinN (c :: r ++ [b]) = (a ++ 32 :: joinN (c :: r)) ++ 32 :: b
    rw [ih]; simp
theorem joinN_len {m : Nat} : ∀ xs : List (List UInt8), (∀ x ∈ xs, x.length ≤ m) → (joinN xs).length ≤ xs.length * (m + 1)
  | [], _ => by simp [joinN]
  | [a], h => by have := h a (by simp); simp [joinN]; omega
  | a :: b :: r, h => by
    have ih := joinN_len (b :: r) (fun x hx => h x (List.mem_cons_of_mem _ hx))
    have := h a (by simp)
    show (a ++ 32 :: joinN (b :: r)).length ≤ (b :: r).length.succ * (m + 1)
    rw [List.length_append, List.length_cons, Nat.succ_mul]
    omega
/-- are the word's numbers events? -/
def okX (n : Nat) (x : Int) : Bool := decide (0 ≤ x) && decide (x < (n : Int))
def okT (n : Nat) (w : List Int) : Bool := w.all (okX n)
theorem okT_step {n : Nat} {w : List Int} {k : Nat} {x : Int} (h : okT n (w.take k) = true) (hx : w[k]? = some x) (ho : okX n x = true) : okT n (w.take (k + 1)) = true := by
  unfold okT at *
  rw [take_snoc' hx, List.all_append, h]; simp [ho]
theorem okT_no {n : Nat} {w : List Int} {k : Nat} {x : Int} (hx : w[k]? = some x) (ho : okX n x = false) : okT n w = false := by
  unfold okT
  rw [List.all_eq_false]
  exact ⟨x, List.mem_of_getElem? hx, by rw [ho]; simp⟩
theorem okT_end {n : Nat} {w : List Int} {k : Nat} (h : okT n (w.take k) = true) (hk : ¬ k < w.length) : okT n w = true := by
  rwa [List.take_of_length_le (by omega)] at h
theorem okT_at {n : Nat} {w : List Int} {k : Nat} {x : Int} (h : okT n w = true) (hx : w[k]? = some x) : 0 ≤ x ∧ x < (n : Int) := by
  unfold okT at h
  rw [List.all_eq_true] at h
  have := h x (List.mem_of_getElem? hx)
  simpa [okX] using this
/-- the names of a word -/
def nmsT (l : List Ev) (w : List Int) : List ByteArray := w.map (fun x => ((l.map Ev.nm)[x.toNat]?).getD ⟨#[]⟩)
theorem nmsT_len (l : List Ev) (w : List Int) : (nmsT l w).length = w.length := by simp [nmsT]
theorem nmsT_at {l : List Ev} {w : List Int} {k j : Nat} {x : Int} {e : Ev} (hx : w[k]? = some x) (hj : x = (j : Int)) (he : l[j]? = some e) : (nmsT l w)[k]? = some e.nm := by
  subst hj
  simp [nmsT, hx, he]
theorem nmsT_snoc {l : List Ev} {w : List Int} {k j : Nat} {x : Int} {e : Ev} (hx : w[k]? = some x) (hj : x = (j : Int)) (he : l[j]? = some e) : nmsT l (w.take (k + 1)) = nmsT l (w.take k) ++ [e.nm] := by
  subst hj
  unfold nmsT
  rw [take_snoc' hx, List.map_append]
  simp [he]
def bytesOf (xs : List ByteArray) : List (List UInt8) := xs.map (·.data.toList)
/-- the text of a word -/
def txt (l : List Ev) (w : List Int) : ByteArray := ⟨(joinN (bytesOf (nmsT l w))).toArray⟩
theorem txt_nil (l : List Ev) : txt l [] = ⟨#[]⟩ := rfl
theorem txt_one {l : List Ev} {w : List Int} {j : Nat} {x : Int} {e : Ev} (hx : w[0]? = some x) (hj : x = (j : Int)) (he : l[j]? = some e) : txt l (w.take 1) = e.nm := by
  have h := nmsT_snoc (k := 0) hx hj he
  unfold txt
  rw [show (1 : Nat) = 0 + 1 from rfl, h]
  simp [nmsT, bytesOf, joinN]
theorem ba_app (a b : List UInt8) : (⟨(a ++ b).toArray⟩ : ByteArray) = ⟨a.toArray⟩ ++ ⟨b.toArray⟩ := by
  apply ByteArray.ext
  simp
theorem txt_more {l : List Ev} {w : List Int} {k j : Nat} {x : Int} {e : Ev} (h0 : 0 < k) (hx : w[k]? = some x) (hj : x = (j : Int)) (he : l[j]? = some e) : txt l (w.take (k + 1)) = txt l (w.take k) ++ ⟨#[32]⟩ ++ e.nm := by
  have h := nmsT_snoc hx hj he
  have hlt : k < w.length := (List.getElem?_eq_some_iff.1 hx).1
  unfold txt
  rw [h]
  unfold bytesOf
  rw [List.map_append]
  have hne : (nmsT l (w.take k)).map (·.data.toList) ≠ [] := by
    intro hn
    have := congrArg List.length hn
    rw [List.length_map, nmsT_len, List.length_take, List.length_nil] at this
    omega
  simp only [List.map_cons, List.map_nil]
  rw [joinN_snoc _ _ hne]
  apply ByteArray.ext
  simp
/-- what chkE = 0 says -/
theorem chkG_zero : ∀ (l : List Ev) (pre : List ByteArray), chkG pre l = 0 → pre.Nodup → (pre ++ l.map Ev.nm).Nodup ∧ ∀ e ∈ l, nameB e.nm = true
  | [], pre, _, hp => by simpa using hp
  | e :: r, pre, h, hp => by
    unfold chkG at h
    by_cases he : evErr pre e = 0
    · rw [if_neg (by simpa using he)] at h
      have hn : nameB e.nm = true := by
        cases hb : nameB e.nm with
        | true => rfl
        | false => simp [evErr, hb] at he
      have hi : inB pre e.nm = false := by
        cases hb : inB pre e.nm with
        | false => rfl
        | true => simp [evErr, hn, hb] at he
      have := chkG_zero r (pre ++ [e.nm]) h (by
        rw [List.nodup_append]
        refine ⟨hp, by simp, fun a ha b hb => ?_⟩
        simp at hb; subst hb
        rintro rfl
        exact inB_no.1 hi ha)
      refine ⟨by simpa using this.1, fun x hx => ?_⟩
      rcases List.mem_cons.1 hx with rfl | hx
      · exact hn
      · exact this.2 x hx
    · rw [if_pos he] at h
      exact absurd h he
theorem okB_32 (i : Nat) : okB i 32 = false := by simp [okB, letB, digB]
theorem okG_no32 : ∀ (l : List UInt8) (i : Nat), okG i l = true → ∀ c ∈ l, c ≠ 32
  | [], _, _, c, hc => by simp at hc
  | d :: r, i, h, c, hc => by
    unfold okG at h
    rw [Bool.and_eq_true] at h
    rcases List.mem_cons.1 hc with rfl | hc
    · rintro rfl
      have := h.1
      rw [show ((32 : UInt8).toNat : Int) = 32 from rfl, okB_32] at this
      cases this
    · exact okG_no32 r (i + 1) h.2 c hc
theorem nameB_says {s : ByteArray} (h : nameB s = true) : s.data.toList ≠ [] ∧ (∀ c ∈ s.data.toList, c ≠ 32) ∧ s.size ≤ 32 := by
  unfold nameB at h
  simp only [Bool.and_eq_true, decide_eq_true_eq] at h
  refine ⟨fun hn => ?_, okG_no32 _ 0 h.2, h.1.2⟩
  have h1 := h.1.1
  have : s.data.toList.length = s.size := Array.length_toList
  rw [hn, List.length_nil] at this
  omega
theorem chkE_zero {l : List Ev} (h : chkE l = 0) : (l.map Ev.nm).Nodup ∧ (∀ s ∈ l.map Ev.nm, s.data.toList ≠ [] ∧ ∀ c ∈ s.data.toList, c ≠ 32) ∧ ∀ s ∈ l.map Ev.nm, s.size ≤ 32 := by
  unfold chkE at h
  split at h
  · cases h
  · have := chkG_zero l [] h (by simp)
    refine ⟨by simpa using this.1, fun s hs => ?_, fun s hs => ?_⟩
    · obtain ⟨e, he, rfl⟩ := List.mem_map.1 hs
      have := nameB_says (this.2 e he)
      exact ⟨this.1, this.2.1⟩
    · obtain ⟨e, he, rfl⟩ := List.mem_map.1 hs
      exact (nameB_says (this.2 e he)).2.2
theorem nmsT_short {l : List Ev} (h : chkE l = 0) (w : List Int) : ∀ s ∈ nmsT l w, s.size ≤ 32 := by
  intro s hs
  unfold nmsT at hs
  obtain ⟨x, _, rfl⟩ := List.mem_map.1 hs
  cases hg : (l.map Ev.nm)[x.toNat]? with
  | none => simp [ByteArray.size]
  | some b => exact (chkE_zero h).2.2 b (List.mem_of_getElem? hg)
theorem join_len {l : List Ev} (h : chkE l = 0) (w : List Int) : (joinN (bytesOf (nmsT l w))).length ≤ w.length * 33 := by
  have := joinN_len (m := 32) (bytesOf (nmsT l w)) (fun x hx => by
    unfold bytesOf at hx
    obtain ⟨s, hs, rfl⟩ := List.mem_map.1 hx
    have := nmsT_short h w s hs
    exact Nat.le_trans (Nat.le_of_eq (Array.length_toList (xs := s.data))) this)
  rw [show (bytesOf (nmsT l w)).length = w.length by simp [bytesOf, nmsT_len]] at this
  exact this
theorem txt_size {l : List Ev} (h : chkE l = 0) (w : List Int) : (txt l w).size ≤ w.length * 33 := by
  have := join_len h w
  simpa [txt, ByteArray.size] using this
/-- What is written is read back. -/
theorem txt_back {l : List Ev} {w : List Int} (h : chkE l = 0) (ho : okT l.length w = true) : prs (l.map Ev.nm) (txt l w).size (txt l w).data.toList 0 [] = (w, 0, 0) := by
  obtain ⟨h1, h2, h3⟩ := chkE_zero h
  have hw : (w.map Int.toNat).map (fun k => (l.map Ev.nm)[k]?) = (nmsT l w).map some := by
    unfold nmsT
    rw [List.map_map, List.map_map]
    apply List.map_congr_left
    intro x hx
    obtain ⟨k, hk⟩ := List.getElem?_of_mem hx
    obtain ⟨g1, g2⟩ := okT_at ho hk
    have : x.toNat < (l.map Ev.nm).length := by rw [List.length_map]; omega
    simp only [Function.comp]
    rw [List.getElem?_eq_getElem this]
    rfl
  have hd : (txt l w).data.toList = joinN (bytesOf (nmsT l w)) := by simp [txt]
  have hs : (txt l w).size = (joinN (bytesOf (nmsT l w))).length := by simp [txt, ByteArray.size]
  rw [hd, hs]
  have := prs_join (l.map Ev.nm) h1 h2 (w.map Int.toNat) (nmsT l w) (joinN (bytesOf (nmsT l w))).length 0 [] hw (Nat.le_refl _)
  unfold bytesOf at this ⊢
  rw [this, List.nil_append, List.map_map]
  congr 1
  conv => rhs; rw [← List.map_id w]
  apply List.map_congr_left
  intro x hx
  obtain ⟨k, hk⟩ := List.getElem?_of_mem hx
  obtain ⟨g1, g2⟩ := okT_at ho hk
  simp; omega
end Go.Proofs.Ytcbhencebflgcaa
