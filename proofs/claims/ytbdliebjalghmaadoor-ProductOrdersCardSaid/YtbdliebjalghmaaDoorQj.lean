/- Plain laws: three in any order. -/
import Derived.Test.YtbdliebjalghmaaDoorQi
namespace Go.Proofs.YtbdliebjalghmaaDoor

section
variable {l : List Aut} {r : Aut} {T : List (List Int)}
theorem syn_al (hr : synR l = some (r, T)) : r.al = evs l := by
  cases hn : noSt l with
  | true => rw [syn_no hn hr]
  | false => obtain ⟨s, _, rfl⟩ := syn_get hn hr; rfl
theorem syn_wf (hw : ∀ a ∈ l, WF a) (hp : prodN l ≤ 4096) (hr : synR l = some (r, T)) : WF r := by
  have hi := evs_inc (l := l) fun a ha => (hw a ha).inc
  cases hn : noSt l with
  | true => rw [syn_no hn hr]; exact zero_wf hi (evs_rng hw)
  | false =>
    obtain ⟨s, hs, rfl⟩ := syn_get hn hr
    exact (syn_inv hw hs hn hp).wf (Nat.le_refl _) hi (evs_rng hw)
theorem syn_st (hw : ∀ a ∈ l, WF a) (hp : prodN l ≤ 4096) (hr : synR l = some (r, T)) : r.st.toNat ≤ prodN l := by
  cases hn : noSt l with
  | true => rw [syn_no hn hr]; exact Nat.zero_le _
  | false =>
    obtain ⟨s, hs, rfl⟩ := syn_get hn hr
    have hi := syn_inv hw hs hn hp
    have := nodup_le (m := box l) hi.nd (fun x hx => box_mem.2 (rch_tup hw hn (hi.rch x hx)))
    rw [box_len] at this
    show (s.ts.length : Int).toNat ≤ _
    omega
theorem syn_canon (hw : ∀ a ∈ l, WF a) (hp : prodN l ≤ 4096) (hr : synR l = some (r, T)) : canA r = r := by
  cases hn : noSt l with
  | true => rw [syn_no hn hr]; rfl
  | false =>
    obtain ⟨s, hs, rfl⟩ := syn_get hn hr
    exact (syn_inv hw hs hn hp).canon hs (evs_inc fun a ha => (hw a ha).inc)
end
theorem noSt_iff {l : List Aut} : noSt l = true ↔ ∃ a ∈ l, a.st = 0 := by unfold noSt; rw [List.any_eq_true]; simp
section
variable {l1 l2 : List Aut} {a r r' : Aut} {T T1 T' : List (List Int)}
/-- the product of a product with more, whatever is empty -/
theorem front_all (hw1 : ∀ a ∈ l1, WF a) (hw2 : ∀ a ∈ l2, WF a) (hp : prodN l1 ≤ 4096) (ha : synR l1 = some (a, T1)) (hr : synR (a :: l2) = some (r, T)) (hr' : synR (l1 ++ l2) = some (r', T')) : r' = r := by
  have hwa := syn_wf hw1 hp ha
  have hal := syn_al ha
  have hwl : ∀ z ∈ a :: l2, WF z := fun z hz => by
    rcases List.mem_cons.1 hz with rfl | hz
    · exact hwa
    · exact hw2 z hz
  have hwm : ∀ z ∈ l1 ++ l2, WF z := fun z hz => by
    rcases List.mem_append.1 hz with hz | hz
    · exact hw1 z hz
    · exact hw2 z hz
  have hev : evs (l1 ++ l2) = evs (a :: l2) := evs_eq hwm hwl fun z => by
    constructor
    · rintro ⟨b, hb, hz⟩
      rcases List.mem_append.1 hb with hb | hb
      · exact ⟨a, List.mem_cons_self .., by rw [hal]; exact evs_mem.2 ⟨b, hb, hz⟩⟩
      · exact ⟨b, List.mem_cons_of_mem _ hb, hz⟩
    · rintro ⟨b, hb, hz⟩
      rcases List.mem_cons.1 hb with rfl | hb
      · rw [hal] at hz
        obtain ⟨c, hc, hz⟩ := evs_mem.1 hz
        exact ⟨c, List.mem_append_left _ hc, hz⟩
      · exact ⟨b, List.mem_append_right _ hb, hz⟩
  cases hn1 : noSt l1 with
  | true =>
    have ha0 := syn_no hn1 ha
    rw [syn_no (by rw [noSt_app, hn1]; rfl) hr', syn_no (noSt_iff.2 ⟨a, List.mem_cons_self .., by rw [ha0]⟩) hr, hev]
  | false =>
    cases hn2 : noSt l2 with
    | true =>
      obtain ⟨z, hz, h0⟩ := noSt_iff.1 hn2
      rw [syn_no (by rw [noSt_app, hn1, hn2]; rfl) hr', syn_no (noSt_iff.2 ⟨z, List.mem_cons_of_mem _ hz, h0⟩) hr, hev]
    | false =>
      obtain ⟨s, hs, rfl⟩ := syn_get hn1 ha
      exact syn_front hw1 hw2 hn1 hn2 hp hs hr hr'
theorem back_all (hw1 : ∀ a ∈ l1, WF a) (hw2 : ∀ a ∈ l2, WF a) (hp : prodN l2 ≤ 4096) (ha : synR l2 = some (a, T1)) (hr : synR (l1 ++ [a]) = some (r, T)) (hr' : synR (l1 ++ l2) = some (r', T')) : r' = r := by
  have hwa := syn_wf hw2 hp ha
  have hal := syn_al ha
  have hwl : ∀ z ∈ l1 ++ [a], WF z := fun z hz => by
    rcases List.mem_append.1 hz with hz | hz
    · exact hw1 z hz
    · obtain rfl := List.mem_singleton.1 hz; exact hwa
  have hwm : ∀ z ∈ l1 ++ l2, WF z := fun z hz => by
    rcases List.mem_append.1 hz with hz | hz
    · exact hw1 z hz
    · exact hw2 z hz
  have hev : evs (l1 ++ l2) = evs (l1 ++ [a]) := evs_eq hwm hwl fun z => by
    constructor
    · rintro ⟨b, hb, hz⟩
      rcases List.mem_append.1 hb with hb | hb
      · exact ⟨b, List.mem_append_left _ hb, hz⟩
      · exact ⟨a, List.mem_append_right _ (List.mem_singleton.2 rfl), by rw [hal]; exact evs_mem.2 ⟨b, hb, hz⟩⟩
    · rintro ⟨b, hb, hz⟩
      rcases List.mem_append.1 hb with hb | hb
      · exact ⟨b, List.mem_append_left _ hb, hz⟩
      · obtain rfl := List.mem_singleton.1 hb
        rw [hal] at hz
        obtain ⟨c, hc, hz⟩ := evs_mem.1 hz
        exact ⟨c, List.mem_append_right _ hc, hz⟩
  cases hn2 : noSt l2 with
  | true =>
    have ha0 := syn_no hn2 ha
    rw [syn_no (by rw [noSt_app, hn2, Bool.or_true]) hr', syn_no (noSt_iff.2 ⟨a, List.mem_append_right _ (List.mem_singleton.2 rfl), by rw [ha0]⟩) hr, hev]
  | false =>
    cases hn1 : noSt l1 with
    | true =>
      obtain ⟨z, hz, h0⟩ := noSt_iff.1 hn1
      rw [syn_no (by rw [noSt_app, hn1]; rfl) hr', syn_no (noSt_iff.2 ⟨z, List.mem_append_left _ hz, h0⟩) hr, hev]
    | false =>
      obtain ⟨s, hs, rfl⟩ := syn_get hn2 ha
      exact syn_back hw1 hw2 hn1 hn2 hp hs hr hr'
/-- neighbours change places, whatever is empty -/
theorem swap_all {l0 l3 : List Aut} {a b : Aut} (hw : ∀ z ∈ l0 ++ a :: b :: l3, WF z) (hr : synR (l0 ++ a :: b :: l3) = some (r, T)) (hr' : synR (l0 ++ b :: a :: l3) = some (r', T')) : r' = r := by
  cases hn : noSt (l0 ++ a :: b :: l3) with
  | false => exact syn_swap hw hn hr hr'
  | true =>
    have hm : ∀ z, z ∈ l0 ++ b :: a :: l3 ↔ z ∈ l0 ++ a :: b :: l3 := fun z => by
      simp only [List.mem_append, List.mem_cons]
      constructor <;> (intro h; rcases h with h | h | h | h <;> simp [h])
    obtain ⟨z, hz, h0⟩ := noSt_iff.1 hn
    have hev : evs (l0 ++ b :: a :: l3) = evs (l0 ++ a :: b :: l3) := evs_eq (fun z hz => hw z ((hm z).1 hz)) hw fun z =>
      ⟨fun ⟨c, hc, h⟩ => ⟨c, (hm c).1 hc, h⟩, fun ⟨c, hc, h⟩ => ⟨c, (hm c).2 hc, h⟩⟩
    rw [syn_no (noSt_iff.2 ⟨z, (hm z).2 hz, h0⟩) hr', syn_no hn hr, hev]
end
end Go.Proofs.YtbdliebjalghmaaDoor
