/- Walks: word.Shuffles: the collecting, the library's sort by its contract, the compaction. -/
import Derived.Test.YtcbhencebflgcaaWg
import Derived.Test.YtcbhencebflgcaaPm
import Derived.Test.YtcbhencebflgcaaSort
import Derived.Lib.OwnBridge
namespace Go.Proofs.Ytcbhencebflgcaa
open Go.RowKit Go

set_option maxHeartbeats 400000 in
theorem word_Compare_x (A B : Option Addr) (c d : Nat) (a b : List Int) (w : World) (ha : RdI w w.heap.size A a) (hac : a.length ≤ 9223372036854775807) (hb : RdI w w.heap.size B b) :
    Calls Try.prog 24 #[.slice A a.length c, .slice B b.length d] w fun e w' => e = .returned (.int .i64 (cmpW a b)) ∧ w' = w.alloc (.cells #[.int .i64 (cmpI a.length b.length), .int .i64 (slC a b)] 3) := by
  have e := cmpW_or a b
  have HE := Lib.hid e; clear e
  go_enter Try.func24, Try.ntmps24
  go_wp2_with (first | (go_at_call 51; refine (cmp_Compare _ _ _).mono ?_; rintro e w' ⟨rfl, rfl⟩) | (go_at_call 52; refine (slices_Compare _ _ _ _ _ _ _ ha hac hb).mono ?_; rintro e w' ⟨rfl, rfl⟩) | (go_at_call 50; refine (cmp_Or _ _ _ _ _ (cell_two_0 _ _ _ _) (cell_two_1 _ _ _ _)).mono ?_; rintro e w' ⟨rfl, rfl⟩))
  go_ret
  exact ⟨ret_int HE.out, rfl⟩

/-- A slice that reads as ints in w, whatever is done to rows of slices. -/
def Gd (B : Nat) (w : World) (s : SlV) : Prop := RdK 3 B w s.A s.l ∧ s.l.length ≤ s.c ∧ s.c ≤ 9223372036854775807
structure GdT (B : Nat) (w : World) where
  s : SlV
  ok : Gd B w s
instance (B : Nat) (w : World) : Inhabited (GdT B w) := ⟨⟨⟨none, 0, []⟩, RdK.nil, Nat.le_refl _, by decide⟩⟩
def gv {B : Nat} {w : World} (x : GdT B w) : Value := x.s.v
def gl {B : Nat} {w : World} (x : GdT B w) : List Int := x.s.l
def gcmp {B : Nat} {w : World} (x y : GdT B w) : Int := cmpW (gl x) (gl y)

theorem gcmp_swo (B : Nat) (w : World) : Sort.SWO (Go.Proofs.ltOf (gcmp (B := B) (w := w))) where
  irrefl x := decide_eq_false (by unfold gcmp; rw [cmpW_self]; decide)
  trans x y z h1 h2 := by
    have k1 : cmpW (gl x) (gl y) < 0 := of_decide_eq_true h1
    have k2 : cmpW (gl y) (gl z) < 0 := of_decide_eq_true h2
    exact decide_eq_true (cmpW_lt_le k1 (Int.le_of_lt k2))
  ntrans x y z h1 h2 := by
    have k1 : ¬ cmpW (gl x) (gl y) < 0 := of_decide_eq_false h1
    have k2 : ¬ cmpW (gl y) (gl z) < 0 := of_decide_eq_false h2
    have e1 := cmpW_neg (gl x) (gl y)
    have e2 := cmpW_neg (gl y) (gl z)
    have e3 := cmpW_neg (gl x) (gl z)
    have := cmpW_le_trans (a := gl z) (b := gl y) (c := gl x) (by omega) (by omega)
    exact decide_eq_false (show ¬ cmpW (gl x) (gl z) < 0 by omega)
theorem gd_list {B : Nat} {w : World} : ∀ {xs : List SlV}, (∀ s ∈ xs, Gd B w s) → ∃ es : List (GdT B w), es.map GdT.s = xs
  | [], _ => ⟨[], rfl⟩
  | x :: r, h => by
    obtain ⟨es, he⟩ := gd_list (xs := r) (fun s hs => h s (List.mem_cons_of_mem _ hs))
    exact ⟨⟨x, h x (List.mem_cons_self ..)⟩ :: es, by rw [List.map_cons, he]⟩

theorem sorted_list {B : Nat} {w : World} {d d' : Array (GdT B w)} (hp : Sort.PermIn 0 d.size d d') (hs : Sort.SortedIn (Go.Proofs.ltOf (gcmp (B := B) (w := w))) 0 d.size d') :
    d'.size = d.size ∧ d'.toList.Perm d.toList ∧ (d'.toList.map GdT.s).Pairwise (fun a b => cmpW a.l b.l ≤ 0) := by
  obtain ⟨h1, _, h3⟩ := hp
  refine ⟨h1, ?_, ?_⟩
  · have h4 : (List.take d.size d'.toList).Perm d.toList := by simpa using h3
    rwa [List.take_of_length_le (by rw [Array.length_toList, h1]; exact Nat.le_refl _)] at h4
  · rw [List.pairwise_map, List.pairwise_iff_getElem]
    intro i j hi hj hij
    have := hs i j (Nat.zero_le _) hij (by rw [← h1]; simpa using hj)
    rw [getElem!_pos d' i (by simpa using hi), getElem!_pos d' j (by simpa using hj)] at this
    have k : ¬ cmpW (gl d'[j]) (gl d'[i]) < 0 := of_decide_eq_false this
    have e := cmpW_neg (gl d'[i]) (gl d'[j])
    show cmpW (gl d'[i]) (gl d'[j]) ≤ 0
    omega

theorem grown_sort {B g : Nat} {w : World} (m : Nat) (dk : Array (GdT B w)) (os : Array Obj) : w.grownBy (sortWorld gv w g 0 m dk os) (some g) := by
  refine ⟨rfl, rfl, rfl, by simp [sortWorld, Sort.grow, Sort.putRow, Sort.mapBlock, Sort.ahead], fun k hk hne => ?_⟩
  have hgk : g ≠ k := fun e => hne (by rw [e])
  unfold sortWorld
  rw [Sort.heap_grow_old _ _ (by simpa [Sort.putRow, Sort.mapBlock, Sort.ahead] using hk)]
  simp [Sort.putRow, Sort.mapBlock, Sort.ahead, Array.getElem?_modify, hgk]
theorem own_grow {w : World} {base : Nat} {e : TypeId} {size n : Nat} {v : Value} {cur : List Value} (h : w.ownsRow base e size v n cur) (os : Array Obj) : (Sort.grow w os).ownsRow base e size v n cur :=
  own_below h ⟨rfl, rfl, rfl, by simp [Sort.grow], fun k hk => Sort.heap_grow_old _ _ hk⟩
theorem fr_sort {B base g cap n : Nat} {w : World} {cur : List Value} (hown : w.ownsRow base 22 1 (.slice (some ⟨g, 0, none⟩) n cap) n cur) (hB : B ≤ base) (m : Nat) (dk : Array (GdT B w)) (os : Array Obj) :
    Fr 3 B w (sortWorld gv w g 0 m dk os) := by
  have hg := (hown.lt g rfl)
  have hgr := grown_sort (g := g) m dk os
  refine Fr.grown hgr (fun g' e => ?_) (by omega)
  injection e with e
  subst e
  refine ⟨by omega, ?_⟩
  rintro ⟨cs, fz, he⟩
  rcases hown.2 with ⟨hv, _⟩ | ⟨g', cap', cur', hv, _, hgg, _⟩
  · cases hv
  · injection hv with hv _ _
    injection hv with hv
    injection hv with hv
    subst hv
    rw [hgg] at he
    cases he

set_option maxHeartbeats 800000 in
/-- slices.SortFunc over slices of ints by word.Compare: the row holds the same slices, in order. -/
theorem sort_any (B base g cap : Nat) (xs : List SlV) (w : World) (hown : w.ownsRow base 22 1 (.slice (some ⟨g, 0, none⟩) xs.length cap) xs.length (xs.map SlV.v)) (hok : okK B w xs)
    (hB : B ≤ base) (hn : xs.length ≤ 1000000) :
    Calls Try.prog 57 #[.slice (some ⟨g, 0, none⟩) xs.length cap, .func (.func 24) #[] #[]] w (EndU fun w' =>
      ∃ ys : List SlV, ys.Perm xs ∧ ys.Pairwise (fun a b => cmpW a.l b.l ≤ 0) ∧ w'.ownsRow base 22 1 (.slice (some ⟨g, 0, none⟩) xs.length cap) xs.length (ys.map SlV.v) ∧ Fr 3 B w w' ∧ w.grownBy w' (some g)) := by
  obtain ⟨es, he⟩ := gd_list (B := B) (w := w) (xs := xs) (fun s hs => hok s hs)
  have hlen : es.length = xs.length := by rw [← he, List.length_map]
  have hv : es.map gv = xs.map SlV.v := by rw [← he, List.map_map]; rfl
  rw [← hv] at hown
  obtain ⟨g', cap', hsl, _, hgl, _, _, _, hH⟩ := Lib.holds_of_ownsRow hown (by intro h; cases h)
  injection hsl with hsl _ hcap'
  injection hsl with hsl
  injection hsl with hsl
  subst hsl hcap'
  have hcmp : CmpLays1 Try.prog 24 #[] (gv (B := B) (w := w)) gcmp g 0 es.toArray.size w := by
    intro m os dk _ x y
    have hf := fr_sort hown hB m dk os
    have hx := (x.ok.1.fr hf).rd
    have hy := (y.ok.1.fr hf).rd
    exact (word_Compare_x x.s.A y.s.A x.s.c y.s.c x.s.l y.s.l _ hx (Nat.le_trans x.ok.2.1 x.ok.2.2) hy).mono fun e w' ⟨h1, h2⟩ => ⟨h1, 0, #[_], h2.trans (Sort.alloc_eq_grow _ _)⟩
  have hcon := Try.slices_SortFunc (gv (B := B) (w := w)) (fun _ => rfl) gcmp (gcmp_swo B w) 24 #[] g 0 cap es.toArray w (enters_of Try.func24 (by kernel_rfl) rfl) hcmp hH hgl (by simp; omega)
  have hsz : es.toArray.size = xs.length := by simpa using hlen
  rw [hsz] at hcon
  refine hcon.mono fun e w' ⟨h1, d', n, os, hp, hs, hw⟩ => ⟨h1, d'.toList.map GdT.s, ?_, ?_, ?_, ?_, ?_⟩
  · rw [← hsz] at hp hs
    obtain ⟨_, h3, _⟩ := sorted_list hp hs
    rw [← he]
    exact h3.map _
  · rw [← hsz] at hp hs
    exact (sorted_list hp hs).2.2
  · rw [← hsz] at hp
    have hl : d'.toList.length = xs.length := by rw [Array.length_toList, hp.1, hsz]
    have h5 := own_grow (Lib.ownsRow_putRow (q := n) hown hl (Nat.le_refl _)) os
    rw [← hl, List.take_length, hl] at h5
    rw [List.map_map, hw]
    exact h5
  · rw [hw]; exact fr_sort hown hB n d' os
  · rw [hw]; exact grown_sort n d' os
end Go.Proofs.Ytcbhencebflgcaa
