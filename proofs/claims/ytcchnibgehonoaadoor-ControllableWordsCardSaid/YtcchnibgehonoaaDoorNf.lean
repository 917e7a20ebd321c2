/- Walks: the law's breaks. -/
import Derived.Test.YtcchnibgehonoaaDoorNe
import Derived.Test.YtcchnibgehonoaaDoorDu
import Derived.ChangeKeysEq
import Derived.Deep.CutRange
namespace Go.Proofs.YtcchnibgehonoaaDoor
open Go.RowKit Go Go.Maps

theorem runS_rng {a : Aut} (h : WF a) : ∀ (ws : List Int) (s : Int), 0 ≤ s → s < a.st → 0 ≤ (runS (stA a) s ws).1 ∧ (runS (stA a) s ws).1 < a.st
 | [], s, h1, h2 => ⟨h1, h2⟩
 | v :: ws, s, h1, h2 => by
  unfold runS
  cases hs : stA a s v with
  | none => exact ⟨h1, h2⟩
  | some t =>
   have := stA_rng h hs
   exact runS_rng h ws t this.1 this.2
/-- an uncontrollable event does not break the requirement at a pair, and what it leads to is in the list -/
def okB (P R : Aut) (l : List (Int × Int)) (z : Int × Int) (v : Int) : Prop :=
 0 ≤ nxt P z.1 v → ¬ (hasB R.al v = true ∧ nxt R z.2 v < 0) ∧ (nxt P z.1 v, if hasB R.al v = true then nxt R z.2 v else z.2) ∈ l
/-- where the search stands -/
structure BrI (P R : Aut) (u : List Int) (z0 : Int × Int) (i k : Nat) (l : List (Int × Int)) : Prop where
 mem : z0 ∈ l
 brk : ∀ z ∈ l, Brk P R u z → Brk P R u z0
 nd : l.Nodup
 rng : ∀ z ∈ l, (0 ≤ z.1 ∧ z.1 < 5) ∧ (0 ≤ z.2 ∧ z.2 < 5)
 done : ∀ j z, j < i → l[j]? = some z → ∀ v ∈ u, okB P R l z v
 row : ∀ z, l[i]? = some z → ∀ v ∈ u.take k, okB P R l z v
section
variable {P R : Aut} {u : List Int} {z0 : Int × Int} {i k : Nat} {l : List (Int × Int)}
theorem BrI.start (h : (0 ≤ z0.1 ∧ z0.1 < 5) ∧ (0 ≤ z0.2 ∧ z0.2 < 5)) : BrI P R u z0 0 0 [z0] :=
 ⟨by simp, fun z hz hb => by rwa [List.mem_singleton.1 hz] at hb, by simp, fun z hz => by rwa [List.mem_singleton.1 hz], fun j _ hj => by omega, fun z _ v hv => by simp at hv⟩
theorem BrI.len (h : BrI P R u z0 i k l) : l.length ≤ 25 := by
 refine nodup_le (m := (List.range 5).flatMap (fun x : Nat => (List.range 5).map (fun y : Nat => ((x : Int), (y : Int))))) h.nd fun z hz => ?_
 obtain ⟨⟨g1, g2⟩, g3, g4⟩ := h.rng z hz
 rw [List.mem_flatMap]
 refine ⟨z.1.toNat, List.mem_range.2 (by omega), List.mem_map.2 ⟨z.2.toNat, List.mem_range.2 (by omega), ?_⟩⟩
 exact Prod.ext (by show ((z.1.toNat : Nat) : Int) = z.1; omega) (by show ((z.2.toNat : Nat) : Int) = z.2; omega)
theorem BrI.skip (h : BrI P R u z0 i k l) {z : Int × Int} {v : Int} (hz : l[i]? = some z) (hv : u[k]? = some v) (ho : okB P R l z v) : BrI P R u z0 i (k + 1) l := by
 refine ⟨h.mem, h.brk, h.nd, h.rng, h.done, fun z' hz' v' hv' => ?_⟩
 rw [take_snoc' hv] at hv'
 rcases List.mem_append.1 hv' with h1 | h1
 ·exact h.row z' hz' v' h1
 ·obtain rfl := List.mem_singleton.1 h1
  rw [hz] at hz'
  injection hz' with hz'
  rw [← hz']; exact ho
theorem BrI.push (h : BrI P R u z0 i k l) {z y : Int × Int} {v : Int} (hz : l[i]? = some z) (hv : u[k]? = some v) (h0 : 0 ≤ nxt P z.1 v) (hb : ¬ (hasB R.al v = true ∧ nxt R z.2 v < 0)) (hy : y = (nxt P z.1 v, if hasB R.al v = true then nxt R z.2 v else z.2)) (hn : y ∉ l)
  (hr : (0 ≤ y.1 ∧ y.1 < 5) ∧ (0 ≤ y.2 ∧ y.2 < 5)) : BrI P R u z0 i (k + 1) (l ++ [y]) := by
 have hlt := (List.getElem?_eq_some_iff.1 hz).1
 have mono : ∀ {z' v'}, okB P R l z' v' → okB P R (l ++ [y]) z' v' := fun ho h1 => ⟨(ho h1).1, List.mem_append_left _ (ho h1).2⟩
 refine ⟨List.mem_append_left _ h.mem, fun z' hz' hbk => ?_, ?_, fun z' hz' => ?_, fun j z' hj hz' v' hv' => ?_, fun z' hz' v' hv' => ?_⟩
 ·rcases List.mem_append.1 hz' with h1 | h1
  ·exact h.brk z' h1 hbk
  ·obtain rfl := List.mem_singleton.1 h1
   exact h.brk z (List.mem_of_getElem? hz) (.go (List.mem_of_getElem? hv) (stI_some.2 ⟨h0, hb, hy⟩) hbk)
 ·rw [List.nodup_append]
  exact ⟨h.nd, by simp, fun a ha c hc => by obtain rfl := List.mem_singleton.1 hc; rintro rfl; exact hn ha⟩
 ·rcases List.mem_append.1 hz' with h1 | h1
  ·exact h.rng z' h1
  ·obtain rfl := List.mem_singleton.1 h1; exact hr
 ·rw [List.getElem?_append_left (by omega)] at hz'
  exact mono (h.done j z' hj hz' v' hv')
 ·rw [List.getElem?_append_left hlt] at hz'
  rw [take_snoc' hv] at hv'
  rcases List.mem_append.1 hv' with h1 | h1
  ·exact mono (h.row z' hz' v' h1)
  ·obtain rfl := List.mem_singleton.1 h1
   rw [hz] at hz'
   injection hz' with hz'
   subst hz'
   exact fun _ => ⟨hb, by rw [← hy]; simp⟩
theorem BrI.next (h : BrI P R u z0 i k l) (hk : ¬ k < u.length) : BrI P R u z0 (i + 1) 0 l := by
 refine ⟨h.mem, h.brk, h.nd, h.rng, fun j z hj hz v hv => ?_, fun z _ v hv => by simp at hv⟩
 by_cases hji : j = i
 ·subst hji
  exact h.row z hz v (by rw [take_all' hk]; exact hv)
 ·exact h.done j z (by omega) hz v hv
theorem BrI.fin (h : BrI P R u z0 i 0 l) (hi : ¬ i < l.length) : ¬ Brk P R u z0 := by
 have key : ∀ z, Brk P R u z → z ∉ l := by
  intro z hb
  induction hb with
  | bad h1 h2 h3 h4 =>
   intro hm
   obtain ⟨j, hj⟩ := List.getElem?_of_mem hm
   have hlt := (List.getElem?_eq_some_iff.1 hj).1
   exact (h.done j _ (by omega) hj _ h1 h2).1 ⟨h3, h4⟩
  | go h1 h2 _ ih =>
   intro hm
   obtain ⟨j, hj⟩ := List.getElem?_of_mem hm
   have hlt := (List.getElem?_eq_some_iff.1 hj).1
   obtain ⟨g1, g2, g3⟩ := stI_some.1 h2
   have := (h.done j _ (by omega) hj _ h1 g1).2
   rw [← g3] at this
   exact ih this
 exact fun hb => key _ hb h.mem
theorem BrI.bad (h : BrI P R u z0 i k l) {z : Int × Int} {v : Int} (hz : l[i]? = some z) (hv : u[k]? = some v) (h0 : 0 ≤ nxt P z.1 v) (h1 : hasB R.al v = true) (h2 : nxt R z.2 v < 0) : Brk P R u z0 :=
 h.brk z (List.mem_of_getElem? hz) (.bad (List.mem_of_getElem? hv) h0 h1 h2)
end
theorem pair_eql (w : World) (a b c d : Int) : (binOp .eql 97 (.agg #[.int .i64 a, .int .i64 b]) (.agg #[.int .i64 c, .int .i64 d])).run Tryd.prog w = .ok (.bool (decide ((a, b) = (c, d)))) w := by
 obtain ⟨i, hi, _⟩ := info_parts int_info
 have hc : Tryd.prog.cellsOf 3 = 1 := by kernel_rfl
 have hu := Tryd.underlying97
 have hv := Tryd.underlying3
 simp only [binOp]
 simp only [Op.equal, Op.maxDepth, Sem.run_bind, run_equalIn_array w 9999 _ _ hu hi, hc]
 simp [Op.eqItems, List.range, List.range.loop, part]
 rw [run_equalIn_int w 9998 3 .i64 .i64 a c hv]
 by_cases h1 : a = c
 ·subst h1
  simp [run_equalIn_int w 9998 3 .i64 .i64 b d hv]
  by_cases h2 : b = d <;> simp [h2]
 ·simp [h1]
theorem own_pair (w : World) (base : Nat) (hb : base ≤ w.heap.size) (z : Int × Int) : (w.alloc (.cells #[.int .i64 z.1, .int .i64 z.2] 97)).ownsRow base 97 2 (.slice (some ⟨w.heap.size, 0, none⟩) 1 1) 1 (pc z) :=
 ⟨by simp [pc], .inr ⟨w.heap.size, 1, #[.int .i64 z.1, .int .i64 z.2], rfl, hb, heap_alloc_new w _, Nat.le_refl _, by unfold maxLen; omega, by simp, by simp [pc]⟩⟩

set_option maxRecDepth 100000 in
set_option maxHeartbeats 6400000 in
theorem law_breaks (x y : AV) (U : Option Addr) (nu cu : Nat) (u : List Int) (W : Option Addr) (cw nw : Nat) (ws : List Int) (b : Bool) (w : World) (hx : x.ok w w.heap.size) (hy : y.ok w w.heap.size) (hxw : WF x.a) (hyw : WF y.a) (hu : RdU w U nu cu u)
  (hl : ws.length = nw) (hW : RdI w w.heap.size W ws) (hc1 : nw ≤ cw) (hc2 : cw ≤ 9223372036854775807) (hn : nw ≤ 17592186044416) (hg : gA x.a ws = true) (hp : gA y.a (projW ws y.a.al) = true) (hP : x.a.st ≤ 5) (hR : y.a.st ≤ 5) (hb : b = true ↔ Brk x.a y.a u (prF x.a y.a ws)) :
  Calls Tryd.prog 40 #[.agg #[.slice x.A x.na x.ca, .int .i64 x.a.st, .slice x.M x.nm x.cm, .slice x.E x.ne x.ce], .agg #[.slice y.A y.na y.ca, .int .i64 y.a.st, .slice y.M y.nm y.cm, .slice y.E y.ne y.ce], .slice U nu cu, .slice W nw cw, .int .i64 26] w fun e w' => e = .returned (.bool b) ∧ Below w.heap.size w w' := by
 have hb1 := box_below w (.cells #[.slice x.A x.na x.ca, .int .i64 x.a.st, .slice x.M x.nm x.cm, .slice x.E x.ne x.ce] 25)
 have vx := VarA.new hx
 have vy := VarA.new (AutR.more (AutR.below hy hb1) hb1.size : y.ok (w.alloc (.cells #[.slice x.A x.na x.ca, .int .i64 x.a.st, .slice x.M x.nm x.cm, .slice x.E x.ne x.ce] 25)) _)
 have hb2 := box_below (w.alloc (.cells #[.slice x.A x.na x.ca, .int .i64 x.a.st, .slice x.M x.nm x.cm, .slice x.E x.ne x.ce] 25)) (.cells #[.slice y.A y.na y.ca, .int .i64 y.a.st, .slice y.M y.nm y.cm, .slice y.E y.ne y.ce] 25)
 have hvx := vx.below hb2
 have hb3 := hb1.trans (hb2.mono hb1.size)
 rw [show (w.alloc (.cells #[.slice x.A x.na x.ca, .int .i64 x.a.st, .slice x.M x.nm x.cm, .slice x.E x.ne x.ce] 25)).heap.size = w.heap.size + 1 by simp] at vy
 obtain ⟨w1, hw1⟩ : ∃ w1, w1 = (w.alloc (.cells #[.slice x.A x.na x.ca, .int .i64 x.a.st, .slice x.M x.nm x.cm, .slice x.E x.ne x.ce] 25)).alloc (.cells #[.slice y.A y.na y.ca, .int .i64 y.a.st, .slice y.M y.nm y.cm, .slice y.E y.ne y.ce] 25) := ⟨_, rfl⟩
 rw [← hw1] at hvx vy hb3
 have hu1 := hu.below hb3
 have hW1 := (hW.below hb3).more hb3.size
 obtain ⟨RX, hRX⟩ : ∃ r, runS (stA x.a) 0 ws = r := ⟨_, rfl⟩
 obtain ⟨RY, hRY⟩ : ∃ r, runS (stA y.a) 0 (projW ws y.a.al) = r := ⟨_, rfl⟩
 have hgp := gA_iff.1 hg
 have hpp := gA_iff.1 hp
 have hxs : (0 : Int) < x.a.st := by have := hxw.st0; have := hgp.1; omega
 have hys : (0 : Int) < y.a.st := by have := hyw.st0; have := hpp.1; omega
 have hxr := runS_rng hxw ws 0 (Int.le_refl _) hxs
 have hyr := runS_rng hyw (projW ws y.a.al) 0 (Int.le_refl _) hys
 rw [hRX] at hxr
 rw [hRY] at hyr
 obtain ⟨z0, hz0⟩ : ∃ z, prF x.a y.a ws = z := ⟨_, rfl⟩
 rw [hz0] at hb
 have HZ0 := Lib.hid (show z0 = (RX.1, RY.1) by rw [← hz0]; unfold prF; rw [hRX, hRY])
 have HBS := Lib.hid (show BrI x.a y.a u z0 0 0 [z0] from BrI.start (by rw [HZ0.out]; exact ⟨⟨hxr.1, by omega⟩, hyr.1, by omega⟩))
 have HRUN := Lib.hid (automaton_Run x.A x.M x.E x.na x.ca x.nm x.cm x.ne x.ce x.a 0 W cw nw ws RX w1 hvx.ok hxw (Int.le_refl _) hxs hl hW1 hc1 hc2 (by
  obtain ⟨t, ht⟩ := Option.isSome_iff_exists.1 hgp.2
  exact goS_al hxw ws 0 t ht) hRX)
 have HYS := Lib.hid hys
 obtain ⟨np, hnp⟩ : ∃ k, (projW ws y.a.al).length = k := ⟨_, rfl⟩
 have HNP := Lib.hid hnp; clear hnp
 have HRY := Lib.hid hRY; clear hRY
 have HW1 := Lib.hid hw1; clear hw1
 have HB1 := Lib.hid hb3; clear hb3
 have VX := Lib.hid hvx; clear hvx
 have VY := Lib.hid vy; clear vy
 have HU := Lib.hid hu1; clear hu1
 have HWR := Lib.hid hW1; clear hW1
 have HXW := Lib.hid hxw; clear hxw
 have HYW := Lib.hid hyw; clear hyw
 have HL := Lib.hid hl; clear hl
 have HBB := Lib.hid hb; clear hb
 have HP5 := Lib.hid hP; clear hP
 have HR5 := Lib.hid hR; clear hR
 clear hb1 hb2 vx hx hy hu hW hg hp hgp hpp hxs hys hxr hyr hz0 hRX
 go_enter Tryd.func40, Tryd.ntmps40
 go_upto_region 1 with fail
 rw [← HW1.out]
 have p0 := VX.out.c0
 have p1 := VX.out.c1
 have p2 := VX.out.c2
 have p3 := VX.out.c3
 go_wp2_with fail
 clear p0 p1 p2 p3
 refine HRUN.out.mono ?_
 rintro e w2 ⟨rfl, hb⟩
 have HB2 := Lib.hid (HB1.out.trans (hb.mono HB1.out.size))
 replace VX := Lib.hid (VX.out.below hb)
 replace VY := Lib.hid (VY.out.below hb)
 replace HU := Lib.hid (HU.out.below hb)
 replace HWR := Lib.hid ((HWR.out.below hb).more hb.size)
 clear hb HRUN HW1
 go_upto_region 2 with fail
 refine wp_region_U (fun W => CV W (w.heap.size + 1) y) (fun _ => True) 4 (by kernel_rfl) ?_
 change anyU _ _ _ _ _ _ _ 13 _ _ _
 have hB0 : True := trivial
 have hbd := below_dr w2
 have VYD := Lib.hid (VY.out.below hbd)
 have hWd := (HWR.out.below hbd).more hbd.size
 have HBD := Lib.hid hbd
 clear hbd
 generalize w2.drew = wd at VYD hWd HBD ⊢
 have hA0 := VYD.out.cv
 have hyal := HYW.out.al_le
 have HPJ := Lib.hid (word_Project_n W y.A cw y.ca nw y.na ws y.a.al wd HL.out VYD.out.ok.la hWd hn VYD.out.ok.ra (by have := VYD.out.ok.la; omega) HYW.out.inc)
 clear hWd hyal
 (refine uA 0 ?_ rfl hA0 hB0 (fun W hA => ?_) ?_; rotate_left; (· (obtain ⟨a0, a1, a2, a3⟩ := hA; go_simp; try with_reducible rfl)); (try simp only [Act.put, List.setIfInBounds_toArray, List.set_cons_zero, List.set_cons_succ]))
 (refine uA 1 ?_ rfl hA0 hB0 (fun W hA => ?_) ?_; rotate_left; (· (go_simp; try with_reducible rfl)); refine uA 2 ?_ rfl hA0 hB0 (fun W hA => ?_) ?_; rotate_left; (· (go_simp; try with_reducible rfl)); (try simp only [Act.put, List.setIfInBounds_toArray, List.set_cons_zero, List.set_cons_succ]))
 (refine uA 3 ?_ rfl hA0 hB0 (fun W hA => ?_) ?_; rotate_left; (· (obtain ⟨a0, a1, a2, a3⟩ := hA; go_simp; try with_reducible rfl)); (try simp only [Act.put, List.setIfInBounds_toArray, List.set_cons_zero, List.set_cons_succ]))
 refine uOne (i := 4) rfl (by kernel_rfl) (fun K hK => ?_)
 go_simp
 go_at_call 73
 refine HPJ.out.mono ?_
 rintro e we ⟨PA, pc9, rfl, hp1, hp2, hpr, hbe⟩
 rw [HNP.out] at hp1 ⊢
 have VYE := Lib.hid (VYD.out.below hbe)
 have HRUN := Lib.hid (automaton_Run y.A y.M y.E y.na y.ca y.nm y.cm y.ne y.ce y.a 0 PA pc9 np (projW ws y.a.al) RY we VYE.out.ok HYW.out (Int.le_refl _) HYS.out HNP.out hpr hp1 hp2 (fun v hv => by unfold projW at hv; exact hasB_mem.1 (List.mem_filter.1 hv).2) HRY.out)
 have hA1 := VYE.out.cv
 have HBE := Lib.hid (HBD.out.trans (hbe.mono HBD.out.size))
 clear hA0 hbe hpr HPJ hp1 hp2
 (refine hK _ _ ⟨hA1, fun _ => hB0⟩ ?_; clear hK K; (try simp only [Act.put, List.setIfInBounds_toArray, List.set_cons_zero, List.set_cons_succ]))
 refine uOne (i := 5) rfl (by kernel_rfl) (fun K hK => ?_)
 go_simp
 go_at_call 45
 refine HRUN.out.mono ?_
 rintro e wf ⟨rfl, hbf⟩
 have HBF := Lib.hid (HBE.out.trans (hbf.mono HBE.out.size))
 have hA0 := (VYE.out.below hbf).cv
 clear hA1 hbf HRUN
 (refine hK _ _ ⟨hA0, fun _ => hB0⟩ ?_; clear hK K; (try simp only [Act.put, List.setIfInBounds_toArray, List.set_cons_zero, List.set_cons_succ]))
 (refine uA 6 ?_ rfl hA0 hB0 (fun W hA => ?_) ?_; rotate_left; (· (go_simp; try with_reducible rfl)); refine uA 7 ?_ rfl hA0 hB0 (fun W hA => ?_) ?_; rotate_left; (· (go_simp; try with_reducible rfl)); refine uA 8 ?_ rfl hA0 hB0 (fun W hA => ?_) ?_; rotate_left; (· (go_simp; try with_reducible rfl)); refine uA 9 ?_ rfl hA0 hB0 (fun W hA => ?_) ?_; rotate_left; (· (go_simp; try with_reducible rfl)); refine uA 10 ?_ rfl hA0 hB0 (fun W hA => ?_) ?_; rotate_left; (· (go_simp; try with_reducible rfl)); refine uA 11 ?_ rfl hA0 hB0 (fun W hA => ?_) ?_; rotate_left; (· (go_simp; try with_reducible rfl)); refine uA 12 ?_ rfl hA0 hB0 (fun W hA => ?_) ?_; rotate_left; (· (go_simp; try with_reducible rfl)); (try simp only [Act.put, List.setIfInBounds_toArray, List.set_cons_zero, List.set_cons_succ]))
 refine anyU_done (by kernel_rfl) ?_ _
 clear hA0 hB0 VYD VYE HBD HBE
 replace VX := Lib.hid (VX.out.below HBF.out)
 replace VY := Lib.hid (VY.out.below HBF.out)
 replace HU := Lib.hid (HU.out.below HBF.out)
 have HB3 := Lib.hid (HB2.out.trans (HBF.out.mono HB2.out.size))
 clear HB2 HBF HWR HL
 obtain ⟨z1, z2⟩ := z0
 have hz1 : RX.1 = z1 := by have := HZ0.out; injection this with h1 h2; exact h1.symm
 have hz2 : RY.1 = z2 := by have := HZ0.out; injection this with h1 h2; exact h2.symm
 rw [hz1, hz2]
 clear hz1 hz2 HZ0
 have hbx := box_below wf (.cells #[.int .i64 z1, .int .i64 z2] 97)
 have HO := Lib.hid (own_pair wf wf.heap.size (Nat.le_refl _) (z1, z2))
 have HB4 := Lib.hid hbx
 have hwl : wf.heap.size < (wf.alloc (.cells #[.int .i64 z1, .int .i64 z2] 97)).heap.size := by simp
 have hww : w.heap.size ≤ wf.heap.size := HB3.out.size
 have hnu9 : nu ≤ 9223372036854775807 := by have := HU.out.c1; have := HU.out.c2; omega
 clear hbx
 go_upto_region 6 with fail
 obtain ⟨wq, hwq⟩ : ∃ wq, wq = wf.alloc (.cells #[.int .i64 z1, .int .i64 z2] 97) := ⟨_, rfl⟩
 rw [← hwq] at HO HB4 hwl ⊢
 clear hwq
 go_wp2
 go_loopw [17, 18, 19, 20, 21, 22] (fun s17 s18 s19 s20 s21 s22 wr => ∃ (i n : Nat) (A : Option Addr) (c : Nat) (l : List (Int × Int)) (v19 v20 v21 v22 : Value), s17 = .slice A n c ∧ s18 = .int .i64 i ∧ s19 = v19 ∧ s20 = v20 ∧ s21 = v21 ∧ s22 = v22 ∧ i ≤ n ∧ n ≤ 25 ∧ Hid (l.length = n) ∧ Hid (wr.ownsRow wf.heap.size 97 2 (.slice A n c) n (l.flatMap pc)) ∧ Hid (BrI x.a y.a u (z1, z2) i 0 l) ∧ Hid (Below wf.heap.size wf wr) ∧ wf.heap.size < wr.heap.size) (fun _ s18 _ _ _ _ _ => 26 - (intOf s18).toNat)
 case atStart => exact ⟨0, 1, _, _, [(z1, z2)], _, _, _, _, rfl, rfl, rfl, rfl, rfl, rfl, Nat.zero_le _, by omega, Lib.hid rfl, Lib.hid (by simpa using HO.out), HBS, HB4, hwl⟩
 case round =>
  obtain ⟨i, n0, A0, c0, l0, v19, v20, v21, v22, rfl, rfl, rfl, rfl, rfl, rfl, hi, hn25, HLN, HOW, HBI, HBL, hbs⟩ := hrel
  by_cases hlt : i < n0
  ·have b1 : (i : Int) < (n0 : Int) := by omega
   have b2 : (i : Int) < 104 := by omega
   go_wp2
   go_loopw [17, 19, 20, 21, 22] (fun s17 s19 s20 s21 s22 wr => ∃ (k n : Nat) (A : Option Addr) (c : Nat) (l : List (Int × Int)) (v20 v21 v22 : Value), s17 = .slice A n c ∧ s19 = .int .i64 k ∧ s20 = v20 ∧ s21 = v21 ∧ s22 = v22 ∧ i < n ∧ n ≤ 25 ∧ k ≤ nu ∧ Hid (l.length = n) ∧ Hid (wr.ownsRow wf.heap.size 97 2 (.slice A n c) n (l.flatMap pc)) ∧ Hid (BrI x.a y.a u (z1, z2) i k l) ∧ Hid (Below wf.heap.size wf wr) ∧ wf.heap.size < wr.heap.size) (fun _ s19 _ _ _ _ => nu - (intOf s19).toNat)
   case atStart => exact ⟨0, n0, _, _, l0, _, _, _, rfl, rfl, rfl, rfl, rfl, hlt, hn25, Nat.zero_le _, HLN, HOW, HBI, HBL, hbs⟩
   case round =>
    clear HLN HOW HBI HBL hbs hi hlt hn25 b1
    obtain ⟨k, n, A, c, l, v20, v21, v22, rfl, rfl, rfl, rfl, rfl, hlt, hn25, hk, HLN, HOW, HBI, HBL, hbs⟩ := hrel
    by_cases hkt : k < nu
    ·have hVX := VX.out.below HBL.out
     have hVY := VY.out.below HBL.out
     have hU := HU.out.below HBL.out
     obtain ⟨ud, v, hUA, hub, hv, hvc⟩ := hU.rd.at_ (k := k) (by rw [hU.len]; exact hkt)
     subst hUA
     obtain ⟨ad, zz, hA, hab, hz, hcc⟩ := RdR.get (RdR.of_own (f := pc) (by omega) (fun _ _ => rfl) HOW.out) (k := i) (by rw [HLN.out]; exact hlt)
     subst hA
     obtain ⟨a1, a2⟩ := zz
     have q1 : wr.cell? (ad.add (i * 2)) = some (.int .i64 a1) := hcc 0 _ rfl
     have q2 : wr.cell? (ad.add (i * 2 + 1)) = some (.int .i64 a2) := hcc 1 _ rfl
     have HAW := Lib.hid (fun (W : World) (hb : Below wr.heap.size wr W) => (show CV W w.heap.size x ∧ CV W (w.heap.size + 1) y ∧ (W.cell? (ad.add (i * 2)) = some (.int .i64 a1) ∧ W.cell? ⟨(ad.add (i * 2)).block, (ad.add (i * 2)).off + 1, none⟩ = some (.int .i64 a2)) ∧ W.cell? (ud.add k) = some (.int .i64 v) from
      ⟨(hVX.below hb).cv, (hVY.below hb).cv, ⟨(hb.cell (p := ad.add (i * 2)) (by rw [block_of_add]; exact hab)).trans q1, st_cells (j := 0) ((hb.cell (p := ad.add (i * 2 + 1)) (by rw [block_of_add]; exact hab)).trans q2)⟩, (hb.cell (p := ud.add k) (by rw [block_of_add]; exact hub)).trans hvc⟩))
     have HNX := Lib.hid (fun (W : World) (hb : Below wr.heap.size wr W) => law_next x.A x.na x.ca x.M x.nm x.cm x.E x.ne x.ce x.a a1 v W (hVX.below hb).ok)
     have HNY := Lib.hid (fun (W : World) (hb : Below wr.heap.size wr W) => law_next y.A y.na y.ca y.M y.nm y.cm y.E y.ne y.ce y.a a2 v W (hVY.below hb).ok)
     obtain ⟨r, hr⟩ : ∃ r, hasB y.a.al v = r := ⟨_, rfl⟩
     have HHS := Lib.hid (fun (W : World) (hb : Below wr.heap.size wr W) => law_has y.A y.ca y.na y.a.al v r W (hVY.below hb).ok.la (hVY.below hb).ok.ra (by have := (hVY.below hb).ok.ac; have := (hVY.below hb).ok.cA; omega) hr)
     obtain ⟨t0, ht0⟩ : ∃ t, nxt x.a a1 v = t := ⟨_, rfl⟩
     obtain ⟨t1, ht1⟩ : ∃ t, nxt y.a a2 v = t := ⟨_, rfl⟩
     have hrng := HBI.out.rng _ (List.mem_of_getElem? hz)
     have HT5 := Lib.hid (show 0 ≤ t0 → t0 < 5 from fun h => by have := (HXW.out.nxt_rng (s := a1) (v := v) (by omega)).2.1; have := HP5.out; omega)
     have HR5' := Lib.hid (show 0 ≤ t1 → t1 < 5 from fun h => by have := (HYW.out.nxt_rng (s := a2) (v := v) (by omega)).2.1; have := HR5.out; omega)
     have HA2 := Lib.hid (show 0 ≤ a2 ∧ a2 < 5 from hrng.2)
     have HZ := Lib.hid hz
     have HV := Lib.hid hv
     have HT0 := Lib.hid ht0; clear ht0
     have HT1 := Lib.hid ht1; clear ht1
     have HRR := Lib.hid hr; clear hr
     have b1 : (i : Int) < (n : Int) := by omega
     have b2 : (k : Int) < (nu : Int) := by omega
     have hwr : wf.heap.size ≤ wr.heap.size := by omega
     clear hVX hVY hU hub hvc hab hcc q1 q2 hrng hz hv
     go_upto_region 12 with fail
     go_cut [20] from 62 to 130 (fun s20 wx => ∃ bb : Nat, s20 = .pointer (some ⟨bb, 0, none⟩) ∧ Hid (Blk wx bb 97 [.int .i64 t0, .int .i64 a2]) ∧ Hid (Below wr.heap.size wr wx) ∧ wr.heap.size ≤ bb)
     case first =>
      refine wp_region_U (fun W => CV W w.heap.size x ∧ CV W (w.heap.size + 1) y ∧ (W.cell? (ad.add (i * 2)) = some (.int .i64 a1) ∧ W.cell? ⟨(ad.add (i * 2)).block, (ad.add (i * 2)).off + 1, none⟩ = some (.int .i64 a2)) ∧ W.cell? (ud.add k) = some (.int .i64 v)) (fun _ => True) 10 (by kernel_rfl) ?_
      change anyU _ _ _ _ _ _ _ 19 _ _ _
      have hB0 : True := trivial
      have HBD := Lib.hid (below_dr wr)
      generalize wr.drew = wd at HBD ⊢
      have hA0 := HAW.out wd HBD.out
      (refine uA 0 ?_ rfl hA0 hB0 (fun W hA => ?_) ?_; rotate_left; (· (obtain ⟨⟨a0, a1, a2, a3⟩, _⟩ := hA; go_simp; try with_reducible rfl)); (try simp only [Act.put, List.setIfInBounds_toArray, List.set_cons_zero, List.set_cons_succ]))
      (refine uA 1 ?_ rfl hA0 hB0 (fun W hA => ?_) ?_; rotate_left; (· (go_simp; try with_reducible rfl)); refine uA 2 ?_ rfl hA0 hB0 (fun W hA => ?_) ?_; rotate_left; (· (go_simp; try with_reducible rfl)); refine uA 3 ?_ rfl hA0 hB0 (fun W hA => ?_) ?_; rotate_left; (· (go_simp; try with_reducible rfl)); refine uA 4 ?_ rfl hA0 hB0 (fun W hA => ?_) ?_; rotate_left; (· (go_simp; try with_reducible rfl)); (try simp only [Act.put, List.setIfInBounds_toArray, List.set_cons_zero, List.set_cons_succ]))
      (refine uA 5 ?_ rfl hA0 hB0 (fun W hA => ?_) ?_; rotate_left; (· (obtain ⟨_, _, ⟨a0, _⟩, _⟩ := hA; go_simp; try with_reducible rfl)); (try simp only [Act.put, List.setIfInBounds_toArray, List.set_cons_zero, List.set_cons_succ]))
      (refine uA 6 ?_ rfl hA0 hB0 (fun W hA => ?_) ?_; rotate_left; (· (go_simp; try with_reducible rfl)); refine uA 7 ?_ rfl hA0 hB0 (fun W hA => ?_) ?_; rotate_left; (· (go_simp; try with_reducible rfl)); refine uA 8 ?_ rfl hA0 hB0 (fun W hA => ?_) ?_; rotate_left; (· (go_simp; try with_reducible rfl)); (try simp only [Act.put, List.setIfInBounds_toArray, List.set_cons_zero, List.set_cons_succ]))
      (refine uA 9 ?_ rfl hA0 hB0 (fun W hA => ?_) ?_; rotate_left; (· (obtain ⟨_, _, _, a0⟩ := hA; go_simp; try with_reducible rfl)); (try simp only [Act.put, List.setIfInBounds_toArray, List.set_cons_zero, List.set_cons_succ]))
      (refine uA 11 ?_ rfl hA0 hB0 (fun W hA => ?_) ?_; rotate_left; (· (go_simp; try with_reducible rfl)); refine uA 12 ?_ rfl hA0 hB0 (fun W hA => ?_) ?_; rotate_left; (· (go_simp; try with_reducible rfl)); refine uA 13 ?_ rfl hA0 hB0 (fun W hA => ?_) ?_; rotate_left; (· (go_simp; try with_reducible rfl)); refine uA 14 ?_ rfl hA0 hB0 (fun W hA => ?_) ?_; rotate_left; (· (go_simp; try with_reducible rfl)); (try simp only [Act.put, List.setIfInBounds_toArray, List.set_cons_zero, List.set_cons_succ]))
      (refine uA 15 ?_ rfl hA0 hB0 (fun W hA => ?_) ?_; rotate_left; (· (obtain ⟨_, _, ⟨_, a0⟩, _⟩ := hA; go_simp; try with_reducible rfl)); (try simp only [Act.put, List.setIfInBounds_toArray, List.set_cons_zero, List.set_cons_succ]))
      refine uTwo (i := 10) (j := 17) rfl rfl (by kernel_rfl) (fun K hK => ?_) (fun K hK => ?_)
      ·skip
       go_simp
       go_at_call 66
       refine (HNX.out wd HBD.out).mono ?_
       rintro e we ⟨rfl, hbe⟩
       have HBE := Lib.hid (HBD.out.trans (hbe.mono HBD.out.size))
       skip
       replace hA0 := HAW.out we HBE.out
       rw [HT0.out]
       clear hbe
       (refine hK _ _ ⟨hA0, fun _ => hB0⟩ ?_; clear hK K; (try simp only [Act.put, List.setIfInBounds_toArray, List.set_cons_zero, List.set_cons_succ]))
       (refine uA 16 ?_ rfl hA0 hB0 (fun W hA => ?_) ?_; rotate_left; (· (go_simp; try with_reducible rfl)); (try simp only [Act.put, List.setIfInBounds_toArray, List.set_cons_zero, List.set_cons_succ]))
       refine uOne (i := 17) rfl (by kernel_rfl) (fun K hK => ?_)
       go_simp
       have hAz := HAW.out _ (HBE.out.alloc HBE.out.size (.cells #[.int .i64 0, .int .i64 0] 97))
       (refine hK _ _ ⟨hAz, fun _ => hB0⟩ ?_; clear hK K; (try simp only [Act.put, List.setIfInBounds_toArray, List.set_cons_zero, List.set_cons_succ]))
       have hx := box_below we (.cells #[.int .i64 t0, .int .i64 a2] 97)
       refine uOne (i := 18) rfl (by kernel_rfl) (fun K hK => ?_)
       go_simp
       have hAf := HAW.out _ (HBE.out.trans (hx.mono HBE.out.size))
       (refine hK _ _ ⟨hAf, fun _ => hB0⟩ ?_; clear hK K; (try simp only [Act.put, List.setIfInBounds_toArray, List.set_cons_zero, List.set_cons_succ]))
       refine anyU_done (by kernel_rfl) ?_ _
       have HV2 := Lib.hid (show Blk (we.alloc (.cells #[.int .i64 t0, .int .i64 a2] 97)) we.heap.size 97 [.int .i64 t0, .int .i64 a2] from Blk.new _ _ [_, _])
       have HF2 := Lib.hid (HBE.out.trans (hx.mono HBE.out.size))
       have hle := HBE.out.size
       clear hAz hAf hx
       go_wp2_with fail
       go_meet
       case rel => exact ⟨we.heap.size, rfl, HV2, HF2, hle⟩
      ·go_simp
       have HKZ := Lib.hid (show Blk (wd.alloc (.cells #[.int .i64 0, .int .i64 0] 97)) wd.heap.size 97 [.int .i64 0, .int .i64 0] from Blk.new _ _ [_, _])
       have HBX := Lib.hid (box_below wd (.cells #[.int .i64 0, .int .i64 0] 97))
       have HBZ := Lib.hid (HBD.out.trans (HBX.out.mono HBD.out.size))
       have hAz := HAW.out _ HBZ.out
       (refine hK _ _ ⟨hAz, fun _ => hB0⟩ ?_; clear hK K; (try simp only [Act.put, List.setIfInBounds_toArray, List.set_cons_zero, List.set_cons_succ]))
       refine uOne (i := 10) rfl (by kernel_rfl) (fun K hK => ?_)
       go_simp
       go_at_call 66
       refine (HNX.out _ HBZ.out).mono ?_
       rintro e we ⟨rfl, hbe⟩
       have HBE := Lib.hid (HBZ.out.trans (hbe.mono HBZ.out.size))
       have HKE := Lib.hid (HKZ.out.below hbe HKZ.out.lt)
       replace hA0 := HAW.out we HBE.out
       rw [HT0.out]
       clear hbe
       (refine hK _ _ ⟨hA0, fun _ => hB0⟩ ?_; clear hK K; (try simp only [Act.put, List.setIfInBounds_toArray, List.set_cons_zero, List.set_cons_succ]))
       (refine uA 16 ?_ rfl hA0 hB0 (fun W hA => ?_) ?_; rotate_left; (· (go_simp; try with_reducible rfl)); (try simp only [Act.put, List.setIfInBounds_toArray, List.set_cons_zero, List.set_cons_succ]))
       refine uOne (i := 18) rfl (by kernel_rfl) (fun K hK => ?_)
       have f0 := HKE.out.free 0
       have f1 := HKE.out.free 1
       have e0 := HKE.out.cell (j := 0) rfl
       have e1 := HKE.out.cell (j := 1) rfl
       have l9 := HKE.out.lt
       have lb := HBD.out.size
       have HV2 := Lib.hid ((HKE.out.set (j := 0) (by simp) (.int .i64 t0)).set (j := 1) (by simp) (.int .i64 a2))
       have HF2 := Lib.hid ((HBE.out.setCell (p := ⟨wd.heap.size, 0, none⟩) lb (.int .i64 t0)).setCell (p := ⟨wd.heap.size, 1, none⟩) lb (.int .i64 a2))
       have hAf := HAW.out _ HF2.out
       go_simp
       (refine hK _ _ ⟨hAf, fun _ => hB0⟩ ?_; clear hK K; (try simp only [Act.put, List.setIfInBounds_toArray, List.set_cons_zero, List.set_cons_succ]))
       refine anyU_done (by kernel_rfl) ?_ _
       clear hAz hAf f0 f1 e0 e1 l9
       go_wp2_with fail
       go_meet
       case rel => exact ⟨wd.heap.size, rfl, HV2, HF2, lb⟩
     case rest =>
      obtain ⟨bb, rfl, HBK, HBX, hbb⟩ := hcut
      have HOC := Lib.hid (own_below HOW.out HBX.out)
      have HBC := Lib.hid (HBL.out.trans (HBX.out.mono (by omega)))
      have hbc : wf.heap.size < wc.heap.size := by have := HBX.out.size; omega
      have d0 := HBK.out.cell (j := 0) rfl
      by_cases ht : t0 < 0
      ·go_wp2
       go_roundw
       case rel => exact ⟨k + 1, n, _, _, l, _, _, _, rfl, by go_num, rfl, rfl, rfl, hlt, hn25, by omega, HLN, HOC, Lib.hid (HBI.out.skip HZ.out HV.out (fun h => by rw [HT0.out] at h; omega)), HBC, hbc⟩
       case measure => simp [intOf]; omega
      ·have h0t : 0 ≤ t0 := by omega
       go_upto_region 14 with fail
       refine wp_region_U (fun W => CV W (w.heap.size + 1) y ∧ W.cell? (ud.add k) = some (.int .i64 v)) (fun _ => True) 6 (by kernel_rfl) ?_
       change anyU _ _ _ _ _ _ _ 7 _ _ _
       have hB0 : True := trivial
       have HBD := Lib.hid (HBX.out.trans ((below_dr wc).mono HBX.out.size))
       have HKD := Lib.hid (HBK.out.below (below_dr wc) HBK.out.lt)
       generalize wc.drew = wd at HBD HKD ⊢
       have hA0 : CV wd (w.heap.size + 1) y ∧ wd.cell? (ud.add k) = some (.int .i64 v) := ⟨(HAW.out wd HBD.out).2.1, (HAW.out wd HBD.out).2.2.2⟩
       (refine uA 0 ?_ rfl hA0 hB0 (fun W hA => ?_) ?_; rotate_left; (· (obtain ⟨⟨a0, a1, a2, a3⟩, _⟩ := hA; go_simp; try with_reducible rfl)); (try simp only [Act.put, List.setIfInBounds_toArray, List.set_cons_zero, List.set_cons_succ]))
       (refine uA 1 ?_ rfl hA0 hB0 (fun W hA => ?_) ?_; rotate_left; (· (obtain ⟨⟨a0, a1, a2, a3⟩, _⟩ := hA; go_simp; try with_reducible rfl)); (try simp only [Act.put, List.setIfInBounds_toArray, List.set_cons_zero, List.set_cons_succ]))
       (refine uA 2 ?_ rfl hA0 hB0 (fun W hA => ?_) ?_; rotate_left; (· (go_simp; try with_reducible rfl)); refine uA 3 ?_ rfl hA0 hB0 (fun W hA => ?_) ?_; rotate_left; (· (go_simp; try with_reducible rfl)); refine uA 4 ?_ rfl hA0 hB0 (fun W hA => ?_) ?_; rotate_left; (· (go_simp; try with_reducible rfl)); (try simp only [Act.put, List.setIfInBounds_toArray, List.set_cons_zero, List.set_cons_succ]))
       (refine uA 5 ?_ rfl hA0 hB0 (fun W hA => ?_) ?_; rotate_left; (· (obtain ⟨_, a0⟩ := hA; go_simp; try with_reducible rfl)); (try simp only [Act.put, List.setIfInBounds_toArray, List.set_cons_zero, List.set_cons_succ]))
       refine uOne (i := 6) rfl (by kernel_rfl) (fun K hK => ?_)
       go_simp
       go_at_call 23
       refine (HHS.out wd HBD.out).mono ?_
       rintro e we ⟨rfl, rfl⟩
       (refine hK _ _ ⟨hA0, fun _ => hB0⟩ ?_; clear hK K; (try simp only [Act.put, List.setIfInBounds_toArray, List.set_cons_zero, List.set_cons_succ]))
       refine anyU_done (by kernel_rfl) ?_ _
       clear hA0 hB0 d0
       go_upto_if 94 with fail
       go_cut [20] from 62 to 130 (fun s20 wx => s20 = .pointer (some ⟨bb, 0, none⟩) ∧ Hid (Blk wx bb 97 [.int .i64 t0, .int .i64 (if r = true then t1 else a2)]) ∧ Hid (Below wr.heap.size wr wx))
       case first =>
        cases r with
        | false =>
         have HK9 := Lib.hid (show Blk wd bb 97 [.int .i64 t0, .int .i64 (if false = true then t1 else a2)] from HKD.out)
         go_wp2_with fail
         go_meet
         case rel => exact ⟨rfl, HK9, HBD⟩
        | true =>
         go_upto_region 15 with fail
         refine wp_region_U (fun W => CV W w.heap.size x ∧ CV W (w.heap.size + 1) y ∧ (W.cell? (ad.add (i * 2)) = some (.int .i64 a1) ∧ W.cell? ⟨(ad.add (i * 2)).block, (ad.add (i * 2)).off + 1, none⟩ = some (.int .i64 a2)) ∧ W.cell? (ud.add k) = some (.int .i64 v)) (fun _ => True) 10 (by kernel_rfl) ?_
         change anyU _ _ _ _ _ _ _ 13 _ _ _
         have hB0 : True := trivial
         have HBE := Lib.hid (HBD.out.trans ((below_dr wd).mono HBD.out.size))
         have HKE := Lib.hid (HKD.out.below (below_dr wd) HKD.out.lt)
         generalize wd.drew = we at HBE HKE ⊢
         have hA0 := HAW.out we HBE.out
         (refine uA 0 ?_ rfl hA0 hB0 (fun W hA => ?_) ?_; rotate_left; (· (obtain ⟨_, ⟨a0, a1, a2, a3⟩, _⟩ := hA; go_simp; try with_reducible rfl)); (try simp only [Act.put, List.setIfInBounds_toArray, List.set_cons_zero, List.set_cons_succ]))
         (refine uA 1 ?_ rfl hA0 hB0 (fun W hA => ?_) ?_; rotate_left; (· (go_simp; try with_reducible rfl)); refine uA 2 ?_ rfl hA0 hB0 (fun W hA => ?_) ?_; rotate_left; (· (go_simp; try with_reducible rfl)); refine uA 3 ?_ rfl hA0 hB0 (fun W hA => ?_) ?_; rotate_left; (· (go_simp; try with_reducible rfl)); refine uA 4 ?_ rfl hA0 hB0 (fun W hA => ?_) ?_; rotate_left; (· (go_simp; try with_reducible rfl)); (try simp only [Act.put, List.setIfInBounds_toArray, List.set_cons_zero, List.set_cons_succ]))
         (refine uA 5 ?_ rfl hA0 hB0 (fun W hA => ?_) ?_; rotate_left; (· (obtain ⟨_, _, ⟨_, a0⟩, _⟩ := hA; go_simp; try with_reducible rfl)); (try simp only [Act.put, List.setIfInBounds_toArray, List.set_cons_zero, List.set_cons_succ]))
         (refine uA 6 ?_ rfl hA0 hB0 (fun W hA => ?_) ?_; rotate_left; (· (go_simp; try with_reducible rfl)); refine uA 7 ?_ rfl hA0 hB0 (fun W hA => ?_) ?_; rotate_left; (· (go_simp; try with_reducible rfl)); refine uA 8 ?_ rfl hA0 hB0 (fun W hA => ?_) ?_; rotate_left; (· (go_simp; try with_reducible rfl)); (try simp only [Act.put, List.setIfInBounds_toArray, List.set_cons_zero, List.set_cons_succ]))
         (refine uA 9 ?_ rfl hA0 hB0 (fun W hA => ?_) ?_; rotate_left; (· (obtain ⟨_, _, _, a0⟩ := hA; go_simp; try with_reducible rfl)); (try simp only [Act.put, List.setIfInBounds_toArray, List.set_cons_zero, List.set_cons_succ]))
         refine uOne (i := 10) rfl (by kernel_rfl) (fun K hK => ?_)
         go_simp
         go_at_call 66
         refine (HNY.out we HBE.out).mono ?_
         rintro e wg ⟨rfl, hbg⟩
         have HBG := Lib.hid (HBE.out.trans (hbg.mono HBE.out.size))
         have HKG := Lib.hid (HKE.out.below hbg HKE.out.lt)
         replace hA0 := HAW.out wg HBG.out
         rw [HT1.out]
         clear hbg
         (refine hK _ _ ⟨hA0, fun _ => hB0⟩ ?_; clear hK K; (try simp only [Act.put, List.setIfInBounds_toArray, List.set_cons_zero, List.set_cons_succ]))
         (refine uA 11 ?_ rfl hA0 hB0 (fun W hA => ?_) ?_; rotate_left; (· (go_simp; try with_reducible rfl)); (try simp only [Act.put, List.setIfInBounds_toArray, List.set_cons_zero, List.set_cons_succ]))
         refine uOne (i := 12) rfl (by kernel_rfl) (fun K hK => ?_)
         have f1 := HKG.out.free 1
         have e1 := HKG.out.cell (j := 1) rfl
         have l9 := HKG.out.lt
         have HV2 := Lib.hid (show Blk (wg.setCell ⟨bb, 1, none⟩ (.int .i64 t1)) bb 97 [.int .i64 t0, .int .i64 (if true = true then t1 else a2)] from HKG.out.set (j := 1) (by simp) (.int .i64 t1))
         have HF2 := Lib.hid (HBG.out.setCell (p := ⟨bb, 1, none⟩) hbb (.int .i64 t1))
         have hAf := HAW.out _ HF2.out
         go_simp
         (refine hK _ _ ⟨hAf, fun _ => hB0⟩ ?_; clear hK K; (try simp only [Act.put, List.setIfInBounds_toArray, List.set_cons_zero, List.set_cons_succ]))
         refine anyU_done (by kernel_rfl) ?_ _
         clear hAf f1 e1 l9 hA0
         go_wp2_with fail
         go_meet
         case rel => exact ⟨rfl, HV2, HF2⟩
       case rest =>
        clear HBD HKD HBK HBX HOC HBC hbc
        obtain ⟨rfl, HBK, HBX⟩ := hcut
        obtain ⟨t2, ht2⟩ : ∃ t, (if r = true then t1 else a2) = t := ⟨_, rfl⟩
        rw [ht2] at HBK
        have HOC := Lib.hid (own_below HOW.out HBX.out)
        have HBC := Lib.hid (HBL.out.trans (HBX.out.mono (by omega)))
        have hbc : wf.heap.size < wc.heap.size := by have := HBX.out.size; omega
        have d1 := HBK.out.cell (j := 1) rfl
        have hsz := HBX.out.size
        by_cases ht : t2 < 0
        ·have HBT := Lib.hid (show b = true from by
          have hr : r = true := by
           cases r with
           | true => rfl
           | false => have := HA2.out; simp at ht2; omega
          subst hr
          refine HBB.out.2 (HBI.out.bad HZ.out HV.out (by rw [HT0.out]; exact h0t) HRR.out ?_)
          rw [HT1.out]
          simp at ht2
          omega)
         go_wp2
         go_ret
         exact ⟨ret_bool HBT.out.symm, HB3.out.trans (HBC.out.mono hww)⟩
        ·have HOK := Lib.hid (show ¬ (hasB y.a.al v = true ∧ nxt y.a a2 v < 0) from by
          rw [HRR.out, HT1.out]
          rintro ⟨h1, h2⟩
          subst h1
          simp at ht2
          omega)
         have HTO := Lib.hid (show ((t0, t2) : Int × Int) = (nxt x.a a1 v, if hasB y.a.al v = true then nxt y.a a2 v else a2) from by rw [HT0.out, HRR.out, HT1.out, ht2])
         have HTR := Lib.hid (show (0 ≤ t0 ∧ t0 < 5) ∧ (0 ≤ t2 ∧ t2 < 5) from by
          refine ⟨⟨h0t, HT5.out h0t⟩, by omega, ?_⟩
          have h1 := HA2.out
          have h2 := HR5'.out
          cases r with
          | true => simp at ht2; omega
          | false => simp at ht2; omega)
         clear ht2
         go_wp2
         go_loopw [21, 22] (fun s21 s22 wr => ∃ j : Nat, s21 = .bool (decide ((t0, t2) ∈ l.take j)) ∧ s22 = .int .i64 j ∧ j ≤ n ∧ Hid (Below wc.heap.size wc wr)) (fun _ s22 _ => n - (intOf s22).toNat)
         case atStart => exact ⟨0, by simp, rfl, Nat.zero_le _, Lib.hid (Below.refl _ _)⟩
         case round =>
          obtain ⟨j, rfl, rfl, hj, HBY⟩ := hrel
          by_cases hjt : j < n
          ·have b4 : (j : Int) < (n : Int) := by omega
           obtain ⟨ad2, zz, hA2, hab2, hz2, hcc2⟩ := RdR.get (RdR.of_own (f := pc) (by omega) (fun _ _ => rfl) (own_below HOC.out HBY.out)) (k := j) (by rw [HLN.out]; exact hjt)
           obtain rfl : ad = ad2 := by injection hA2
           obtain ⟨c1, c2⟩ := zz
           have q1 : wr.cell? (ad.add (j * 2)) = some (.int .i64 c1) := hcc2 0 _ rfl
           have q2 : wr.cell? (ad.add (j * 2 + 1)) = some (.int .i64 c2) := hcc2 1 _ rfl
           have HKY := HBK.out.below HBY.out HBK.out.lt
           have hbd := below_dr wr
           have HKD := HKY.below hbd HKY.lt
           have hA0 : (wr.drew.cell? (ad.add (j * 2)) = some (.int .i64 c1) ∧ wr.drew.cell? ⟨(ad.add (j * 2)).block, (ad.add (j * 2)).off + 1, none⟩ = some (.int .i64 c2)) ∧ wr.drew.cell? ⟨bb, 0, none⟩ = some (.int .i64 t0) ∧ wr.drew.cell? ⟨bb, 1, none⟩ = some (.int .i64 t2) :=
            ⟨⟨(hbd.cell (p := ad.add (j * 2)) (by rw [block_of_add]; exact hab2)).trans q1, st_cells (j := 0) ((hbd.cell (p := ad.add (j * 2 + 1)) (by rw [block_of_add]; exact hab2)).trans q2)⟩, HKD.cell (j := 0) rfl, HKD.cell (j := 1) rfl⟩
           have HBY2 := Lib.hid (HBY.out.trans (hbd.mono HBY.out.size))
           have HIN := Lib.hid (show decide ((t0, t2) ∈ l.take (j + 1)) = (decide ((t0, t2) ∈ l.take j) || (decide (c1 = t0) && decide (c2 = t2))) from by
            rw [take_snoc' hz2, Bool.eq_iff_iff]
            simp only [decide_eq_true_eq, Bool.or_eq_true, Bool.and_eq_true, List.mem_append, List.mem_singleton, Prod.mk.injEq]
            exact ⟨fun h => h.imp id (fun h => ⟨h.1.symm, h.2.symm⟩), fun h => h.imp id (fun h => ⟨h.1.symm, h.2.symm⟩)⟩)
           have hB0 : True := trivial
           clear q1 q2 hbd HKY HKD hcc2 hab2 hz2 hA2
           go_upto_region 22 with fail
           obtain ⟨qq, hqq⟩ : ∃ q, decide ((t0, t2) ∈ l.take j) = q := ⟨_, rfl⟩
           rw [hqq] at HIN ⊢
           clear hqq
           refine wp_region_U (fun W => (W.cell? (ad.add (j * 2)) = some (.int .i64 c1) ∧ W.cell? ⟨(ad.add (j * 2)).block, (ad.add (j * 2)).off + 1, none⟩ = some (.int .i64 c2)) ∧ W.cell? ⟨bb, 0, none⟩ = some (.int .i64 t0) ∧ W.cell? ⟨bb, 1, none⟩ = some (.int .i64 t2)) (fun _ => True) 9 (by kernel_rfl) ?_
           change anyU _ _ _ _ _ _ _ 10 _ _ _
           generalize wr.drew = wz at hA0 HBY2 ⊢
           cases qq with
           | true =>
            (refine uA 0 ?_ rfl hA0 hB0 (fun W hA => ?_) ?_; rotate_left; (· (go_simp; try with_reducible rfl)); refine uA 1 ?_ rfl hA0 hB0 (fun W hA => ?_) ?_; rotate_left; (· (go_simp; try with_reducible rfl)); (try simp only [Act.put, List.setIfInBounds_toArray, List.set_cons_zero, List.set_cons_succ]))
            (refine uS 2 rfl hA0 hB0 ?_; refine uS 3 rfl hA0 hB0 ?_; refine uS 4 rfl hA0 hB0 ?_; (try simp only [Act.put, List.setIfInBounds_toArray, List.set_cons_zero, List.set_cons_succ]))
            (refine uS 5 rfl hA0 hB0 ?_; refine uS 6 rfl hA0 hB0 ?_; refine uS 7 rfl hA0 hB0 ?_; (try simp only [Act.put, List.setIfInBounds_toArray, List.set_cons_zero, List.set_cons_succ]))
            (refine uA 8 ?_ rfl hA0 hB0 (fun W hA => ?_) ?_; rotate_left; (· (go_simp; try with_reducible rfl)); (try simp only [Act.put, List.setIfInBounds_toArray, List.set_cons_zero, List.set_cons_succ]))
            refine uOne (i := 9) rfl (by kernel_rfl) (fun K hK => ?_)
            go_simp
            (refine hK _ _ ⟨hA0, fun _ => hB0⟩ ?_; clear hK K; (try simp only [Act.put, List.setIfInBounds_toArray, List.set_cons_zero, List.set_cons_succ]))
            refine anyU_done (by kernel_rfl) ?_ _
            clear hA0 hB0
            go_wp2
            go_roundw
            case rel => exact ⟨j + 1, by rw [HIN.out]; rfl, by go_num, by omega, HBY2⟩
            case measure => simp [intOf]; omega
           | false =>
            (refine uA 0 ?_ rfl hA0 hB0 (fun W hA => ?_) ?_; rotate_left; (· (go_simp; try with_reducible rfl)); refine uA 1 ?_ rfl hA0 hB0 (fun W hA => ?_) ?_; rotate_left; (· (go_simp; try with_reducible rfl)); (try simp only [Act.put, List.setIfInBounds_toArray, List.set_cons_zero, List.set_cons_succ]))
            (refine uA 2 ?_ rfl hA0 hB0 (fun W hA => ?_) ?_; rotate_left; (· (go_simp; try with_reducible rfl)); refine uA 3 ?_ rfl hA0 hB0 (fun W hA => ?_) ?_; rotate_left; (· (go_simp; try with_reducible rfl)); refine uA 4 ?_ rfl hA0 hB0 (fun W hA => ?_) ?_; rotate_left; (· (go_simp; try with_reducible rfl)); (try simp only [Act.put, List.setIfInBounds_toArray, List.set_cons_zero, List.set_cons_succ]))
            (refine uA 5 ?_ rfl hA0 hB0 (fun W hA => ?_) ?_; rotate_left; (· (obtain ⟨⟨a0, a1⟩, _⟩ := hA; go_simp; try with_reducible rfl)); (try simp only [Act.put, List.setIfInBounds_toArray, List.set_cons_zero, List.set_cons_succ]))
            (refine uA 6 ?_ rfl hA0 hB0 (fun W hA => ?_) ?_; rotate_left; (· (obtain ⟨_, a0, a1⟩ := hA; go_simp; try with_reducible rfl)); (try simp only [Act.put, List.setIfInBounds_toArray, List.set_cons_zero, List.set_cons_succ]))
            have hpe := fun W => pair_eql W c1 c2 t0 t2
            (refine uA 7 ?_ rfl hA0 hB0 (fun W hA => ?_) ?_; rotate_left; (· (go_simp; try with_reducible rfl)); (try simp only [Act.put, List.setIfInBounds_toArray, List.set_cons_zero, List.set_cons_succ]))
            (refine uA 8 ?_ rfl hA0 hB0 (fun W hA => ?_) ?_; rotate_left; (· (go_simp; try with_reducible rfl)); (try simp only [Act.put, List.setIfInBounds_toArray, List.set_cons_zero, List.set_cons_succ]))
            refine uOne (i := 9) rfl (by kernel_rfl) (fun K hK => ?_)
            go_simp
            (refine hK _ _ ⟨hA0, fun _ => hB0⟩ ?_; clear hK K; (try simp only [Act.put, List.setIfInBounds_toArray, List.set_cons_zero, List.set_cons_succ]))
            refine anyU_done (by kernel_rfl) ?_ _
            clear hA0 hB0
            go_wp2
            go_roundw
            case rel => exact ⟨j + 1, by rw [HIN.out]; rfl, by go_num, by omega, HBY2⟩
            case measure => simp [intOf]; omega
          ·obtain rfl : j = n := by omega
           have b4 : ¬ (j : Int) < (j : Int) := by omega
           have HTK := Lib.hid (show l.take j = l from List.take_of_length_le (by rw [HLN.out]; exact Nat.le_refl _))
           rw [HTK.out]
           have HBZ := Lib.hid (HBC.out.trans (HBY.out.mono (by omega)))
           have hbz : wf.heap.size < wr.heap.size := by have := HBY.out.size; omega
           have HOZ := Lib.hid (own_below HOC.out HBY.out)
           have e0 := (HBK.out.below HBY.out HBK.out.lt).cell (j := 0) rfl
           have e1 := (HBK.out.below HBY.out HBK.out.lt).cell (j := 1) rfl
           by_cases hin : ((t0, t2) : Int × Int) ∈ l
           ·have HSK := Lib.hid (HBI.out.skip HZ.out HV.out (fun _ => ⟨HOK.out, by rw [← HTO.out]; exact hin⟩))
            rw [decide_eq_true hin]
            go_wp2
            go_roundw
            case rel => exact ⟨k + 1, j, _, _, l, _, _, _, rfl, by go_num, rfl, rfl, rfl, hlt, hn25, by omega, HLN, HOZ, HSK, HBZ, hbz⟩
            case measure => simp [intOf]; omega
           ·have HPU := Lib.hid (HBI.out.push HZ.out HV.out (by rw [HT0.out]; exact h0t) HOK.out HTO.out hin HTR.out)
            have h26 : j + 1 ≤ 25 := by have := HPU.out.len; rw [List.length_append, HLN.out] at this; exact this
            rw [decide_eq_false hin]
            have hbase : wf.heap.size ≤ wr.heap.size := by omega
            go_wp2_with (first
             | (at_builtin; refine wpList_pushA wr [.int .i64 t0, .int .i64 t2] rfl (.tmp 127) (.tmp 129) 96 rfl wf.heap.size 97 (.agg #[.int .i64 0, .int .i64 0]) 2 16 Tryd.underlying96 pair_info rfl (by decide) rfl (.slice (some ad) j c) j _ rfl HOZ.out rfl (fun q hq => by simp at hq; rcases hq with rfl | rfl <;> rfl) (by omega) (by omega) hbase ?_; intro A8 c8 w8 ho8 hg8 hl8; have HO8 := Lib.hid (show w8.ownsRow wf.heap.size 97 2 (.slice A8 (j + 1) c8) (j + 1) ((l ++ [(t0, t2)]).flatMap pc) from by simpa [pc] using ho8); have HB8 := Lib.hid (HBZ.out.grown hg8 hbase (fun q hq => (HOZ.out.lt q hq).1)); have hs8 : wf.heap.size < w8.heap.size := (by have := hg8.size; omega); clear ho8 hg8 hl8)
             | fail)
            go_roundw
            case rel => exact ⟨k + 1, j + 1, _, _, l ++ [(t0, t2)], _, _, _, rfl, by go_num, rfl, rfl, rfl, by omega, h26, by omega, Lib.hid (by simp [HLN.out]), HO8, HPU, HB8, hs8⟩
            case measure => simp [intOf]; omega
    ·have b3 : ¬ (k : Int) < (nu : Int) := by omega
     go_wp2
     go_roundw
     case rel => exact ⟨i + 1, n, _, _, l, _, _, _, _, rfl, by go_num, rfl, rfl, rfl, rfl, by omega, hn25, HLN, HOW, Lib.hid (HBI.out.next (by rw [HU.out.len]; omega)), HBL, hbs⟩
     case measure => simp [intOf]; omega
  ·have b1 : ¬ (i : Int) < (n0 : Int) := by omega
   have HBF := Lib.hid (show b = false by
    cases b with
    | false => rfl
    | true => exact absurd (HBB.out.1 rfl) (HBI.out.fin (by rw [HLN.out]; exact hlt)))
   go_wp2
   go_ret
   exact ⟨ret_bool HBF.out.symm, HB3.out.trans (HBL.out.mono hww)⟩
end Go.Proofs.YtcchnibgehonoaaDoor
