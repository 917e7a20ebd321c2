/- Walks: alphabet.chosen, alphabet.Select: a map of functions. -/
import Derived.Test.YtddhaidimadliaaJc
import Derived.Maps.Own
import Derived.Maps.OwnOps
import Derived.Maps.OwnSet
namespace Go.Proofs.Ytddhaidimadliaa
open Go.RowKit Go Go.Maps

/-- how a function without captures reads -/
def fnR : Value → Option (DataW Unit × List MemPlace)
 | .func (.func f) ⟨[]⟩ ⟨[]⟩ => some (.lit (.int .i64 f), [])
 | _ => some (.agg [], [])
theorem fnR_inv {v : Value} {f : Nat} {ps : List MemPlace} (h : fnR v = some (.lit (.int .i64 (f : Int)), ps)) : v = .func (.func f) #[] #[] := by
 unfold fnR at h
 split at h
 case h_1 g =>
  have h1 : (DataW.lit (.int .i64 (g : Int)) : DataW Unit) = .lit (.int .i64 (f : Int)) := congrArg (fun o => (o.map Prod.fst).getD (.agg [])) h
  have h2 : Lit.int .i64 (g : Int) = Lit.int .i64 (f : Int) := DataW.lit.inj h1
  have h3 : (g : Int) = (f : Int) := (Lit.int.inj h2).2
  have : g = f := Int.ofNat.inj h3
  rw [this]
 case h_2 =>
  injection h with h
  injection h with h1 _
  cases h1
theorem wpList_insert_fn {b n : Nat} {D : DataW Unit} {w : World} {ops : Array Oper} {rest : List Oper} {o : Oper} {a : Act} {Q : Exit → Act → World → Prop} (hg : o.guard = none) (m x v : Operand)
  (hop : o.op = Op.insert 166 m x v) (hm : a.eval m = .map (some b)) (hown : w.ownsMap Try.prog 3 fnR b n D) (hn : n < 100) (k : Int) (f : Nat) (hx : a.eval x = .int .i64 k) (hv : a.eval v = .func (.func f) #[] #[]) (hk : (Lit.int .i64 k).wf = true)
  (hK : ∀ w', w'.ownsMap Try.prog 3 fnR b (n + 1) (D.put (.int .i64 k) (.lit (.int .i64 (f : Int)))) → w.grownBy w' (some b) → wpList Try.prog ops Q rest (a.put o.dst undef) w') : wpList Try.prog ops Q (o :: rest) a w := by
 refine wpList_plain hg fun K' hK' => ?_
 obtain ⟨w', hrun, r1, r2⟩ := hown.update (int_keyed Try.underlying3) Try.underlying166 (by unfold maxLen; omega) (keyOf_int_mk Try.underlying3 hk) (show fnR (.func (.func f) #[] #[]) = some (.lit (.int .i64 (f : Int)), []) from rfl)
 unfold Oper.wp
 simp [execOp, hop, hm, hx, hv, hrun, Result.andThen]
 exact hK' _ _ (hK w' r1 r2)
/-- a choice of events that a function makes -/
def chsL (p : Ev → Bool) (l : List Ev) (k : Nat) : List Int := (rngI (k : Int)).filter fun i => match l[i.toNat]? with | some e => p e | none => false
theorem chsL_snoc {p : Ev → Bool} {l : List Ev} {k : Nat} {e : Ev} (h : l[k]? = some e) : chsL p l (k + 1) = chsL p l k ++ (if p e = true then [(k : Int)] else []) := by
 unfold chsL
 rw [rngI_snoc, List.filter_append]
 congr 1
 by_cases hp : p e = true
 ·rw [if_pos hp]; simp [h, hp]
 ·rw [if_neg hp]; simp [h, hp]
set_option maxRecDepth 100000 in
set_option maxHeartbeats 1600000 in
theorem alphabet_chosen (A : Option Addr) (c n : Nat) (l : List Ev) (fp : Nat) (p : Ev → Bool) (w : World) (hl : l.length = n) (h : RdE w w.heap.size A l) (hn : n ≤ 1000000)
  (eg : ∀ args W, (callFunc fp args).run Try.prog W = .ok (.enter fp args) W)
  (hp : ∀ (e : Ev) W, Calls Try.prog fp #[.agg #[.string e.nm, .bool e.c, .bool e.o, .bool e.f, .int .i64 e.fault]] W fun r W' => r = .returned (.bool (p e)) ∧ Below W.heap.size W W') :
  Calls Try.prog 100 #[.slice A n c, .func (.func fp) #[] #[]] w (RetO 3 (chsL p l n) w) := by
 have HL := Lib.hid hl; clear hl
 have HP := Lib.hid hp; clear hp
 go_enter Try.func100, Try.ntmps100
 go_wp2
 go_loopw [5, 6, 7, 10] (fun s5 s6 s7 s10 wr => ∃ (k m : Nat) (v6 v7 : Value), s10 = .int .i64 k ∧ s6 = v6 ∧ s7 = v7 ∧ k ≤ n ∧ m ≤ k ∧ Hid ((chsL p l k).length = m) ∧ Hid (wr.ownsRow w.heap.size 3 1 s5 m (iv (chsL p l k))) ∧ Hid (Below w.heap.size w wr)) (fun _ _ _ s10 _ => n - (intOf s10).toNat)
 case atStart => exact ⟨0, 0, _, _, rfl, rfl, rfl, Nat.zero_le _, Nat.le_refl _, Lib.hid rfl, Lib.hid (World.ownsRow_nil _ _ _ _), Lib.hid (Below.refl _ _)⟩
 case round =>
  obtain ⟨k, m, v6, v7, rfl, rfl, rfl, hk, hmk, HM, HO, HB⟩ := hrel
  by_cases hlt : k < n
  ·obtain ⟨ad, e, rfl, hab, he, hs, q0, q1, q2, q3, q4⟩ := (h.below HB.out).at_ (k := k) (by have := HL.out; omega)
   have HS := Lib.hid (chsL_snoc (p := p) he)
   have b1 : (k : Int) < (n : Int) := by omega
   have p1 : wr.cell? ⟨(ad.add (k * 5)).block, (ad.add (k * 5)).off + 1, none⟩ = some (.bool e.c) := ev_cells (j := 0) q1
   have p2 : wr.cell? ⟨(ad.add (k * 5)).block, (ad.add (k * 5)).off + 2, none⟩ = some (.bool e.o) := ev_cells (j := 1) q2
   have p3 : wr.cell? ⟨(ad.add (k * 5)).block, (ad.add (k * 5)).off + 3, none⟩ = some (.bool e.f) := ev_cells (j := 2) q3
   have p4 : wr.cell? ⟨(ad.add (k * 5)).block, (ad.add (k * 5)).off + 4, none⟩ = some (.int .i64 e.fault) := ev_cells (j := 3) q4
   have hx := box_below wr (.cells #[.string e.nm, .bool e.c, .bool e.o, .bool e.f, .int .i64 e.fault] 67)
   have HB1 := Lib.hid (HB.out.trans (hx.mono HB.out.size))
   have HO1 := Lib.hid (own_below HO.out hx)
   obtain ⟨w1, hw1⟩ : ∃ w1, w1 = wr.alloc (.cells #[.string e.nm, .bool e.c, .bool e.o, .bool e.f, .int .i64 e.fault] 67) := ⟨_, rfl⟩
   rw [← hw1] at HB1 HO1
   have HC := Lib.hid (HP.out e w1)
   have HW1 := Lib.hid hw1; clear hw1
   obtain ⟨q, hq⟩ : ∃ q, p e = q := ⟨_, rfl⟩
   rw [hq] at HC HS
   clear q1 q2 q3 q4 he hx hq
   go_wp2_with fail
   rw [← HW1.out]
   refine HC.out.mono ?_
   rintro r w2 ⟨rfl, hb2⟩
   have HB2 := Lib.hid (HB1.out.trans (hb2.mono HB1.out.size))
   have HO2 := Lib.hid (own_below HO1.out hb2)
   have hsz := HB2.out.size
   clear q0 p1 p2 p3 p4 HC hb2 HW1
   cases q with
   | true =>
    have HS2 := Lib.hid (show chsL p l (k + 1) = chsL p l k ++ [(k : Int)] from HS.out)
    go_wp2_with (first | (at_builtin; refine wpList_push w2 (.int .i64 (k : Int)) rfl (.tmp 18) (.tmp 20) 31 rfl w.heap.size 3 (.int .i64 0) 8 Try.underlying31 int_info rfl _ m _ rfl HO2.out rfl rfl (by omega) (by omega) hsz ?_; intro v' w' ho' hg' hb1) | fail)
    go_roundw
    case rel => exact ⟨k + 1, m + 1, _, _, by go_num, rfl, rfl, by omega, by omega, Lib.hid (by rw [HS2.out, List.length_append, HM.out]; rfl), Lib.hid (by rw [HS2.out, iv_append]; exact ho'), Lib.hid (HB2.out.trans hb1)⟩
    case measure => simp [intOf]; omega
   | false =>
    have HS2 := Lib.hid (show chsL p l (k + 1) = chsL p l k from HS.out.trans (List.append_nil _))
    go_wp2
    go_roundw
    case rel => exact ⟨k + 1, m, _, _, by go_num, rfl, rfl, by omega, by omega, Lib.hid (by rw [HS2.out]; exact HM.out), Lib.hid (by rw [HS2.out]; exact HO2.out), HB2⟩
    case measure => simp [intOf]; omega
  ·obtain rfl : k = n := by omega
   have b1 : ¬ (k : Int) < (k : Int) := by omega
   go_wp2
   go_ret
   exact ⟨_, rfl, by rw [HM.out]; exact HO.out, HB.out⟩
theorem select3_ok (e : Ev) (w : World) : Calls Try.prog 96 #[.agg #[.string e.nm, .bool e.c, .bool e.o, .bool e.f, .int .i64 e.fault]] w fun r w' => r = .returned (.bool e.o) ∧ Below w.heap.size w w' := by
 have hb := box_below w (.cells #[.string e.nm, .bool e.c, .bool e.o, .bool e.f, .int .i64 e.fault] 67)
 go_enter Try.func96, Try.ntmps96
 go_wp2
 go_ret
 exact ⟨rfl, hb⟩
theorem select4_ok (e : Ev) (w : World) : Calls Try.prog 97 #[.agg #[.string e.nm, .bool e.c, .bool e.o, .bool e.f, .int .i64 e.fault]] w fun r w' => r = .returned (.bool (!e.o)) ∧ Below w.heap.size w w' := by
 have hb := box_below w (.cells #[.string e.nm, .bool e.c, .bool e.o, .bool e.f, .int .i64 e.fault] 67)
 go_enter Try.func97, Try.ntmps97
 go_wp2
 go_ret
 exact ⟨rfl, hb⟩
/-- the events that a kind selects -/
def selP (k : Int) (e : Ev) : Bool := if k = 3 then e.o else !e.o
set_option maxRecDepth 100000 in
set_option maxHeartbeats 1600000 in
theorem alphabet_Select (A : Option Addr) (c n : Nat) (l : List Ev) (k : Int) (w : World) (hl : l.length = n) (h : RdE w w.heap.size A l) (hk : k = 3 ∨ k = 4) (hc : chkE l = 0) (hn : n ≤ 32) :
  Calls Try.prog 59 #[.slice A n c, .int .i64 k] w (RetLE (chsL (selP k) l n) w) := by
 have HC := Lib.hid (alphabet_Check A c n l w hl h)
 rw [hc] at HC
 have hmm := @run_makeMap Try.prog
 have HL := Lib.hid hl; clear hl
 have HH := Lib.hid h; clear h
 clear hc
 go_enter Try.func59, Try.ntmps59
 go_wp2_with fail
 refine HC.out.mono ?_
 rintro e w2 ⟨rfl, hb2⟩
 have hx := box_below w2 (.map #[] 0)
 have hm0 := World.ownsMap_made w2 Try.prog 3 fnR
 have HB3 := Lib.hid (hb2.trans (hx.mono hb2.size))
 have hs2 := hb2.size
 clear HC hb2 hx
 go_wp2_with (first
  | (refine wpList_insert_fn rfl _ _ _ rfl rfl hm0 (by omega) _ _ rfl rfl rfl ?_; intro w3 hm1 hg1; clear hm0)
  | (refine wpList_insert_fn rfl _ _ _ rfl rfl hm1 (by omega) _ _ rfl rfl rfl ?_; intro w4 hm2 hg2; clear hm1)
  | (refine wpList_insert_fn rfl _ _ _ rfl rfl hm2 (by omega) _ _ rfl rfl rfl ?_; intro w5 hm3 hg3; clear hm2)
  | (refine wpList_insert_fn rfl _ _ _ rfl rfl hm3 (by omega) _ _ rfl rfl rfl ?_; intro w6 hm4 hg4; clear hm3)
  | (refine wpList_insert_fn rfl _ _ _ rfl rfl hm4 (by omega) _ _ rfl rfl rfl ?_; intro w7 hm5 hg5; clear hm4)
  | (refine wpList_insert_fn rfl _ _ _ rfl rfl hm5 (by omega) _ _ rfl rfl rfl ?_; intro w8 hm6 hg6; clear hm5)
  | fail)
 obtain ⟨z, hz⟩ : ∃ z, (zeroValue 147).run Try.prog w8 = .ok z w8 := ⟨_, rfl⟩
 obtain ⟨⟨zd, zp⟩, hzd⟩ : ∃ y, fnR z = some y := by
  unfold fnR
  split <;> exact ⟨_, rfl⟩
 have hgg := ((((hg1.trans hg2).trans hg3).trans hg4).trans hg5).trans hg6
 have HB8 := Lib.hid (HB3.out.grown hgg HB3.out.size (fun j e => by injection e with e; omega))
 clear hg1 hg2 hg3 hg4 hg5 hg6 hgg hs2
 rcases hk with rfl | rfl
 ·obtain ⟨v, ps, hrun, hv⟩ := hm6.look_ok (int_keyed Try.underlying3) Try.underlying166 hz hzd (keyOf_int_mk Try.underlying3 (show (Lit.int .i64 3).wf = true from rfl))
  have hv2 := fnR_inv (f := 96) hv
  subst hv2
  have hrun2 : (Instr.lookup 166 (.map (some w2.heap.size)) (.int .i64 3) true).run Try.prog w8 = .ok (.tuple #[.func (.func 96) #[] #[], .bool true]) w8 := hrun
  have HCH := Lib.hid (alphabet_chosen A c n l 96 (selP 3) w8 HL.out ((HH.out.below HB8.out).more HB8.out.size) (by omega) (fun _ _ => rfl) (fun e W => select3_ok e W))
  clear hrun hv hz hzd hm6
  rw [hrun2]
  go_wp2_with fail
  refine HCH.out.mono ?_
  rintro e w9 ⟨v9, rfl, ho9, hb9⟩
  have HF := Lib.hid (And.intro (own_base ho9 HB8.out.size) (HB8.out.trans (hb9.mono HB8.out.size)))
  clear HCH hrun2 ho9 hb9
  go_wp2
  refine bodyPost_ret (v := .tuple #[v9, .int .i64 0]) (by simp [results, Try.results59, go_sem]) rfl ?_
  exact ⟨_, rfl, HF.out.1, HF.out.2⟩
 ·obtain ⟨v, ps, hrun, hv⟩ := hm6.look_ok (int_keyed Try.underlying3) Try.underlying166 hz hzd (keyOf_int_mk Try.underlying3 (show (Lit.int .i64 4).wf = true from rfl))
  have hv2 := fnR_inv (f := 97) hv
  subst hv2
  have hrun2 : (Instr.lookup 166 (.map (some w2.heap.size)) (.int .i64 4) true).run Try.prog w8 = .ok (.tuple #[.func (.func 97) #[] #[], .bool true]) w8 := hrun
  have HCH := Lib.hid (alphabet_chosen A c n l 97 (selP 4) w8 HL.out ((HH.out.below HB8.out).more HB8.out.size) (by omega) (fun _ _ => rfl) (fun e W => select4_ok e W))
  clear hrun hv hz hzd hm6
  rw [hrun2]
  go_wp2_with fail
  refine HCH.out.mono ?_
  rintro e w9 ⟨v9, rfl, ho9, hb9⟩
  have HF := Lib.hid (And.intro (own_base ho9 HB8.out.size) (HB8.out.trans (hb9.mono HB8.out.size)))
  clear HCH hrun2 ho9 hb9
  go_wp2
  refine bodyPost_ret (v := .tuple #[v9, .int .i64 0]) (by simp [results, Try.results59, go_sem]) rfl ?_
  exact ⟨_, rfl, HF.out.1, HF.out.2⟩
end Go.Proofs.Ytddhaidimadliaa
