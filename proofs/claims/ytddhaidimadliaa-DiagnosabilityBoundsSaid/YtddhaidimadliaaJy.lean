/- Words on sketched models; slices.Clone at events. -/
import Derived.Test.YtddhaidimadliaaJx
namespace Go.Proofs.Ytddhaidimadliaa
open Go.RowKit Go

theorem ob_at {z : DV} {i : Nat} {e : Ev} (h : z.l[i]? = some e) : z.m.ob (i : Int) = e.o := by
 unfold Dm.ob DV.m fl
 simp [h]
theorem ft_at {z : DV} {i : Nat} {e : Ev} (h : z.l[i]? = some e) : z.m.ft (i : Int) = e.fault := by
 unfold Dm.ft DV.m gI
 simp [h]
theorem kndL_hid {z : DV} (h : z.l.length = z.nv) : kndL z 4 = hidL z.m z.nv := by
 unfold kndL chsL hidL
 refine List.filter_congr fun i hi => ?_
 have hr := rngI_mem.1 hi
 obtain ⟨k, rfl⟩ : ∃ k : Nat, i = (k : Int) := ⟨i.toNat, by omega⟩
 have hk : z.l[k]? = some z.l[k] := List.getElem?_eq_getElem (by omega)
 rw [Int.toNat_natCast, hk, ob_at hk]
 rfl
theorem clsE_zero {z : DV} {c : Int} (h : dmE z = 0) (h1 : 1 ≤ c) (h2 : c ≤ 4) : clsE z c = 0 := by
 unfold clsE
 rw [if_neg (by rw [h]; simp), if_neg (by omega)]
theorem stlE_iff {z : DV} {c : Int} (h : clsE z c = 0) : stlE z c = if (liveR z.x.a).2 = true ∧ (cycF z.x.a (kndL z 4)).2 = false then 0 else 25 := by
 unfold stlE
 rw [if_neg (by rw [h]; simp)]
theorem stlE_or {z : DV} {c : Int} (h : clsE z c = 0) : stlE z c = 0 ∨ stlE z c = 25 := by
 rw [stlE_iff h]; split
 ·exact .inl rfl
 ·exact .inr rfl
theorem quiet_of {z : DV} (hd : dmE z = 0) (hl : z.l.length = z.nv) : (cycF z.x.a (kndL z 4)).2 = true ↔ 0 < z.x.a.st ∧ QuiE z.m := by
 have hw : WF z.m.a := dmE_wf hd
 have h32 : z.nv ≤ 32 := by rw [← hl]; exact chkE_len (dmE_ev hd)
 rw [kndL_hid hl]
 exact quiet_iff hw (fun x hx => (dmE_al hd x hx).2) h32
theorem chkE_ok {l : List Ev} (h : chkE l = 0) : ∀ e ∈ l, e.fault ≠ 0 → e.o = false := by
 have key : ∀ (l : List Ev) (pre : List ByteArray), chkG pre l = 0 → ∀ e ∈ l, e.fault ≠ 0 → e.o = false := by
  intro l
  induction l with
  | nil => intro _ _ e he; cases he
  | cons y l ih =>
   intro pre hc e he hf
   rw [chkG] at hc
   by_cases h1 : evErr pre y ≠ 0
   ·rw [if_pos h1] at hc; exact absurd hc h1
   ·rw [if_neg h1] at hc
    rcases List.mem_cons.1 he with rfl | he
    ·have h2 : evErr pre e = 0 := Classical.not_not.1 h1
     unfold evErr at h2
     split at h2
     ·cases h2
     split at h2
     ·cases h2
     split at h2
     ·cases h2
     split at h2
     ·cases h2
     ·rename_i h3
      cases ho : e.o with
      | false => rfl
      | true => exact absurd ⟨hf, .inr ho⟩ h3
    ·exact ih _ hc e he hf
 unfold chkE at h
 split at h
 ·cases h
 ·exact key l [] h
theorem DV.dmw {z : DV} (hd : dmE z = 0) {c : Int} (hc : 1 ≤ c) : DmW z.m c := by
 refine ⟨dmE_wf hd, hc, fun x hx => ?_⟩
 have h1 : ∀ e, z.l[x.toNat]? = some e → z.m.ob x = e.o ∧ z.m.ft x = e.fault := fun e h => by
  unfold Dm.ob Dm.ft DV.m fl gI
  simp [h]
 cases hk : z.l[x.toNat]? with
 | none =>
  unfold Dm.ft DV.m gI
  simp [hk]
 | some e =>
  rw [(h1 e hk).1] at hx
  rw [(h1 e hk).2]
  refine Classical.byContradiction fun hf => ?_
  rw [chkE_ok (dmE_ev hd) e (List.mem_of_getElem? hk) hf] at hx
  cases hx
/-- with a further event observable -/
def obsL (l : List Ev) (k : Nat) : List Ev := match l[k]? with
 | some e => l.set k ⟨e.nm, e.c, true, e.f, e.fault⟩
 | none => l
theorem obsL_len (l : List Ev) (k : Nat) : (obsL l k).length = l.length := by unfold obsL; split <;> simp
theorem obsL_at {l : List Ev} {k : Nat} {e : Ev} (h : l[k]? = some e) (j : Nat) : (obsL l k)[j]? = if j = k then some ⟨e.nm, e.c, true, e.f, e.fault⟩ else l[j]? := by
 unfold obsL
 rw [h]
 have hk := (List.getElem?_eq_some_iff.1 h).1
 dsimp only
 by_cases hj : j = k
 ·subst hj; rw [if_pos rfl, List.getElem?_set_self hk]
 ·rw [if_neg hj, List.getElem?_set_ne (Ne.symm hj)]
theorem obsL_chk {l : List Ev} {k : Nat} {e : Ev} (h : l[k]? = some e) (hf : e.fault = 0) (hc : chkE l = 0) : chkE (obsL l k) = 0 := by
 have key : ∀ (l : List Ev) (k : Nat) (pre : List ByteArray), l[k]? = some e → chkG pre l = 0 → chkG pre (obsL l k) = 0 := by
  intro l
  induction l with
  | nil => intro k pre h _; simp at h
  | cons y l ih =>
   intro k pre h hc
   rw [chkG] at hc
   by_cases h1 : evErr pre y ≠ 0
   ·rw [if_pos h1] at hc; exact absurd hc h1
   rw [if_neg h1] at hc
   have h2 : evErr pre y = 0 := Classical.not_not.1 h1
   cases k with
   | zero =>
    have hy : y = e := by simpa using h
    subst hy
    have hob : obsL (y :: l) 0 = ⟨y.nm, y.c, true, y.f, y.fault⟩ :: l := by unfold obsL; rfl
    rw [hob, chkG]
    have h3 : evErr pre ⟨y.nm, y.c, true, y.f, y.fault⟩ = 0 := by
     unfold evErr at h2 ⊢
     dsimp only
     split at h2
     ·cases h2
     split at h2
     ·cases h2
     split at h2
     ·cases h2
     rename_i g1 g2 g3
     rw [if_neg g1, if_neg g2, if_neg g3, if_neg (fun g => g.1 hf)]
    rw [if_neg (by rw [h3]; simp)]
    exact hc
   | succ k =>
    have hk : l[k]? = some e := by simpa using h
    have hob : obsL (y :: l) (k + 1) = y :: obsL l k := by
     unfold obsL
     rw [List.getElem?_cons_succ, hk]; rfl
    rw [hob, chkG, if_neg h1]
    exact ih k _ hk hc
 unfold chkE at hc ⊢
 rw [obsL_len]
 split at hc
 ·cases hc
 ·rename_i g
  rw [if_neg g]
  exact key l k [] h hc
/-- the second model -/
structure ObsZ (z y : DV) (k : Nat) : Prop where
 a : y.x.a = z.x.a
 l : y.l = obsL z.l k
 n : y.nv = z.nv
theorem ObsZ.dm {z y : DV} {k : Nat} {e : Ev} (h : ObsZ z y k) (hk : z.l[k]? = some e) (hf : e.fault = 0) (hd : dmE z = 0) : dmE y = 0 := by
 have hw := dmE_wf hd
 have h3 := dmE_al hd
 unfold dmE
 rw [h.l, obsL_chk hk hf (dmE_ev hd), if_neg (by simp), h.a, hw.chk, if_neg (by simp), if_neg]
 rw [h.n, Bool.not_eq_true, List.any_eq_false]
 intro v hv
 have := (h3 v hv).2
 simp
 omega
theorem ObsZ.more {z y : DV} {k : Nat} {e : Ev} {c : Int} (h : ObsZ z y k) (hk : z.l[k]? = some e) (hf : e.fault = 0) (hd : dmE z = 0) (hc : 1 ≤ c) : DmM z.m y.m c := by
 have hat := obsL_at hk
 refine ⟨h.a, fun x => ?_, fun x hx => ?_, z.dmw hd hc, y.dmw (h.dm hk hf hd) hc⟩
 ·unfold Dm.ft DV.m gI
  rw [h.l]
  simp only [List.getD_eq_getElem?_getD, List.getElem?_map, hat]
  by_cases hj : x.toNat = k
  ·rw [if_pos hj, hj, hk]; rfl
  ·rw [if_neg hj]
 ·unfold Dm.ob DV.m fl at hx ⊢
  rw [h.l]
  simp only [List.getD_eq_getElem?_getD, List.getElem?_map, hat] at hx ⊢
  by_cases hj : x.toNat = k
  ·rw [if_pos hj]; rfl
  ·rw [if_neg hj]; exact hx
theorem diaS_all {m : Dm} {c : Int} {s : Bs TwS} (h : BInv 4096 (twS m c) (twV m) (0, false, 0) s.ts.length s) {p : List Int × Int} (hp : diaS s = some p) : RkAll s.es twW s.ts.length (twF s) p.1 ∧ p.2 = diaB s p.1 := by
 unfold diaS at hp
 split at hp
 ·rename_i g
  injection hp with hp
  subst hp
  exact ⟨(solS_spec (tw_grf h)).1 g, rfl⟩
 ·cases hp
theorem twin_any {m : Dm} (hw : WF m.a) (hs : m.a.st ≤ 40) (c : Int) : ∃ R, twin m c = some R ∧ EdR R.ts.length R.es := by
 by_cases h0 : m.a.st = 0
 ·exact ⟨⟨[], []⟩, by unfold twin; rw [if_pos h0], fun x hx => by cases hx⟩
 ·obtain ⟨R, h1, h2⟩ := twin_some (c := c) hw h0 hs
  exact ⟨R, h1, tw_edr h2⟩
end Go.Proofs.Ytddhaidimadliaa
