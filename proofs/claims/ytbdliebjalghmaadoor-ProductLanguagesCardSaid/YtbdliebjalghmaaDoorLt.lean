/- The law ProductLanguages: its walk. -/
import Derived.Test.YtbdliebjalghmaaDoorOe
import Derived.Test.YtbdliebjalghmaaDoorGf
import Derived.Test.YtbdliebjalghmaaDoorRe
import Derived.Test.YtbdliebjalghmaaDoorMn
namespace Go.Proofs.YtbdliebjalghmaaDoor
open Go.RowKit Go Go.Maps

theorem all_succ {f : Aut → Bool} {l : List Aut} {j : Nat} {a : Aut} (h : l[j]? = some a) : (l.take (j + 1)).all f = ((l.take j).all f && f a) := by
  rw [take_snoc' h, List.all_append]; simp
theorem mem_snoc {S ws : List Int} {y : Int} (h : ∀ x ∈ ws, x ∈ S) (hy : y ∈ S) : ∀ x ∈ ws ++ [y], x ∈ S := fun x hx => by
  rcases List.mem_append.1 hx with hx | hx
  · exact h x hx
  · obtain rfl := List.mem_singleton.1 hx; exact hy
theorem RetAutF.aut {a : Aut} {w w' : World} {e : Ending} (h : RetAutF a w e w') : Below w.heap.size w w' ∧ ∃ (A : Option Addr) (na ca : Nat) (M : Option Addr) (nm cm : Nat) (E : Option Addr) (ne ce : Nat),
      e = .returned (.tuple #[.agg #[.slice A na ca, .int .i64 a.st, .slice M nm cm, .slice E ne ce], .int .i64 0]) ∧ AutR w' w'.heap.size A na ca M nm cm E ne ce a := by
  obtain ⟨h1, A, na, ca, M, nm, cm, E, ne, ce, h2, h3, _⟩ := h
  exact ⟨h1, A, na, ca, M, nm, cm, E, ne, ce, h2, h3⟩

set_option maxRecDepth 100000 in
set_option maxHeartbeats 6400000 in
theorem languages_walk (L : Option Addr) (c n : Nat) (ps : List Pt) (T : Option Addr) (ct nt : Nat) (t : List Int) (w : World) (hl : ps.length = n) (h : RdP w w.heap.size L ps) (ht : t.length = nt) (hT : RdB w w.heap.size T t) (hbt : ∀ (k : Nat) (x : Int), t[k]? = some x → 0 ≤ x ∧ x ≤ 255) :
    Calls Tryd.prog 12 #[.slice L n c, .slice T nt ct] w fun e w' => e = .returned (.bool true) ∧ Below w.heap.size w w' := by
  have HK := Lib.hid (law_known w)
  have HL := Lib.hid hl; clear hl
  have HX := Lib.hid h; clear h
  have HT := Lib.hid hT; clear hT
  have HTL := Lib.hid ht; clear ht
  have HBT := Lib.hid hbt; clear hbt
  go_enter Tryd.func12, Tryd.ntmps12
  go_wp2_with fail
  refine HK.out.mono ?_
  rintro e w1 ⟨rfl, hb1⟩
  have HLI := Lib.hid (law_List L c n ps w1 HL.out ⟨(HX.out.1.below hb1).more hb1.size, HX.out.2⟩)
  have HB1 := Lib.hid hb1; clear hb1
  clear HK
  go_wp2_with fail
  refine HLI.out.mono ?_
  rintro e w2 ⟨A2, n2, c2, xs, rfl, hm2, hl2, hc1, hc2, hr2, hb2⟩
  have HF := Lib.hid (show FewL (xs.map AV.a) by rw [hm2]; exact lst_few HX.out.2)
  have HPR := Lib.hid (show prodN (xs.map AV.a) ≤ 4096 by rw [hm2]; exact Nat.le_trans (prodN_few (lstA_sm HX.out.2) (by rw [lstA_len]; omega)) (by omega))
  obtain ⟨a, T0, haT⟩ := HF.out.syn
  have HCM := Lib.hid (compose_few A2 c2 n2 xs a T0 w2 hl2 hr2 hc1 hc2 HF.out haT)
  have hB2 := HB1.out.trans (hb2.mono HB1.out.size)
  have HAT := Lib.hid haT; clear haT
  have HL2 := Lib.hid hl2; clear hl2
  have HR2 := Lib.hid hr2; clear hr2
  have HB2 := Lib.hid hB2; clear hB2
  clear hb2 HLI HB1 hm2 HL HX
  go_wp2_with fail
  refine HCM.out.mono ?_
  intro e w3 hret
  obtain ⟨hb3, A3, na3, ca3, M3, nm3, cm3, E3, ne3, ce3, rfl, hr3⟩ := hret.aut
  obtain ⟨st, hst⟩ : ∃ st, a.st = st := ⟨_, rfl⟩
  rw [hst]
  have k3 : Blk (w3.alloc (.cells #[.slice A3 na3 ca3, .int .i64 st, .slice M3 nm3 cm3, .slice E3 ne3 ce3] 29)) w3.heap.size 29 [.slice A3 na3 ca3, .int .i64 st, .slice M3 nm3 cm3, .slice E3 ne3 ce3] := Blk.new _ _ _
  have hb3a := box_below w3 (.cells #[.slice A3 na3 ca3, .int .i64 st, .slice M3 nm3 cm3, .slice E3 ne3 ce3] 29)
  have hb3c := hb3.trans (hb3a.mono hb3.size)
  have hB3 := HB2.out.trans (hb3c.mono HB2.out.size)
  have HR3 := Lib.hid ((HR2.out.below hb3c).more hb3c.size)
  have HA3 := Lib.hid ((hr3.below hb3a).more hb3a.size)
  have HAL := Lib.hid (alphabet_ok A2 c2 n2 xs (w3.alloc (.cells #[.slice A3 na3 ca3, .int .i64 st, .slice M3 nm3 cm3, .slice E3 ne3 ce3] 29)) HL2.out HR3.out hc1 hc2 HF.out.chk)
  have HST := Lib.hid hst; clear hst
  have K3 := Lib.hid k3; clear k3
  have HB3 := Lib.hid hB3; clear hB3
  clear hb3a hb3c hb3 hr3 hret HCM HR2 HB2
  go_wp2_with fail
  refine HAL.out.mono ?_
  rintro e w5 ⟨v5, rfl, ho5, hb5⟩
  obtain ⟨A5, c5, rfl⟩ := own_shape ho5
  have hB5 := HB3.out.trans (hb5.mono HB3.out.size)
  obtain ⟨VV, hVV⟩ : ∃ VV, evs (xs.map AV.a) = VV := ⟨_, rfl⟩
  rw [hVV] at ho5
  obtain ⟨nv, hnv⟩ : ∃ nv, VV.length = nv := ⟨_, rfl⟩
  have hle : nv ≤ 32 := by rw [← hnv, ← hVV]; exact evs_le HF.out.wf
  rw [hVV, hnv]
  rw [hnv] at ho5
  have HRV := Lib.hid (RdI.of_own ho5)
  have HT5 := Lib.hid ((HT.out.below hB5).more hB5.size)
  have HR5 := Lib.hid ((HR3.out.below hb5).more hb5.size)
  have HA5 := Lib.hid ((HA3.out.below hb5).more hb5.size)
  have K5 := Lib.hid (K3.out.below hb5 K3.out.lt)
  have HWA := Lib.hid (syn_wf HF.out.wf HPR.out HAT.out)
  have HVV := Lib.hid hVV; clear hVV
  have HNV := Lib.hid hnv; clear hnv
  have HB5 := Lib.hid hB5; clear hB5
  clear HAL ho5 hb5 HR3 HA3 K3 HB3 HT
  go_wp2
  go_loopw [10, 11] (fun s10 s11 wr => ∃ (k : Nat) (v : Value) (ws : List Int), s11 = .int .i64 k ∧ s10 = v ∧ k ≤ nt ∧ k ≤ 6 ∧ Hid (ws.length = k) ∧ Hid (wr.ownsRow w5.heap.size 3 1 v k (iv ws)) ∧ Hid (∀ x ∈ ws, x ∈ VV) ∧ Below w5.heap.size w5 wr) (fun _ s11 _ => nt - (intOf s11).toNat)
  case atStart => exact ⟨0, _, [], rfl, rfl, Nat.zero_le _, by omega, Lib.hid rfl, Lib.hid (World.ownsRow_nil _ _ _ _), Lib.hid (fun x hx => by simp at hx), Below.refl _ _⟩
  case round =>
    obtain ⟨k, v, ws, rfl, rfl, hk, hk6, HWL, HO, HM, hbel⟩ := hrel
    obtain ⟨W9, c9, rfl⟩ := own_shape HO.out
    have hsz := hbel.size
    by_cases hgo : k < nt ∧ k < 6 ∧ 0 < nv
    · obtain ⟨hlt, hlt6, hnv0⟩ := hgo
      obtain ⟨td, x, rfl, htb, hts, hcs⟩ := HT5.out.at_ (k := k) (by have := HTL.out; omega)
      obtain ⟨x0, x1⟩ := HBT.out k x hts
      have m0 := Int.emod_nonneg x (show (nv : Int) ≠ 0 by omega)
      have m1 := Int.emod_lt_of_pos x (show (0 : Int) < (nv : Int) by omega)
      obtain ⟨vd, y, rfl, hvb, hve, hvc⟩ := HRV.out.at_ (k := (x % (nv : Int)).toNat) (by have := HNV.out; omega)
      have b1 : (k : Int) < (nt : Int) := by omega
      have b2 : (k : Int) < 6 := by omega
      have b3 : (0 : Int) < (nv : Int) := by omega
      have hcs' : wr.cell? (td.add k) = some (.int .u8 x) := (hbel.cell (p := td.add k) (by rw [block_of_add]; exact htb)).trans hcs
      have hvc' : wr.cell? (vd.add (x % (nv : Int)).toNat) = some (.int .i64 y) := (hbel.cell (p := vd.add (x % (nv : Int)).toNat) (by rw [block_of_add]; exact hvb)).trans hvc
      have HM2 := Lib.hid (mem_snoc HM.out (List.mem_of_getElem? hve))
      have HWL2 := Lib.hid (show (ws ++ [y]).length = k + 1 by rw [List.length_append, HWL.out]; rfl)
      have hcap := (own_cap' HO.out).1
      have hcap2 := (own_cap' HO.out).2
      clear hcs hvc hts hve
      go_wp2_with (at_builtin; refine wpList_push wr (.int .i64 y) rfl (.tmp 59) (.tmp 71) 26 rfl w5.heap.size 3 (.int .i64 0) 8 Tryd.underlying26 int_info rfl (.slice W9 k c9) k _ rfl HO.out rfl rfl (by omega) (by omega) hsz ?_; intro v' w' ho' hg' hb1)
      go_roundw
      case rel => exact ⟨k + 1, _, ws ++ [y], by go_num, rfl, by omega, by omega, HWL2, Lib.hid (by rw [iv_append]; exact ho'), HM2, hbel.trans hb1⟩
      case measure => simp [intOf]; omega
    · have hms : ∀ x ∈ ws, x ∈ evs (xs.map AV.a) := by rw [HVV.out]; exact HM.out
      clear HM
      by_cases hlt : k < nt
      · have b1 : (k : Int) < (nt : Int) := by omega
        by_cases hlt6 : k < 6
        · have b2 : (k : Int) < 6 := by omega
          have b3 : decide ((nv : Int) > 0) = false := decide_eq_false (by omega)
          have b4 : ¬ (0 : Int) < (nv : Int) := by omega
          have HMS := Lib.hid hms; clear hms
          obtain ⟨p, hp⟩ : ∃ p, (xs.map AV.a).all (fun a => gA a (projW ws a.al)) = p := ⟨_, rfl⟩
          obtain ⟨q, hq⟩ : ∃ q, (xs.map AV.a).all (fun a => mA a (projW ws a.al)) = q := ⟨_, rfl⟩
          obtain ⟨hg1, hg2⟩ := lang_prod HF.out.wf HPR.out HAT.out HMS.out
          have HP := Lib.hid (hg1.trans hp)
          have HQ := Lib.hid (hg2.trans hq)
          have HPP := Lib.hid hp; clear hp
          have HQQ := Lib.hid hq; clear hq
          clear hg1 hg2
          go_wp2
          go_loopw [12, 13, 14] (fun s12 s13 s14 wr => ∃ j : Nat, s14 = .int .i64 j ∧ j ≤ n2 ∧ s12 = .bool (((xs.map AV.a).take j).all (fun a => gA a (projW ws a.al))) ∧ s13 = .bool (((xs.map AV.a).take j).all (fun a => mA a (projW ws a.al))) ∧ Hid (wr.ownsRow w5.heap.size 3 1 (.slice W9 k c9) k (iv ws)) ∧ Below w5.heap.size w5 wr) (fun _ _ s14 _ => n2 - (intOf s14).toNat)
          case atStart => exact ⟨0, rfl, Nat.zero_le _, rfl, rfl, HO, hbel⟩
          case round =>
            clear HO hbel
            obtain ⟨j, rfl, hj, rfl, rfl, HO, hbel⟩ := hrel
            by_cases hjl : j < n2
            · obtain ⟨ad, A7, na7, ca7, M7, nm7, cm7, E7, ne7, ce7, a7, rfl, hadb, hx7, q0, q1, q2, q3, hR7⟩ := ((HR5.out.below hbel).more hbel.size).at_ (k := j) (by have := HL2.out; omega)
              have b1 : (j : Int) < (n2 : Int) := by omega
              have hla : (xs.map AV.a)[j]? = some a7 := by rw [List.getElem?_map, hx7]; rfl
              have hw7 : WF a7 := HF.out.wf a7 (List.mem_of_getElem? hla)
              have hal7 := hw7.al_le
              have hn7 := hR7.la
              have HPJ := word_Project W9 A7 c9 ca7 ws a7.al wr (RdI.of_own HO.out) (by have := HWL.out; omega) hR7.ra (by omega) hw7.inc
              rw [HWL.out, hn7] at HPJ
              have HPJ := Lib.hid HPJ
              have s1 := st_cells (j := 0) q1
              have s2 := st_cells (j := 1) q2
              have s3 := st_cells (j := 2) q3
              have HSG := Lib.hid (all_succ (f := fun a => gA a (projW ws a.al)) hla)
              have HSM := Lib.hid (all_succ (f := fun a => mA a (projW ws a.al)) hla)
              obtain ⟨G, hG⟩ : ∃ G, ((xs.map AV.a).take j).all (fun a => gA a (projW ws a.al)) = G := ⟨_, rfl⟩
              obtain ⟨MM, hM⟩ : ∃ MM, ((xs.map AV.a).take j).all (fun a => mA a (projW ws a.al)) = MM := ⟨_, rfl⟩
              obtain ⟨g, hg⟩ : ∃ g, gA a7 (projW ws a7.al) = g := ⟨_, rfl⟩
              obtain ⟨m, hm⟩ : ∃ m, mA a7 (projW ws a7.al) = m := ⟨_, rfl⟩
              rw [hG] at HSG
              rw [hM] at HSM
              have HSG2 := Lib.hid (HSG.out.trans (show (G && gA a7 (projW ws a7.al)) = (G && g) by rw [hg]))
              have HSM2 := Lib.hid (HSM.out.trans (show (MM && mA a7 (projW ws a7.al)) = (MM && m) by rw [hm]))
              rw [hG, hM]
              have hadw : ad.block < wr.heap.size := hadb
              obtain ⟨st7, hst7⟩ : ∃ st7, a7.st = st7 := ⟨_, rfl⟩
              rw [hst7] at s1
              have HST7 := Lib.hid hst7; clear hst7
              have HG := Lib.hid hg; clear hg
              have HM := Lib.hid hm; clear hm
              have HR7 := Lib.hid hR7; clear hR7
              have HW7 := Lib.hid hw7; clear hw7
              clear q1 q2 q3 hla hx7 HSG HSM hG hM hn7 hal7 hadb
              go_wp2_with fail
              refine HPJ.out.mono ?_
              rintro e wA ⟨AP, cp, rfl, hcp1, hcp2, hrp, hbA⟩
              obtain ⟨np, hnp⟩ : ∃ np, (projW ws a7.al).length = np := ⟨_, rfl⟩
              rw [hnp] at hcp1 ⊢
              have HBK := Lib.hid (block_of_add ad (j * 4))
              have t0 : wA.cell? (ad.add (j * 4)) = some (.slice A7 na7 ca7) := (hbA.cell (p := ad.add (j * 4)) (by rw [HBK.out]; exact hadw)).trans q0
              have t1 : wA.cell? ⟨(ad.add (j * 4)).block, (ad.add (j * 4)).off + 1, none⟩ = some (.int .i64 st7) := (hbA.cell (p := ⟨(ad.add (j * 4)).block, (ad.add (j * 4)).off + 1, none⟩) (by rw [HBK.out]; exact hadw)).trans s1
              have t2 : wA.cell? ⟨(ad.add (j * 4)).block, (ad.add (j * 4)).off + 2, none⟩ = some (.slice M7 nm7 cm7) := (hbA.cell (p := ⟨(ad.add (j * 4)).block, (ad.add (j * 4)).off + 2, none⟩) (by rw [HBK.out]; exact hadw)).trans s2
              have t3 : wA.cell? ⟨(ad.add (j * 4)).block, (ad.add (j * 4)).off + 3, none⟩ = some (.slice E7 ne7 ce7) := (hbA.cell (p := ⟨(ad.add (j * 4)).block, (ad.add (j * 4)).off + 3, none⟩) (by rw [HBK.out]; exact hadw)).trans s3
              have HGE := Lib.hid (automaton_Generates A7 M7 E7 na7 ca7 nm7 cm7 ne7 ce7 a7 AP cp np (projW ws a7.al) g wA ((HR7.out.below hbA).more hbA.size) HW7.out hnp hrp hcp1 hcp2 HG.out)
              rw [HST7.out] at HGE
              have hadA : ad.block < wA.heap.size := Nat.lt_of_lt_of_le hadw hbA.size
              have hbelA := hbel.trans (hbA.mono hbel.size)
              have HOA := Lib.hid (own_below HO.out hbA)
              have HRA := Lib.hid ((HR7.out.below hbA).more hbA.size)
              have HNP := Lib.hid hnp; clear hnp
              have HRP := Lib.hid hrp; clear hrp
              clear q0 s1 s2 s3 hbA HPJ HO HR7
              go_wp2_with fail
              refine HGE.out.mono ?_
              rintro e wB ⟨rfl, hbB⟩
              have u0 : wB.cell? (ad.add (j * 4)) = some (.slice A7 na7 ca7) := (hbB.cell (p := ad.add (j * 4)) (by rw [HBK.out]; exact hadA)).trans t0
              have u1 : wB.cell? ⟨(ad.add (j * 4)).block, (ad.add (j * 4)).off + 1, none⟩ = some (.int .i64 st7) := (hbB.cell (p := ⟨(ad.add (j * 4)).block, (ad.add (j * 4)).off + 1, none⟩) (by rw [HBK.out]; exact hadA)).trans t1
              have u2 : wB.cell? ⟨(ad.add (j * 4)).block, (ad.add (j * 4)).off + 2, none⟩ = some (.slice M7 nm7 cm7) := (hbB.cell (p := ⟨(ad.add (j * 4)).block, (ad.add (j * 4)).off + 2, none⟩) (by rw [HBK.out]; exact hadA)).trans t2
              have u3 : wB.cell? ⟨(ad.add (j * 4)).block, (ad.add (j * 4)).off + 3, none⟩ = some (.slice E7 ne7 ce7) := (hbB.cell (p := ⟨(ad.add (j * 4)).block, (ad.add (j * 4)).off + 3, none⟩) (by rw [HBK.out]; exact hadA)).trans t3
              have HAC := Lib.hid (automaton_Accepts A7 M7 E7 na7 ca7 nm7 cm7 ne7 ce7 a7 AP cp np (projW ws a7.al) g m wB ((HRA.out.below hbB).more hbB.size) HW7.out HNP.out ((HRP.out.below hbB).more hbB.size) hcp1 hcp2 HG.out HM.out)
              rw [HST7.out] at HAC
              have hbelB := hbelA.trans (hbB.mono hbelA.size)
              have HOB := Lib.hid (own_below HOA.out hbB)
              clear t0 t1 t2 t3 hbB HGE HOA HRA hbelA
              go_wp2_with fail
              refine HAC.out.mono ?_
              rintro e wC ⟨rfl, hbC⟩
              have hbelC := hbelB.trans (hbC.mono hbelB.size)
              have HOC := Lib.hid (own_below HOB.out hbC)
              clear u0 u1 u2 u3 hbC hbelB HOB HAC HBK
              cases G <;> cases MM
              · go_wp2
                go_roundw
                case rel => exact ⟨j + 1, by go_num, by omega, by rw [HSG2.out]; rfl, by rw [HSM2.out]; rfl, HOC, hbelC⟩
                case measure => simp [intOf]; omega
              · go_wp2
                go_roundw
                case rel => exact ⟨j + 1, by go_num, by omega, by rw [HSG2.out]; rfl, by rw [HSM2.out]; rfl, HOC, hbelC⟩
                case measure => simp [intOf]; omega
              · go_wp2
                go_roundw
                case rel => exact ⟨j + 1, by go_num, by omega, by rw [HSG2.out]; rfl, by rw [HSM2.out]; rfl, HOC, hbelC⟩
                case measure => simp [intOf]; omega
              · go_wp2
                go_roundw
                case rel => exact ⟨j + 1, by go_num, by omega, by rw [HSG2.out]; rfl, by rw [HSM2.out]; rfl, HOC, hbelC⟩
                case measure => simp [intOf]; omega
            · have e1 : (xs.map AV.a).take j = xs.map AV.a := List.take_of_length_le (by rw [List.length_map]; have := HL2.out; omega)
              rw [e1, HPP.out, HQQ.out]
              clear e1
              have b1 : decide ((j : Int) < (n2 : Int)) = false := decide_eq_false (by omega)
              have hBr := HB5.out.trans (hbel.mono HB5.out.size)
              have k8 := K5.out.below hbel K5.out.lt
              have c0 := k8.cell (j := 0) rfl
              have c1 := k8.cell (j := 1) rfl
              have c2 := k8.cell (j := 2) rfl
              have c3 := k8.cell (j := 3) rfl
              have hrw := (RdI.of_own HO.out).below (Below.refl _ _)
              have HGE := Lib.hid (automaton_Generates A3 M3 E3 na3 ca3 nm3 cm3 ne3 ce3 a W9 c9 k ws p wr ((HA5.out.below hbel).more hbel.size) HWA.out HWL.out hrw (own_cap' HO.out).1 (own_cap' HO.out).2 HP.out)
              rw [HST.out] at HGE
              have K8 := Lib.hid k8; clear k8
              have HBR := Lib.hid hBr; clear hBr
              clear hrw
              go_wp2_with fail
              refine HGE.out.mono ?_
              rintro e w8 ⟨rfl, hb8⟩
              have k9 := K8.out.below hb8 K8.out.lt
              have hB8 := hbel.trans (hb8.mono hbel.size)
              have hO8 := own_below HO.out hb8
              have HAC := Lib.hid (automaton_Accepts A3 M3 E3 na3 ca3 nm3 cm3 ne3 ce3 a W9 c9 k ws p q w8 ((HA5.out.below hB8).more hB8.size) HWA.out HWL.out (RdI.of_own hO8) (own_cap' hO8).1 (own_cap' hO8).2 HP.out HQ.out)
              rw [HST.out] at HAC
              clear c0 c1 c2 c3 HGE
              have c0 := k9.cell (j := 0) rfl
              have c1 := k9.cell (j := 1) rfl
              have c2 := k9.cell (j := 2) rfl
              have c3 := k9.cell (j := 3) rfl
              have hB9 := HBR.out.trans (hb8.mono HBR.out.size)
              have HB9 := Lib.hid hB9; clear hB9
              clear k9 hB8 hO8 hb8
              go_wp2_with fail
              refine HAC.out.mono ?_
              rintro e wz ⟨rfl, hbz⟩
              have hBz := HB9.out.trans (hbz.mono HB9.out.size)
              have HBZ := Lib.hid hBz; clear hBz
              clear hbz c0 c1 c2 c3
              cases p <;> cases q
              · go_wp2
                go_ret
                exact ⟨rfl, HBZ.out⟩
              · go_wp2
                go_ret
                exact ⟨rfl, HBZ.out⟩
              · go_wp2
                go_ret
                exact ⟨rfl, HBZ.out⟩
              · go_wp2
                go_ret
                exact ⟨rfl, HBZ.out⟩
        · have b2 : decide ((k : Int) < 6) = false := decide_eq_false (by omega)
          have HMS := Lib.hid hms; clear hms
          obtain ⟨p, hp⟩ : ∃ p, (xs.map AV.a).all (fun a => gA a (projW ws a.al)) = p := ⟨_, rfl⟩
          obtain ⟨q, hq⟩ : ∃ q, (xs.map AV.a).all (fun a => mA a (projW ws a.al)) = q := ⟨_, rfl⟩
          obtain ⟨hg1, hg2⟩ := lang_prod HF.out.wf HPR.out HAT.out HMS.out
          have HP := Lib.hid (hg1.trans hp)
          have HQ := Lib.hid (hg2.trans hq)
          have HPP := Lib.hid hp; clear hp
          have HQQ := Lib.hid hq; clear hq
          clear hg1 hg2
          go_wp2
          go_loopw [12, 13, 14] (fun s12 s13 s14 wr => ∃ j : Nat, s14 = .int .i64 j ∧ j ≤ n2 ∧ s12 = .bool (((xs.map AV.a).take j).all (fun a => gA a (projW ws a.al))) ∧ s13 = .bool (((xs.map AV.a).take j).all (fun a => mA a (projW ws a.al))) ∧ Hid (wr.ownsRow w5.heap.size 3 1 (.slice W9 k c9) k (iv ws)) ∧ Below w5.heap.size w5 wr) (fun _ _ s14 _ => n2 - (intOf s14).toNat)
          case atStart => exact ⟨0, rfl, Nat.zero_le _, rfl, rfl, HO, hbel⟩
          case round =>
            clear HO hbel
            obtain ⟨j, rfl, hj, rfl, rfl, HO, hbel⟩ := hrel
            by_cases hjl : j < n2
            · obtain ⟨ad, A7, na7, ca7, M7, nm7, cm7, E7, ne7, ce7, a7, rfl, hadb, hx7, q0, q1, q2, q3, hR7⟩ := ((HR5.out.below hbel).more hbel.size).at_ (k := j) (by have := HL2.out; omega)
              have b1 : (j : Int) < (n2 : Int) := by omega
              have hla : (xs.map AV.a)[j]? = some a7 := by rw [List.getElem?_map, hx7]; rfl
              have hw7 : WF a7 := HF.out.wf a7 (List.mem_of_getElem? hla)
              have hal7 := hw7.al_le
              have hn7 := hR7.la
              have HPJ := word_Project W9 A7 c9 ca7 ws a7.al wr (RdI.of_own HO.out) (by have := HWL.out; omega) hR7.ra (by omega) hw7.inc
              rw [HWL.out, hn7] at HPJ
              have HPJ := Lib.hid HPJ
              have s1 := st_cells (j := 0) q1
              have s2 := st_cells (j := 1) q2
              have s3 := st_cells (j := 2) q3
              have HSG := Lib.hid (all_succ (f := fun a => gA a (projW ws a.al)) hla)
              have HSM := Lib.hid (all_succ (f := fun a => mA a (projW ws a.al)) hla)
              obtain ⟨G, hG⟩ : ∃ G, ((xs.map AV.a).take j).all (fun a => gA a (projW ws a.al)) = G := ⟨_, rfl⟩
              obtain ⟨MM, hM⟩ : ∃ MM, ((xs.map AV.a).take j).all (fun a => mA a (projW ws a.al)) = MM := ⟨_, rfl⟩
              obtain ⟨g, hg⟩ : ∃ g, gA a7 (projW ws a7.al) = g := ⟨_, rfl⟩
              obtain ⟨m, hm⟩ : ∃ m, mA a7 (projW ws a7.al) = m := ⟨_, rfl⟩
              rw [hG] at HSG
              rw [hM] at HSM
              have HSG2 := Lib.hid (HSG.out.trans (show (G && gA a7 (projW ws a7.al)) = (G && g) by rw [hg]))
              have HSM2 := Lib.hid (HSM.out.trans (show (MM && mA a7 (projW ws a7.al)) = (MM && m) by rw [hm]))
              rw [hG, hM]
              have hadw : ad.block < wr.heap.size := hadb
              obtain ⟨st7, hst7⟩ : ∃ st7, a7.st = st7 := ⟨_, rfl⟩
              rw [hst7] at s1
              have HST7 := Lib.hid hst7; clear hst7
              have HG := Lib.hid hg; clear hg
              have HM := Lib.hid hm; clear hm
              have HR7 := Lib.hid hR7; clear hR7
              have HW7 := Lib.hid hw7; clear hw7
              clear q1 q2 q3 hla hx7 HSG HSM hG hM hn7 hal7 hadb
              go_wp2_with fail
              refine HPJ.out.mono ?_
              rintro e wA ⟨AP, cp, rfl, hcp1, hcp2, hrp, hbA⟩
              obtain ⟨np, hnp⟩ : ∃ np, (projW ws a7.al).length = np := ⟨_, rfl⟩
              rw [hnp] at hcp1 ⊢
              have HBK := Lib.hid (block_of_add ad (j * 4))
              have t0 : wA.cell? (ad.add (j * 4)) = some (.slice A7 na7 ca7) := (hbA.cell (p := ad.add (j * 4)) (by rw [HBK.out]; exact hadw)).trans q0
              have t1 : wA.cell? ⟨(ad.add (j * 4)).block, (ad.add (j * 4)).off + 1, none⟩ = some (.int .i64 st7) := (hbA.cell (p := ⟨(ad.add (j * 4)).block, (ad.add (j * 4)).off + 1, none⟩) (by rw [HBK.out]; exact hadw)).trans s1
              have t2 : wA.cell? ⟨(ad.add (j * 4)).block, (ad.add (j * 4)).off + 2, none⟩ = some (.slice M7 nm7 cm7) := (hbA.cell (p := ⟨(ad.add (j * 4)).block, (ad.add (j * 4)).off + 2, none⟩) (by rw [HBK.out]; exact hadw)).trans s2
              have t3 : wA.cell? ⟨(ad.add (j * 4)).block, (ad.add (j * 4)).off + 3, none⟩ = some (.slice E7 ne7 ce7) := (hbA.cell (p := ⟨(ad.add (j * 4)).block, (ad.add (j * 4)).off + 3, none⟩) (by rw [HBK.out]; exact hadw)).trans s3
              have HGE := Lib.hid (automaton_Generates A7 M7 E7 na7 ca7 nm7 cm7 ne7 ce7 a7 AP cp np (projW ws a7.al) g wA ((HR7.out.below hbA).more hbA.size) HW7.out hnp hrp hcp1 hcp2 HG.out)
              rw [HST7.out] at HGE
              have hadA : ad.block < wA.heap.size := Nat.lt_of_lt_of_le hadw hbA.size
              have hbelA := hbel.trans (hbA.mono hbel.size)
              have HOA := Lib.hid (own_below HO.out hbA)
              have HRA := Lib.hid ((HR7.out.below hbA).more hbA.size)
              have HNP := Lib.hid hnp; clear hnp
              have HRP := Lib.hid hrp; clear hrp
              clear q0 s1 s2 s3 hbA HPJ HO HR7
              go_wp2_with fail
              refine HGE.out.mono ?_
              rintro e wB ⟨rfl, hbB⟩
              have u0 : wB.cell? (ad.add (j * 4)) = some (.slice A7 na7 ca7) := (hbB.cell (p := ad.add (j * 4)) (by rw [HBK.out]; exact hadA)).trans t0
              have u1 : wB.cell? ⟨(ad.add (j * 4)).block, (ad.add (j * 4)).off + 1, none⟩ = some (.int .i64 st7) := (hbB.cell (p := ⟨(ad.add (j * 4)).block, (ad.add (j * 4)).off + 1, none⟩) (by rw [HBK.out]; exact hadA)).trans t1
              have u2 : wB.cell? ⟨(ad.add (j * 4)).block, (ad.add (j * 4)).off + 2, none⟩ = some (.slice M7 nm7 cm7) := (hbB.cell (p := ⟨(ad.add (j * 4)).block, (ad.add (j * 4)).off + 2, none⟩) (by rw [HBK.out]; exact hadA)).trans t2
              have u3 : wB.cell? ⟨(ad.add (j * 4)).block, (ad.add (j * 4)).off + 3, none⟩ = some (.slice E7 ne7 ce7) := (hbB.cell (p := ⟨(ad.add (j * 4)).block, (ad.add (j * 4)).off + 3, none⟩) (by rw [HBK.out]; exact hadA)).trans t3
              have HAC := Lib.hid (automaton_Accepts A7 M7 E7 na7 ca7 nm7 cm7 ne7 ce7 a7 AP cp np (projW ws a7.al) g m wB ((HRA.out.below hbB).more hbB.size) HW7.out HNP.out ((HRP.out.below hbB).more hbB.size) hcp1 hcp2 HG.out HM.out)
              rw [HST7.out] at HAC
              have hbelB := hbelA.trans (hbB.mono hbelA.size)
              have HOB := Lib.hid (own_below HOA.out hbB)
              clear t0 t1 t2 t3 hbB HGE HOA HRA hbelA
              go_wp2_with fail
              refine HAC.out.mono ?_
              rintro e wC ⟨rfl, hbC⟩
              have hbelC := hbelB.trans (hbC.mono hbelB.size)
              have HOC := Lib.hid (own_below HOB.out hbC)
              clear u0 u1 u2 u3 hbC hbelB HOB HAC HBK
              cases G <;> cases MM
              · go_wp2
                go_roundw
                case rel => exact ⟨j + 1, by go_num, by omega, by rw [HSG2.out]; rfl, by rw [HSM2.out]; rfl, HOC, hbelC⟩
                case measure => simp [intOf]; omega
              · go_wp2
                go_roundw
                case rel => exact ⟨j + 1, by go_num, by omega, by rw [HSG2.out]; rfl, by rw [HSM2.out]; rfl, HOC, hbelC⟩
                case measure => simp [intOf]; omega
              · go_wp2
                go_roundw
                case rel => exact ⟨j + 1, by go_num, by omega, by rw [HSG2.out]; rfl, by rw [HSM2.out]; rfl, HOC, hbelC⟩
                case measure => simp [intOf]; omega
              · go_wp2
                go_roundw
                case rel => exact ⟨j + 1, by go_num, by omega, by rw [HSG2.out]; rfl, by rw [HSM2.out]; rfl, HOC, hbelC⟩
                case measure => simp [intOf]; omega
            · have e1 : (xs.map AV.a).take j = xs.map AV.a := List.take_of_length_le (by rw [List.length_map]; have := HL2.out; omega)
              rw [e1, HPP.out, HQQ.out]
              clear e1
              have b1 : decide ((j : Int) < (n2 : Int)) = false := decide_eq_false (by omega)
              have hBr := HB5.out.trans (hbel.mono HB5.out.size)
              have k8 := K5.out.below hbel K5.out.lt
              have c0 := k8.cell (j := 0) rfl
              have c1 := k8.cell (j := 1) rfl
              have c2 := k8.cell (j := 2) rfl
              have c3 := k8.cell (j := 3) rfl
              have hrw := (RdI.of_own HO.out).below (Below.refl _ _)
              have HGE := Lib.hid (automaton_Generates A3 M3 E3 na3 ca3 nm3 cm3 ne3 ce3 a W9 c9 k ws p wr ((HA5.out.below hbel).more hbel.size) HWA.out HWL.out hrw (own_cap' HO.out).1 (own_cap' HO.out).2 HP.out)
              rw [HST.out] at HGE
              have K8 := Lib.hid k8; clear k8
              have HBR := Lib.hid hBr; clear hBr
              clear hrw
              go_wp2_with fail
              refine HGE.out.mono ?_
              rintro e w8 ⟨rfl, hb8⟩
              have k9 := K8.out.below hb8 K8.out.lt
              have hB8 := hbel.trans (hb8.mono hbel.size)
              have hO8 := own_below HO.out hb8
              have HAC := Lib.hid (automaton_Accepts A3 M3 E3 na3 ca3 nm3 cm3 ne3 ce3 a W9 c9 k ws p q w8 ((HA5.out.below hB8).more hB8.size) HWA.out HWL.out (RdI.of_own hO8) (own_cap' hO8).1 (own_cap' hO8).2 HP.out HQ.out)
              rw [HST.out] at HAC
              clear c0 c1 c2 c3 HGE
              have c0 := k9.cell (j := 0) rfl
              have c1 := k9.cell (j := 1) rfl
              have c2 := k9.cell (j := 2) rfl
              have c3 := k9.cell (j := 3) rfl
              have hB9 := HBR.out.trans (hb8.mono HBR.out.size)
              have HB9 := Lib.hid hB9; clear hB9
              clear k9 hB8 hO8 hb8
              go_wp2_with fail
              refine HAC.out.mono ?_
              rintro e wz ⟨rfl, hbz⟩
              have hBz := HB9.out.trans (hbz.mono HB9.out.size)
              have HBZ := Lib.hid hBz; clear hBz
              clear hbz c0 c1 c2 c3
              cases p <;> cases q
              · go_wp2
                go_ret
                exact ⟨rfl, HBZ.out⟩
              · go_wp2
                go_ret
                exact ⟨rfl, HBZ.out⟩
              · go_wp2
                go_ret
                exact ⟨rfl, HBZ.out⟩
              · go_wp2
                go_ret
                exact ⟨rfl, HBZ.out⟩
      · have b1 : decide ((k : Int) < (nt : Int)) = false := decide_eq_false (by omega)
        have HMS := Lib.hid hms; clear hms
        obtain ⟨p, hp⟩ : ∃ p, (xs.map AV.a).all (fun a => gA a (projW ws a.al)) = p := ⟨_, rfl⟩
        obtain ⟨q, hq⟩ : ∃ q, (xs.map AV.a).all (fun a => mA a (projW ws a.al)) = q := ⟨_, rfl⟩
        obtain ⟨hg1, hg2⟩ := lang_prod HF.out.wf HPR.out HAT.out HMS.out
        have HP := Lib.hid (hg1.trans hp)
        have HQ := Lib.hid (hg2.trans hq)
        have HPP := Lib.hid hp; clear hp
        have HQQ := Lib.hid hq; clear hq
        clear hg1 hg2
        go_wp2
        go_loopw [12, 13, 14] (fun s12 s13 s14 wr => ∃ j : Nat, s14 = .int .i64 j ∧ j ≤ n2 ∧ s12 = .bool (((xs.map AV.a).take j).all (fun a => gA a (projW ws a.al))) ∧ s13 = .bool (((xs.map AV.a).take j).all (fun a => mA a (projW ws a.al))) ∧ Hid (wr.ownsRow w5.heap.size 3 1 (.slice W9 k c9) k (iv ws)) ∧ Below w5.heap.size w5 wr) (fun _ _ s14 _ => n2 - (intOf s14).toNat)
        case atStart => exact ⟨0, rfl, Nat.zero_le _, rfl, rfl, HO, hbel⟩
        case round =>
          clear HO hbel
          obtain ⟨j, rfl, hj, rfl, rfl, HO, hbel⟩ := hrel
          by_cases hjl : j < n2
          · obtain ⟨ad, A7, na7, ca7, M7, nm7, cm7, E7, ne7, ce7, a7, rfl, hadb, hx7, q0, q1, q2, q3, hR7⟩ := ((HR5.out.below hbel).more hbel.size).at_ (k := j) (by have := HL2.out; omega)
            have b1 : (j : Int) < (n2 : Int) := by omega
            have hla : (xs.map AV.a)[j]? = some a7 := by rw [List.getElem?_map, hx7]; rfl
            have hw7 : WF a7 := HF.out.wf a7 (List.mem_of_getElem? hla)
            have hal7 := hw7.al_le
            have hn7 := hR7.la
            have HPJ := word_Project W9 A7 c9 ca7 ws a7.al wr (RdI.of_own HO.out) (by have := HWL.out; omega) hR7.ra (by omega) hw7.inc
            rw [HWL.out, hn7] at HPJ
            have HPJ := Lib.hid HPJ
            have s1 := st_cells (j := 0) q1
            have s2 := st_cells (j := 1) q2
            have s3 := st_cells (j := 2) q3
            have HSG := Lib.hid (all_succ (f := fun a => gA a (projW ws a.al)) hla)
            have HSM := Lib.hid (all_succ (f := fun a => mA a (projW ws a.al)) hla)
            obtain ⟨G, hG⟩ : ∃ G, ((xs.map AV.a).take j).all (fun a => gA a (projW ws a.al)) = G := ⟨_, rfl⟩
            obtain ⟨MM, hM⟩ : ∃ MM, ((xs.map AV.a).take j).all (fun a => mA a (projW ws a.al)) = MM := ⟨_, rfl⟩
            obtain ⟨g, hg⟩ : ∃ g, gA a7 (projW ws a7.al) = g := ⟨_, rfl⟩
            obtain ⟨m, hm⟩ : ∃ m, mA a7 (projW ws a7.al) = m := ⟨_, rfl⟩
            rw [hG] at HSG
            rw [hM] at HSM
            have HSG2 := Lib.hid (HSG.out.trans (show (G && gA a7 (projW ws a7.al)) = (G && g) by rw [hg]))
            have HSM2 := Lib.hid (HSM.out.trans (show (MM && mA a7 (projW ws a7.al)) = (MM && m) by rw [hm]))
            rw [hG, hM]
            have hadw : ad.block < wr.heap.size := hadb
            obtain ⟨st7, hst7⟩ : ∃ st7, a7.st = st7 := ⟨_, rfl⟩
            rw [hst7] at s1
            have HST7 := Lib.hid hst7; clear hst7
            have HG := Lib.hid hg; clear hg
            have HM := Lib.hid hm; clear hm
            have HR7 := Lib.hid hR7; clear hR7
            have HW7 := Lib.hid hw7; clear hw7
            clear q1 q2 q3 hla hx7 HSG HSM hG hM hn7 hal7 hadb
            go_wp2_with fail
            refine HPJ.out.mono ?_
            rintro e wA ⟨AP, cp, rfl, hcp1, hcp2, hrp, hbA⟩
            obtain ⟨np, hnp⟩ : ∃ np, (projW ws a7.al).length = np := ⟨_, rfl⟩
            rw [hnp] at hcp1 ⊢
            have HBK := Lib.hid (block_of_add ad (j * 4))
            have t0 : wA.cell? (ad.add (j * 4)) = some (.slice A7 na7 ca7) := (hbA.cell (p := ad.add (j * 4)) (by rw [HBK.out]; exact hadw)).trans q0
            have t1 : wA.cell? ⟨(ad.add (j * 4)).block, (ad.add (j * 4)).off + 1, none⟩ = some (.int .i64 st7) := (hbA.cell (p := ⟨(ad.add (j * 4)).block, (ad.add (j * 4)).off + 1, none⟩) (by rw [HBK.out]; exact hadw)).trans s1
            have t2 : wA.cell? ⟨(ad.add (j * 4)).block, (ad.add (j * 4)).off + 2, none⟩ = some (.slice M7 nm7 cm7) := (hbA.cell (p := ⟨(ad.add (j * 4)).block, (ad.add (j * 4)).off + 2, none⟩) (by rw [HBK.out]; exact hadw)).trans s2
            have t3 : wA.cell? ⟨(ad.add (j * 4)).block, (ad.add (j * 4)).off + 3, none⟩ = some (.slice E7 ne7 ce7) := (hbA.cell (p := ⟨(ad.add (j * 4)).block, (ad.add (j * 4)).off + 3, none⟩) (by rw [HBK.out]; exact hadw)).trans s3
            have HGE := Lib.hid (automaton_Generates A7 M7 E7 na7 ca7 nm7 cm7 ne7 ce7 a7 AP cp np (projW ws a7.al) g wA ((HR7.out.below hbA).more hbA.size) HW7.out hnp hrp hcp1 hcp2 HG.out)
            rw [HST7.out] at HGE
            have hadA : ad.block < wA.heap.size := Nat.lt_of_lt_of_le hadw hbA.size
            have hbelA := hbel.trans (hbA.mono hbel.size)
            have HOA := Lib.hid (own_below HO.out hbA)
            have HRA := Lib.hid ((HR7.out.below hbA).more hbA.size)
            have HNP := Lib.hid hnp; clear hnp
            have HRP := Lib.hid hrp; clear hrp
            clear q0 s1 s2 s3 hbA HPJ HO HR7
            go_wp2_with fail
            refine HGE.out.mono ?_
            rintro e wB ⟨rfl, hbB⟩
            have u0 : wB.cell? (ad.add (j * 4)) = some (.slice A7 na7 ca7) := (hbB.cell (p := ad.add (j * 4)) (by rw [HBK.out]; exact hadA)).trans t0
            have u1 : wB.cell? ⟨(ad.add (j * 4)).block, (ad.add (j * 4)).off + 1, none⟩ = some (.int .i64 st7) := (hbB.cell (p := ⟨(ad.add (j * 4)).block, (ad.add (j * 4)).off + 1, none⟩) (by rw [HBK.out]; exact hadA)).trans t1
            have u2 : wB.cell? ⟨(ad.add (j * 4)).block, (ad.add (j * 4)).off + 2, none⟩ = some (.slice M7 nm7 cm7) := (hbB.cell (p := ⟨(ad.add (j * 4)).block, (ad.add (j * 4)).off + 2, none⟩) (by rw [HBK.out]; exact hadA)).trans t2
            have u3 : wB.cell? ⟨(ad.add (j * 4)).block, (ad.add (j * 4)).off + 3, none⟩ = some (.slice E7 ne7 ce7) := (hbB.cell (p := ⟨(ad.add (j * 4)).block, (ad.add (j * 4)).off + 3, none⟩) (by rw [HBK.out]; exact hadA)).trans t3
            have HAC := Lib.hid (automaton_Accepts A7 M7 E7 na7 ca7 nm7 cm7 ne7 ce7 a7 AP cp np (projW ws a7.al) g m wB ((HRA.out.below hbB).more hbB.size) HW7.out HNP.out ((HRP.out.below hbB).more hbB.size) hcp1 hcp2 HG.out HM.out)
            rw [HST7.out] at HAC
            have hbelB := hbelA.trans (hbB.mono hbelA.size)
            have HOB := Lib.hid (own_below HOA.out hbB)
            clear t0 t1 t2 t3 hbB HGE HOA HRA hbelA
            go_wp2_with fail
            refine HAC.out.mono ?_
            rintro e wC ⟨rfl, hbC⟩
            have hbelC := hbelB.trans (hbC.mono hbelB.size)
            have HOC := Lib.hid (own_below HOB.out hbC)
            clear u0 u1 u2 u3 hbC hbelB HOB HAC HBK
            cases G <;> cases MM
            · go_wp2
              go_roundw
              case rel => exact ⟨j + 1, by go_num, by omega, by rw [HSG2.out]; rfl, by rw [HSM2.out]; rfl, HOC, hbelC⟩
              case measure => simp [intOf]; omega
            · go_wp2
              go_roundw
              case rel => exact ⟨j + 1, by go_num, by omega, by rw [HSG2.out]; rfl, by rw [HSM2.out]; rfl, HOC, hbelC⟩
              case measure => simp [intOf]; omega
            · go_wp2
              go_roundw
              case rel => exact ⟨j + 1, by go_num, by omega, by rw [HSG2.out]; rfl, by rw [HSM2.out]; rfl, HOC, hbelC⟩
              case measure => simp [intOf]; omega
            · go_wp2
              go_roundw
              case rel => exact ⟨j + 1, by go_num, by omega, by rw [HSG2.out]; rfl, by rw [HSM2.out]; rfl, HOC, hbelC⟩
              case measure => simp [intOf]; omega
          · have e1 : (xs.map AV.a).take j = xs.map AV.a := List.take_of_length_le (by rw [List.length_map]; have := HL2.out; omega)
            rw [e1, HPP.out, HQQ.out]
            clear e1
            have b1 : decide ((j : Int) < (n2 : Int)) = false := decide_eq_false (by omega)
            have hBr := HB5.out.trans (hbel.mono HB5.out.size)
            have k8 := K5.out.below hbel K5.out.lt
            have c0 := k8.cell (j := 0) rfl
            have c1 := k8.cell (j := 1) rfl
            have c2 := k8.cell (j := 2) rfl
            have c3 := k8.cell (j := 3) rfl
            have hrw := (RdI.of_own HO.out).below (Below.refl _ _)
            have HGE := Lib.hid (automaton_Generates A3 M3 E3 na3 ca3 nm3 cm3 ne3 ce3 a W9 c9 k ws p wr ((HA5.out.below hbel).more hbel.size) HWA.out HWL.out hrw (own_cap' HO.out).1 (own_cap' HO.out).2 HP.out)
            rw [HST.out] at HGE
            have K8 := Lib.hid k8; clear k8
            have HBR := Lib.hid hBr; clear hBr
            clear hrw
            go_wp2_with fail
            refine HGE.out.mono ?_
            rintro e w8 ⟨rfl, hb8⟩
            have k9 := K8.out.below hb8 K8.out.lt
            have hB8 := hbel.trans (hb8.mono hbel.size)
            have hO8 := own_below HO.out hb8
            have HAC := Lib.hid (automaton_Accepts A3 M3 E3 na3 ca3 nm3 cm3 ne3 ce3 a W9 c9 k ws p q w8 ((HA5.out.below hB8).more hB8.size) HWA.out HWL.out (RdI.of_own hO8) (own_cap' hO8).1 (own_cap' hO8).2 HP.out HQ.out)
            rw [HST.out] at HAC
            clear c0 c1 c2 c3 HGE
            have c0 := k9.cell (j := 0) rfl
            have c1 := k9.cell (j := 1) rfl
            have c2 := k9.cell (j := 2) rfl
            have c3 := k9.cell (j := 3) rfl
            have hB9 := HBR.out.trans (hb8.mono HBR.out.size)
            have HB9 := Lib.hid hB9; clear hB9
            clear k9 hB8 hO8 hb8
            go_wp2_with fail
            refine HAC.out.mono ?_
            rintro e wz ⟨rfl, hbz⟩
            have hBz := HB9.out.trans (hbz.mono HB9.out.size)
            have HBZ := Lib.hid hBz; clear hBz
            clear hbz c0 c1 c2 c3
            cases p <;> cases q
            · go_wp2
              go_ret
              exact ⟨rfl, HBZ.out⟩
            · go_wp2
              go_ret
              exact ⟨rfl, HBZ.out⟩
            · go_wp2
              go_ret
              exact ⟨rfl, HBZ.out⟩
            · go_wp2
              go_ret
              exact ⟨rfl, HBZ.out⟩
end Go.Proofs.YtbdliebjalghmaaDoor
