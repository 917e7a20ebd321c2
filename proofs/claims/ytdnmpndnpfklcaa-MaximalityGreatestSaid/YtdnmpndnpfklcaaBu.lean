/- Plain: admissible sets, three ways. -/
import Derived.Test.YtdnmpndnpfklcaaBt
import Derived.Test.YtdnmpndnpfklcaaBe
namespace Go.Proofs.Ytdnmpndnpfklcaa
open Go.RowKit Go Go.Maps
section
variable {p:Mx} {n:Nat} {set:List Int}
theorem go_dst (hp:p.ok) (hn:p.a.st = (n:Int)) (hs:∀ t ∈ set,0 ≤ t∧t < (n:Int)) {s:Int} (h:s ∈ set):0 ≤ dstF p.a (inF n set) s ↔ ∃ d,Dp p.a.ed (inF n set) p.a.ma s d:=by
  have h0:=hs s h
  rcases dstF_ok hp.wf h0.1 (by omega) ((inF_fl hs h0.1).2 h) with ⟨h1,h2⟩ | ⟨d,h1,h2,_⟩
  · rw [h1]
    exact ⟨fun h3=>by omega,fun ⟨d,h3⟩=>absurd h3 (h2 d)⟩
  · rw [h1]
    exact ⟨fun _=>⟨d,h2⟩,fun _=>by omega⟩
theorem adS_adm (hp:p.ok) (hn:p.a.st = (n:Int)) (hs:∀ t ∈ set,0 ≤ t∧t < (n:Int)):(∀ s ∈ set,AdS p n set s) ↔ Adm p (fun s=>s ∈ set) (inF n set):=by
  constructor
  · intro h
    refine ⟨fun s h1 h2=>?_,fun x hx h1 h2=>?_,fun s h1=>(go_dst hp hn hs h1).1 (h s h1).2.2⟩
    · have h3:=(h s h1).2.1
      rw [hasB_mem.2 h2] at h3
      cases h3
    · have h3:=(h x.f h1).1
      unfold ldEL at h3
      rw [Option.map_eq_none_iff,List.find?_eq_none] at h3
      have h4:=h3 x hx
      unfold ldPL at h4
      apply hasB_mem.1
      cases h5:hasB set x.t with
      | true=>rfl
      | false=>exact absurd (by simp [h2,h5]) h4
  · intro h s h1
    refine ⟨ldEL_no fun y hy=>?_,?_,(go_dst hp hn hs h1).2 (h.go s h1)⟩
    · cases h2:ldPL p set s y with
      | false=>rfl
      | true =>
        exfalso
        unfold ldPL at h2
        simp only [Bool.and_eq_true,Bool.not_eq_true',decide_eq_true_eq] at h2
        obtain ⟨⟨h3,h4⟩,h5⟩:=h2
        have h6:=h.un y hy (by rw [h3];exact h1) h4
        rw [hasB_mem.2 h6] at h5
        cases h5
    · cases h2:hasB p.f s with
      | false=>rfl
      | true=>exact absurd (hasB_mem.1 h2) (h.fo s h1)
theorem adB_adm (hp:p.ok) (hn:p.a.st = (n:Int)) (hs:∀ t ∈ set,0 ≤ t∧t < (n:Int)):adB p n set = true ↔ Adm p (fun s=>s ∈ set) (inF n set):=by
  have hds:∀ s ∈ set,gI (dsS p.a.ed (inF n set) p.a.ma).1 s = dstF p.a (inF n set) s:=fun s h=>by
    have h0:=hs s h
    exact dsS_dst hp.wf (by rw [inF_len];exact hn.symm) h0.1 (by omega) ((inF_fl hs h0.1).2 h)
  unfold adB
  rw [Bool.and_eq_true,Bool.and_eq_true,Bool.not_eq_true',Bool.not_eq_true',Bool.not_eq_true',List.any_eq_false,List.any_eq_false,List.any_eq_false]
  constructor
  · rintro ⟨⟨h1,h2⟩,h3⟩
    refine ⟨fun s k1 k2=>h1 s k2 ((inF_fl hs (hs s k1).1).2 k1),fun x hx k1 k2=>?_,fun s k1=>(go_dst hp hn hs k1).1 ?_⟩
    · have h4:=h2 x hx
      have e1:=(inF_fl hs (hs _ k1).1).2 k1
      have k3:=hasB_mem.1 k2
      have e2:=(inF_fl (n:=32) hp.urng (hp.urng _ k3).1).2 k3
      rw [e1,e2] at h4
      cases h5:fl (inF n set) x.t with
      | true=>exact (inF_fl hs (by have:=hp.wf.ev_rng hx;omega)).1 h5
      | false=>rw [h5] at h4;exact absurd rfl h4
    · have h4:=h3 s k1
      rw [hds s k1] at h4
      simpa using h4
  · intro h
    refine ⟨⟨fun s k1 k2=>?_,fun x hx k1=>?_⟩,fun s k1=>?_⟩
    · exact h.fo s ((inF_fl hs (hp.frng s k1).1).1 k2) k1
    · rw [Bool.and_eq_true,Bool.and_eq_true,Bool.not_eq_true'] at k1
      obtain ⟨⟨e1,e2⟩,e3⟩:=k1
      have hr:=hp.wf.ev_rng hx
      have h4:=h.un x hx ((inF_fl hs hr.1).1 e1) (hasB_mem.2 ((inF_fl (n:=32) hp.urng hr.2.2.2.2.1).1 e3))
      rw [(inF_fl hs hr.2.2.1).2 h4] at e2
      cases e2
    · rw [hds s k1]
      have:=(go_dst hp hn hs k1).2 (h.go s k1)
      simpa using this
theorem adB_eq (hp:p.ok) (hn:p.a.st = (n:Int)) (hs:∀ t ∈ set,0 ≤ t∧t < (n:Int)):adB p n set = true ↔ ∀ s ∈ set,AdS p n set s:=(adB_adm hp hn hs).trans (adS_adm hp hn hs).symm
theorem adB_great {c:Ce} (hp:p.ok) (hn:p.a.st = (n:Int)) (hs:∀ t ∈ set,0 ≤ t∧t < (n:Int)) (hc:FOk p.a.st c∧VOk p c) (h:adB p n set = true) {s:Int} (h1:s ∈ set):s ∈ c.kp :=
  hc.2.great hc.1 hp.wf ((adB_adm hp hn hs).1 h) (fun t h0 _ ht=>(inF_fl hs h0).1 ht) (fun t ht=>by rw [hn];exact hs t ht) h1
theorem kept_adS {c:Ce} (hp:p.ok) (hn:p.a.st = (n:Int)) (hc:FOk p.a.st c∧VOk p c):∀ s ∈ c.kp,AdS p n c.kp s:=by
  have hs:∀ t ∈ c.kp,0 ≤ t∧t < (n:Int):=fun t ht=>by rw [← hn];exact hc.1.krng t ht
  exact (adS_adm hp hn hs).2 (hc.2.adm hc.1 (fun s h0 _=>inF_fl hs h0))
end
end Go.Proofs.Ytdnmpndnpfklcaa
