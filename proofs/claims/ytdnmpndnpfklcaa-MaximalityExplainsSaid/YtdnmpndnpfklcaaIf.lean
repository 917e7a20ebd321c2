/- Plain: what Verify says, and the greatest set (chapter 28). -/
import Derived.Test.YtdnmpndnpfklcaaIe
namespace Go.Proofs.Ytdnmpndnpfklcaa
open Go
def rmErrG (n:Int):Option Int → List Rm → Int
  | _,[]=>0
  | q,r :: l=>if r.s < 0 ∨ n ≤ r.s then 2 else if q.any (fun v=>decide (r.s ≤ v)) = true then 5 else if r.r ≠ 1∧r.r ≠ 2∧r.r ≠ 3 then 11 else rmErrG n (some r.s) l
def rmErr (n:Int) (l:List Rm):Int:=rmErrG n none l
theorem rmErrG_ok {n:Int}:∀ {l:List Rm} {q:Option Int},rmErrG n q l = 0 → (∀ v,q = some v → ∀ r ∈ l,v < r.s)∧IncR l∧∀ r ∈ l,(0 ≤ r.s∧r.s < n)∧(r.r = 1 ∨ r.r = 2 ∨ r.r = 3)
  | [],_,_=>⟨fun _ _ r hr=>(by cases hr),List.Pairwise.nil,fun r hr=>(by cases hr)⟩
  | r :: l,q,h=>by
    unfold rmErrG at h
    split at h
    · omega
    rename_i h1
    split at h
    · omega
    rename_i h2
    split at h
    · omega
    rename_i h3
    obtain ⟨a,b,c⟩:=rmErrG_ok h
    have a:=a r.s rfl
    refine ⟨fun v hv t ht=>?_,List.pairwise_cons.2 ⟨a,b⟩,fun t ht=>?_⟩
    · rw [hv] at h2
      simp only [Option.any_some,decide_eq_true_eq] at h2
      rcases List.mem_cons.1 ht with rfl | ht
      · omega
      · have:=a t ht;omega
    · rcases List.mem_cons.1 ht with rfl | ht
      · exact ⟨by omega,by omega⟩
      · exact c t ht
theorem rmErr_ok {n:Int} {l:List Rm} (h:rmErr n l = 0):IncR l∧∀ r ∈ l,(0 ≤ r.s∧r.s < n)∧(r.r = 1 ∨ r.r = 2 ∨ r.r = 3):=(rmErrG_ok h).2
theorem rmErrG_of {n:Int}:∀ {l:List Rm} {q:Option Int},(∀ v,q = some v → ∀ r ∈ l,v < r.s) → IncR l → (∀ r ∈ l,(0 ≤ r.s∧r.s < n)∧(r.r = 1 ∨ r.r = 2 ∨ r.r = 3)) → rmErrG n q l = 0
  | [],_,_,_,_=>rfl
  | r :: l,q,h1,h2,h3=>by
    rw [IncR,List.pairwise_cons] at h2
    have h:=h3 r List.mem_cons_self
    unfold rmErrG
    rw [if_neg (by omega),if_neg,if_neg (by omega)]
    · exact rmErrG_of (fun v hv t ht=>by injection hv with hv;rw [← hv];exact h2.1 t ht) h2.2 fun t ht=>h3 t (List.mem_cons_of_mem _ ht)
    · cases q with
      | none=>simp
      | some v =>
        have:=h1 v rfl r List.mem_cons_self
        simp only [Option.any_some,decide_eq_true_eq]
        omega
theorem setErrG_fit {n:Int}:∀ {l:List Int} {q:Option Int},(∀ v,q = some v → ∀ x ∈ l,v < x) → Inc l → (∀ x ∈ l,0 ≤ x∧x < n) → setErrG n q l = 0
  | [],_,_,_,_=>by unfold setErrG;rfl
  | x :: l,q,h1,h2,h3=>by
    rw [Inc,List.pairwise_cons] at h2
    have h:=h3 x List.mem_cons_self
    have ih:=setErrG_fit (n:=n) (l:=l) (q:=some x) (fun v hv t ht=>by injection hv with hv;rw [← hv];exact h2.1 t ht) h2.2 fun t ht=>h3 t (List.mem_cons_of_mem _ ht)
    cases q with
    | none =>
      have e:=setErrG_first (l:=x :: l) (k:=0) (n:=n) (x:=x) rfl (by omega)
      rw [List.drop_zero] at e
      rw [e]
      exact ih
    | some v =>
      have e:=setErrG_next (l:=x :: l) (k:=0) (n:=n) (x:=x) (q:=v) rfl (by omega) (by have:=h1 v rfl x List.mem_cons_self;omega)
      rw [List.drop_zero] at e
      rw [e]
      exact ih
theorem setErr_fit {n:Int} {l:List Int} (h1:Inc l) (h2:∀ x ∈ l,0 ≤ x∧x < n):setErr l n = 0:=setErrG_fit (fun v hv=>by cases hv) h1 h2
def frmE (n:Int) (c:Ce):Int:=if setErr c.kp n ≠ 0 then setErr c.kp n else if c.ds.length ≠ c.kp.length then 4 else rmErr n c.rm
structure FOk (n:Int) (c:Ce):Prop where
  kinc:Inc c.kp
  krng:∀ s ∈ c.kp,0 ≤ s∧s < n
  dlen:c.ds.length = c.kp.length
  rinc:IncR c.rm
  rrng:∀ r ∈ c.rm,0 ≤ r.s∧r.s < n
  rknd:∀ r ∈ c.rm,r.r = 1 ∨ r.r = 2 ∨ r.r = 3
theorem frmE_ok {n:Int} {c:Ce} (h:frmE n c = 0):FOk n c:=by
  unfold frmE at h
  split at h
  · rename_i h1;exact absurd h h1
  rename_i h1
  split at h
  · omega
  rename_i h2
  have a:=setErr_inc (Classical.byContradiction h1)
  have b:=rmErr_ok h
  exact ⟨a.1,a.2,by omega,b.1,fun r hr=>(b.2 r hr).1,fun r hr=>(b.2 r hr).2⟩
theorem FOk.err {n:Int} {c:Ce} (h:FOk n c):frmE n c = 0:=by
  unfold frmE
  rw [if_neg (by rw [setErr_fit h.kinc h.krng];simp),if_neg (by have:=h.dlen;omega)]
  exact rmErrG_of (fun v hv=>by cases hv) h.rinc fun r hr=>⟨h.rrng r hr,h.rknd r hr⟩
structure KOk (p:Mx) (c:Ce) (s d:Int):Prop where
  fo:s ∉ p.f
  un:∀ x ∈ p.a.ed,x.f = s → hasB p.u x.e = true → x.t ∈ c.kp
  pos:0 ≤ d
  zero:d = 0 → s ∈ p.a.ma
  down:d ≠ 0 → ∃ x ∈ p.a.ed,x.f = s∧∃ (j:Nat) (e:Int),c.kp[j]? = some x.t∧c.ds[j]? = some e∧e < d
structure ROk (p:Mx) (c:Ce) (r:Rm):Prop where
  rk:1 ≤ r.k∧r.k ≤ 4097
  fo:r.r = 1 → r.e = -1∧r.s ∈ p.f
  un:r.r = 2 → ∃ x ∈ p.a.ed,x.f = r.s∧x.e = r.e∧hasB p.u x.e = true∧∃ y ∈ c.rm,y.s = x.t∧y.k < r.k
  bl:r.r = 3 → r.e = -1∧r.s ∉ p.a.ma∧∀ x ∈ p.a.ed,x.f = r.s → ∃ y ∈ c.rm,y.s = x.t∧(y.k < r.k ∨ (y.k = r.k∧y.r = 3))
structure VOk (p:Mx) (c:Ce):Prop where
  part:∀ s,0 ≤ s → s < p.a.st → (s ∈ c.kp ↔ ¬ ∃ r ∈ c.rm,r.s = s)
  kpt:∀ (i:Nat) (s d:Int),c.kp[i]? = some s → c.ds[i]? = some d → KOk p c s d
  rmv:∀ r ∈ c.rm,ROk p c r
def VerIs (p:Mx) (c:Ce) (v:Int):Prop:=(frmE p.a.st c ≠ 0∧v = frmE p.a.st c) ∨ (frmE p.a.st c = 0∧((VOk p c∧v = 0) ∨ (¬ VOk p c∧v = 24)))
theorem VerIs.unique {p:Mx} {c:Ce} {v u:Int} (h:VerIs p c v) (k:VerIs p c u):v = u:=by
  rcases h with ⟨h1,h2⟩ | ⟨h1,h2⟩ <;> rcases k with ⟨k1,k2⟩ | ⟨k1,k2⟩
  · rw [h2,k2]
  · exact absurd k1 h1
  · exact absurd h1 k1
  · rcases h2 with ⟨h2,h3⟩ | ⟨h2,h3⟩ <;> rcases k2 with ⟨k2,k3⟩ | ⟨k2,k3⟩
    · rw [h3,k3]
    · exact absurd h2 k2
    · exact absurd k2 h2
    · rw [h3,k3]
theorem VerIs.ok {p:Mx} {c:Ce} (h:VerIs p c 0):FOk p.a.st c∧VOk p c:=by
  rcases h with ⟨h1,h2⟩ | ⟨h1,⟨h2,_⟩ | ⟨_,h3⟩⟩
  · exact absurd h2.symm h1
  · exact ⟨frmE_ok h1,h2⟩
  · omega
theorem VerIs.of {p:Mx} {c:Ce} (h:FOk p.a.st c) (k:VOk p c):VerIs p c 0:=.inr ⟨h.err,.inl ⟨k,rfl⟩⟩
structure Adm (p:Mx) (A:Int → Prop) (N:List Bool):Prop where
  fo:∀ s,A s → s ∉ p.f
  un:∀ x ∈ p.a.ed,A x.f → hasB p.u x.e = true → A x.t
  go:∀ s,A s → ∃ d,Dp p.a.ed N p.a.ma s d
section
variable {p:Mx} {c:Ce}
theorem VOk.great (h:VOk p c) (hf:FOk p.a.st c) (hw:WF p.a) {N:List Bool} {A:Int → Prop} (hA:Adm p A N) (hN:∀ s,0 ≤ s → s < p.a.st → fl N s = true → A s) (hr:∀ s,A s → 0 ≤ s∧s < p.a.st) {s:Int} (hs:A s):s ∈ c.kp:=by
  have key:∀ (k:Nat) (r:Rm),r ∈ c.rm → r.k < (k:Int) → ¬ A r.s:=by
    intro k
    induction k with
    | zero=>intro r hrm hk;have:=(h.rmv r hrm).rk;omega
    | succ k ih =>
      intro r hrm hk ha
      have o:=h.rmv r hrm
      have hblk:∀ s d,Dp p.a.ed N p.a.ma s d → ∀ q ∈ c.rm,q.k < ((k + 1:Nat):Int) → q.r = 3 → q.s ≠ s:=by
        intro s d hd
        induction hd with
        | mk _ hm =>
          intro q hq _ h3 e
          exact ((h.rmv q hq).bl h3).2.1 (e ▸ hm)
        | st hx _ hd ihd =>
          intro q hq hqk h3 e
          obtain ⟨y,hy,hys,hyk⟩:=((h.rmv q hq).bl h3).2.2 _ hx e.symm
          rcases hyk with hyk | ⟨hyk,hy3⟩
          · have hg:=hw.ev_rng hx
            exact ih y hy (by omega) (by rw [hys];exact hN _ hg.2.2.1 hg.2.2.2.1 hd.in_)
          · exact ihd y hy (by omega) hy3 hys
      by_cases h1:r.r = 1
      · exact hA.fo _ ha (o.fo h1).2
      · by_cases h2:r.r = 2
        · obtain ⟨x,hx,hxf,_,hu,y,hy,hys,hyk⟩:=o.un h2
          exact ih y hy (by omega) (by rw [hys];exact hA.un x hx (by rw [hxf];exact ha) hu)
        · have h3:r.r = 3:=by have:=hf.rknd r hrm;omega
          obtain ⟨d,hd⟩:=hA.go _ ha
          exact hblk _ d hd r hrm (by omega) h3 rfl
  have hg:=hr s hs
  apply (h.part s hg.1 hg.2).2
  rintro ⟨r,hrm,rfl⟩
  exact key (r.k.toNat + 1) r hrm (by omega) hs
theorem VOk.adm (h:VOk p c) (hf:FOk p.a.st c) {N:List Bool} (hN:∀ s,0 ≤ s → s < p.a.st → (fl N s = true ↔ s ∈ c.kp)):Adm p (fun s=>s ∈ c.kp) N:=by
  have hat:∀ s,s ∈ c.kp → ∃ (i:Nat) (d:Int),c.kp[i]? = some s∧c.ds[i]? = some d:=fun s hs=>by
    obtain ⟨i,hi⟩:=List.getElem?_of_mem hs
    have hil:i < c.ds.length:=by rw [hf.dlen];exact (List.getElem?_eq_some_iff.1 hi).1
    exact ⟨i,_,hi,List.getElem?_eq_getElem hil⟩
  refine ⟨fun s hs=>?_,fun x hx hxf hu=>?_,fun s hs=>?_⟩
  · obtain ⟨i,d,h1,h2⟩:=hat s hs
    exact (h.kpt i s d h1 h2).fo
  · obtain ⟨i,d,h1,h2⟩:=hat _ hxf
    exact (h.kpt i _ d h1 h2).un x hx rfl hu
  · obtain ⟨i,d,h1,h2⟩:=hat s hs
    have key:∀ (k:Nat) (i:Nat) (s d:Int),c.kp[i]? = some s → c.ds[i]? = some d → d < (k:Int) → ∃ d,Dp p.a.ed N p.a.ma s d:=by
      intro k
      induction k with
      | zero=>intro i s d h1 h2 hk;have:=(h.kpt i s d h1 h2).pos;omega
      | succ k ih =>
        intro i s d h1 h2 hk
        have o:=h.kpt i s d h1 h2
        have hsm:=List.mem_of_getElem? h1
        have hg:=hf.krng s hsm
        have hfl:=(hN s hg.1 hg.2).2 hsm
        by_cases hd:d = 0
        · exact ⟨0,.mk hfl (o.zero hd)⟩
        · obtain ⟨x,hx,hxf,j,e,h3,h4,h5⟩:=o.down hd
          obtain ⟨m,hm⟩:=ih j x.t e h3 h4 (by omega)
          exact ⟨m + 1,hxf ▸ .st hx (by rw [hxf];exact hfl) hm⟩
    exact key (d.toNat + 1) i s d h1 h2 (by have:=(h.kpt i s d h1 h2).pos;omega)
theorem prvC_ok (h:p.ok):FOk p.a.st (prvC p)∧VOk p (prvC p):=by
  obtain ⟨k,o,hq⟩:=prvS_spec h
  have hbl:blL p (prvS p).1 k = []∧ldL p (prvS p).1 k = []:=by
    unfold rndS at hq
    split at hq
    · rename_i h1;exact ⟨hq,h1⟩
    · rename_i h1;exact absurd hq h1
  have ekp:(prvC p).kp = onF (prvS p).1:=by unfold prvC;rfl
  have eds:(prvC p).ds = (onF (prvS p).1).map (dstF p.a (prvS p).1):=by unfold prvC;rfl
  have hkm:∀ s,s ∈ (prvC p).kp ↔ (0 ≤ s∧s < p.a.st)∧fl (prvS p).1 s = true:=fun s=>by
    show s ∈ onF _ ↔ _
    rw [onF_mem,o.len]
  have hrm:∀ r,r ∈ (prvC p).rm ↔ r ∈ (prvS p).2:=fun r=>by
    show r ∈ srtR _ _ ↔ _
    rw [srtR_mem]
    exact ⟨fun h=>h.1,fun h=>⟨h,o.rng r h⟩⟩
  have hfl:∀ s,0 ≤ s → s < p.a.st → fl (prvS p).1 s = true → 0 ≤ dstF p.a (prvS p).1 s:=fun s h0 h1 hs=>by
    apply Classical.byContradiction
    intro hn
    have:(⟨s,k,3,-1⟩:Rm) ∈ blL p (prvS p).1 k:=blL_mem.2 ⟨⟨⟨h0,by rw [o.len];exact h1⟩,hs⟩,rfl,rfl,rfl,by show dstF _ _ s < 0;omega⟩
    rw [hbl.1] at this
    cases this
  have hds:∀ (i:Nat) (s d:Int),(prvC p).kp[i]? = some s → (prvC p).ds[i]? = some d → d = dstF p.a (prvS p).1 s:=fun i s d h1 h2=>by
    rw [ekp] at h1
    rw [eds] at h2
    rw [List.getElem?_map,h1] at h2
    injection h2 with h2
    exact h2.symm
  refine ⟨⟨onF_inc _,fun s hs=>((hkm s).1 hs).1,by rw [eds,ekp,List.length_map],srtR_inc o.uni,fun r hr=>o.rng r ((hrm r).1 hr),fun r hr=>o.knd r ((hrm r).1 hr)⟩,⟨fun s h0 h1=>?_,fun i s d h1 h2=>?_,fun r hr=>?_⟩⟩
  · rw [hkm s]
    constructor
    · rintro ⟨_,hs⟩ ⟨r,hr,e⟩
      rw [(o.out s h0 h1).2 ⟨r,(hrm r).1 hr,e⟩] at hs
      cases hs
    · intro hno
      refine ⟨⟨h0,h1⟩,?_⟩
      cases hs:fl (prvS p).1 s with
      | true=>rfl
      | false =>
        obtain ⟨r,hr,e⟩:=(o.out s h0 h1).1 hs
        exact absurd ⟨r,(hrm r).2 hr,e⟩ hno
  · have hm:=(hkm s).1 (List.mem_of_getElem? h1)
    have hd:=hds i s d h1 h2
    have hok:=dstF_ok h.wf hm.1.1 hm.1.2 hm.2
    rw [← hd] at hok
    have hpos:=hfl s hm.1.1 hm.1.2 hm.2
    rw [← hd] at hpos
    refine ⟨fun hf=>?_,fun x hx hxf hu=>?_,hpos,fun hz=>?_,fun hz=>?_⟩
    · rw [o.frb s hf] at hm
      exact absurd hm.2 (by simp)
    · have hg:=h.wf.ev_rng hx
      refine (hkm _).2 ⟨⟨hg.2.2.1,hg.2.2.2.1⟩,?_⟩
      cases hs:fl (prvS p).1 x.t with
      | true=>rfl
      | false =>
        have hl:ldP p (prvS p).1 s x = true:=by unfold ldP;rw [hu,hs,decide_eq_true hxf];rfl
        cases hq:p.a.ed.find? (ldP p (prvS p).1 s) with
        | none=>exact absurd hl (by simpa using List.find?_eq_none.1 hq x hx)
        | some y =>
          have:(⟨s,k,2,y.e⟩:Rm) ∈ ldL p (prvS p).1 k:=ldL_mem.2 ⟨⟨⟨hm.1.1,by rw [o.len];exact hm.1.2⟩,hm.2⟩,rfl,rfl,y,hq,rfl⟩
          rw [hbl.2] at this
          cases this
    · rcases hok with ⟨hv,_⟩ | ⟨e,hv,hdp,_⟩
      · omega
      · obtain rfl:e = 0:=by omega
        cases hdp with
        | mk _ hma=>exact hma
    · rcases hok with ⟨hv,_⟩ | ⟨e,hv,hdp,hle⟩
      · omega
      · cases hdp with
        | mk _ hma=>exact absurd hv (by omega)
        | st hx hf hdp =>
          rename_i x e
          have hg:=h.wf.ev_rng hx
          have hxk:=(hkm x.t).2 ⟨⟨hg.2.2.1,hg.2.2.2.1⟩,hdp.in_⟩
          obtain ⟨j,hj⟩:=List.getElem?_of_mem hxk
          refine ⟨x,hx,rfl,j,dstF p.a (prvS p).1 x.t,hj,?_,?_⟩
          · rw [ekp] at hj
            rw [eds,List.getElem?_map,hj]
            rfl
          · rcases dstF_ok h.wf hg.2.2.1 hg.2.2.2.1 hdp.in_ with ⟨hv2,_⟩ | ⟨m,hv2,_,hm2⟩
            · omega
            · have:=hm2 e hdp
              omega
  · have hr:=(hrm r).1 hr
    have hk:=o.rks r hr
    have hlen:=o.few h
    have hst:=h.wf.st1
    refine ⟨⟨hk.1,by have:=o.num;omega⟩,o.fo r hr,fun h2=>?_,fun h3=>?_⟩
    · obtain ⟨x,hx,a,b,c,y,hy,d⟩:=o.un r hr h2
      exact ⟨x,hx,a,b,c,y,(hrm y).2 hy,d⟩
    · obtain ⟨a,b,c⟩:=o.bl r hr h3
      refine ⟨a,b,fun x hx hxf=>?_⟩
      obtain ⟨y,hy,d⟩:=c x hx hxf
      exact ⟨y,(hrm y).2 hy,d⟩
end
end Go.Proofs.Ytdnmpndnpfklcaa
