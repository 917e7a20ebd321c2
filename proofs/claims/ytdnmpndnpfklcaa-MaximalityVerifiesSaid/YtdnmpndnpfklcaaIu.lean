/- Plain: what Verify says, and the greatest set (chapter 28). -/
import Derived.Test.YtdnmpndnpfklcaaIe

namespace Go.Proofs.Ytdnmpndnpfklcaa
open Go
def rmErrG (n:Int):Option Int → List Rm → Int
 | _,[]=>0
 | q,r :: l=>if r.s < 0 ∨ n ≤ r.s then 2 else if q.any (fun v=>decide (r.s ≤ v)) = true then 5 else if r.r ≠ 1∧r.r ≠ 2∧r.r ≠ 3 then 11 else rmErrG n (some r.s) l
def rmErr (n:Int) (l:List Rm):Int:=rmErrG n none l
theorem rmErrG_ok {n:Int}:∀ {l:List Rm} {q:Option Int},rmErrG n q l = 0 → (∀ v,q = some v → ∀ r ∈ l,v < r.s)∧IncR l∧∀ r ∈ l,(0 ≤ r.s∧r.s < n)∧(r.r = 1 ∨ r.r = 2 ∨ r.r = 3)
 | [],_,_=>⟨fun _ _ r hr=>(by cases hr),List.Pairwise.nil,fun r hr=>(by cases hr)⟩
 | r :: l,q,h=>by
  unfold rmErrG at h
  split at h
  ·omega
  rename_i h1
  split at h
  ·omega
  rename_i h2
  split at h
  ·omega
  rename_i h3
  obtain ⟨a,b,c⟩:=rmErrG_ok h
  have a:=a r.s rfl
  refine ⟨fun v hv t ht=>?_,List.pairwise_cons.2 ⟨a,b⟩,fun t ht=>?_⟩
  ·rw [hv] at h2
   simp only [Option.any_some,decide_eq_true_eq] at h2
   rcases List.mem_cons.1 ht with rfl | ht
   ·omega
   ·have:=a t ht;omega
  ·rcases List.mem_cons.1 ht with rfl | ht
   ·exact ⟨by omega,by omega⟩
   ·exact c t ht
theorem rmErr_ok {n:Int} {l:List Rm} (h:rmErr n l = 0):IncR l∧∀ r ∈ l,(0 ≤ r.s∧r.s < n)∧(r.r = 1 ∨ r.r = 2 ∨ r.r = 3):=(rmErrG_ok h).2
theorem rmErrG_of {n:Int}:∀ {l:List Rm} {q:Option Int},(∀ v,q = some v → ∀ r ∈ l,v < r.s) → IncR l → (∀ r ∈ l,(0 ≤ r.s∧r.s < n)∧(r.r = 1 ∨ r.r = 2 ∨ r.r = 3)) → rmErrG n q l = 0
 | [],_,_,_,_=>rfl
 | r :: l,q,h1,h2,h3=>by
  rw [IncR,List.pairwise_cons] at h2
  have h:=h3 r List.mem_cons_self
  unfold rmErrG
  rw [if_neg (by omega),if_neg,if_neg (by omega)]
  ·exact rmErrG_of (fun v hv t ht=>by injection hv with hv;rw [← hv];exact h2.1 t ht) h2.2 fun t ht=>h3 t (List.mem_cons_of_mem _ ht)
  ·cases q with
   | none=>simp
   | some v =>
    have:=h1 v rfl r List.mem_cons_self
    simp only [Option.any_some,decide_eq_true_eq]
    omega
theorem setErrG_fit {n:Int}:∀ {l:List Int} {q:Option Int},(∀ v,q = some v → ∀ x ∈ l,v < x) → Inc l → (∀ x ∈ l,0 ≤ x∧x < n) → setErrG n q l = 0
 | [],_,_,_,_=>by unfold setErrG;rfl
 | x :: l,q,h1,h2,h3=>by
  rw [Inc,List.pairwise_cons] at h2
  have h:=h3 x List.mem_cons_self
  have ih:=setErrG_fit (n:=n) (l:=l) (q:=some x) (fun v hv t ht=>by injection hv with hv;rw [← hv];exact h2.1 t ht) h2.2 fun t ht=>h3 t (List.mem_cons_of_mem _ ht)
  cases q with
  | none =>
   have e:=setErrG_first (l:=x :: l) (k:=0) (n:=n) (x:=x) rfl (by omega)
   rw [List.drop_zero] at e
   rw [e]
   exact ih
  | some v =>
   have e:=setErrG_next (l:=x :: l) (k:=0) (n:=n) (x:=x) (q:=v) rfl (by omega) (by have:=h1 v rfl x List.mem_cons_self;omega)
   rw [List.drop_zero] at e
   rw [e]
   exact ih
theorem setErr_fit {n:Int} {l:List Int} (h1:Inc l) (h2:∀ x ∈ l,0 ≤ x∧x < n):setErr l n = 0:=setErrG_fit (fun v hv=>by cases hv) h1 h2
def frmE (n:Int) (c:Ce):Int:=if setErr c.kp n ≠ 0 then setErr c.kp n else if c.ds.length ≠ c.kp.length then 4 else rmErr n c.rm
structure FOk (n:Int) (c:Ce):Prop where
 kinc:Inc c.kp
 krng:∀ s ∈ c.kp,0 ≤ s∧s < n
 dlen:c.ds.length = c.kp.length
 rinc:IncR c.rm
 rrng:∀ r ∈ c.rm,0 ≤ r.s∧r.s < n
 rknd:∀ r ∈ c.rm,r.r = 1 ∨ r.r = 2 ∨ r.r = 3
theorem frmE_ok {n:Int} {c:Ce} (h:frmE n c = 0):FOk n c:=by
 unfold frmE at h
 split at h
 ·rename_i h1;exact absurd h h1
 rename_i h1
 split at h
 ·omega
 rename_i h2
 have a:=setErr_inc (Classical.byContradiction h1)
 have b:=rmErr_ok h
 exact ⟨a.1,a.2,by omega,b.1,fun r hr=>(b.2 r hr).1,fun r hr=>(b.2 r hr).2⟩
theorem FOk.err {n:Int} {c:Ce} (h:FOk n c):frmE n c = 0:=by
 unfold frmE
 rw [if_neg (by rw [setErr_fit h.kinc h.krng];simp),if_neg (by have:=h.dlen;omega)]
 exact rmErrG_of (fun v hv=>by cases hv) h.rinc fun r hr=>⟨h.rrng r hr,h.rknd r hr⟩
structure KOk (p:Mx) (c:Ce) (s d:Int):Prop where
 fo:s ∉ p.f
 un:∀ x ∈ p.a.ed,x.f = s → hasB p.u x.e = true → x.t ∈ c.kp
 pos:0 ≤ d
 zero:d = 0 → s ∈ p.a.ma
 down:d ≠ 0 → ∃ x ∈ p.a.ed,x.f = s∧∃ (j:Nat) (e:Int),c.kp[j]? = some x.t∧c.ds[j]? = some e∧e < d
structure ROk (p:Mx) (c:Ce) (r:Rm):Prop where
 rk:1 ≤ r.k∧r.k ≤ 4097
 fo:r.r = 1 → r.e = -1∧r.s ∈ p.f
 un:r.r = 2 → ∃ x ∈ p.a.ed,x.f = r.s∧x.e = r.e∧hasB p.u x.e = true∧∃ y ∈ c.rm,y.s = x.t∧y.k < r.k
 bl:r.r = 3 → r.e = -1∧r.s ∉ p.a.ma∧∀ x ∈ p.a.ed,x.f = r.s → ∃ y ∈ c.rm,y.s = x.t∧(y.k < r.k ∨ (y.k = r.k∧y.r = 3))
structure VOk (p:Mx) (c:Ce):Prop where
 part:∀ s,0 ≤ s → s < p.a.st → (s ∈ c.kp ↔ ¬ ∃ r ∈ c.rm,r.s = s)
 kpt:∀ (i:Nat) (s d:Int),c.kp[i]? = some s → c.ds[i]? = some d → KOk p c s d
 rmv:∀ r ∈ c.rm,ROk p c r
def VerIs (p:Mx) (c:Ce) (v:Int):Prop:=(frmE p.a.st c ≠ 0∧v = frmE p.a.st c) ∨ (frmE p.a.st c = 0∧((VOk p c∧v = 0) ∨ (¬ VOk p c∧v = 24)))
theorem VerIs.unique {p:Mx} {c:Ce} {v u:Int} (h:VerIs p c v) (k:VerIs p c u):v = u:=by
 rcases h with ⟨h1,h2⟩ | ⟨h1,h2⟩ <;> rcases k with ⟨k1,k2⟩ | ⟨k1,k2⟩
 ·rw [h2,k2]
 ·exact absurd k1 h1
 ·exact absurd h1 k1
 ·rcases h2 with ⟨h2,h3⟩ | ⟨h2,h3⟩ <;> rcases k2 with ⟨k2,k3⟩ | ⟨k2,k3⟩
  ·rw [h3,k3]
  ·exact absurd h2 k2
  ·exact absurd k2 h2
  ·rw [h3,k3]
theorem VerIs.ok {p:Mx} {c:Ce} (h:VerIs p c 0):FOk p.a.st c∧VOk p c:=by
 rcases h with ⟨h1,h2⟩ | ⟨h1,⟨h2,_⟩ | ⟨_,h3⟩⟩
 ·exact absurd h2.symm h1
 ·exact ⟨frmE_ok h1,h2⟩
 ·omega
theorem VerIs.of {p:Mx} {c:Ce} (h:FOk p.a.st c) (k:VOk p c):VerIs p c 0:=.inr ⟨h.err,.inl ⟨k,rfl⟩⟩
structure Adm (p:Mx) (A:Int → Prop) (N:List Bool):Prop where
 fo:∀ s,A s → s ∉ p.f
 un:∀ x ∈ p.a.ed,A x.f → hasB p.u x.e = true → A x.t
 go:∀ s,A s → ∃ d,Dp p.a.ed N p.a.ma s d
section
variable {p:Mx} {c:Ce}
theorem VOk.great (h:VOk p c) (hf:FOk p.a.st c) (hw:WF p.a) {N:List Bool} {A:Int → Prop} (hA:Adm p A N) (hN:∀ s,0 ≤ s → s < p.a.st → fl N s = true → A s) (hr:∀ s,A s → 0 ≤ s∧s < p.a.st) {s:Int} (hs:A s):s ∈ c.kp:=by
 have key:∀ (k:Nat) (r:Rm),r ∈ c.rm → r.k < (k:Int) → ¬ A r.s:=by
  intro k
  induction k with
  | zero=>intro r hrm hk;have:=(h.rmv r hrm).rk;omega
  | succ k ih =>
   intro r hrm hk ha
   have o:=h.rmv r hrm
   have hblk:∀ s d,Dp p.a.ed N p.a.ma s d → ∀ q ∈ c.rm,q.k < ((k + 1:Nat):Int) → q.r = 3 → q.s ≠ s:=by
    intro s d hd
    induction hd with
    | mk _ hm =>
     intro q hq _ h3 e
     exact ((h.rmv q hq).bl h3).2.1 (e ▸ hm)
    | st hx _ hd ihd =>
     intro q hq hqk h3 e
     obtain ⟨y,hy,hys,hyk⟩:=((h.rmv q hq).bl h3).2.2 _ hx e.symm
     rcases hyk with hyk | ⟨hyk,hy3⟩
     ·have hg:=hw.ev_rng hx
      exact ih y hy (by omega) (by rw [hys];exact hN _ hg.2.2.1 hg.2.2.2.1 hd.in_)
     ·exact ihd y hy (by omega) hy3 hys
   by_cases h1:r.r = 1
   ·exact hA.fo _ ha (o.fo h1).2
   ·by_cases h2:r.r = 2
    ·obtain ⟨x,hx,hxf,_,hu,y,hy,hys,hyk⟩:=o.un h2
     exact ih y hy (by omega) (by rw [hys];exact hA.un x hx (by rw [hxf];exact ha) hu)
    ·have h3:r.r = 3:=by have:=hf.rknd r hrm;omega
     obtain ⟨d,hd⟩:=hA.go _ ha
     exact hblk _ d hd r hrm (by omega) h3 rfl
 have hg:=hr s hs
 apply (h.part s hg.1 hg.2).2
 rintro ⟨r,hrm,rfl⟩
 exact key (r.k.toNat + 1) r hrm (by omega) hs
theorem VOk.adm (h:VOk p c) (hf:FOk p.a.st c) {N:List Bool} (hN:∀ s,0 ≤ s → s < p.a.st → (fl N s = true ↔ s ∈ c.kp)):Adm p (fun s=>s ∈ c.kp) N:=by
 have hat:∀ s,s ∈ c.kp → ∃ (i:Nat) (d:Int),c.kp[i]? = some s∧c.ds[i]? = some d:=fun s hs=>by
  obtain ⟨i,hi⟩:=List.getElem?_of_mem hs
  have hil:i < c.ds.length:=by rw [hf.dlen];exact (List.getElem?_eq_some_iff.1 hi).1
  exact ⟨i,_,hi,List.getElem?_eq_getElem hil⟩
 refine ⟨fun s hs=>?_,fun x hx hxf hu=>?_,fun s hs=>?_⟩
 ·obtain ⟨i,d,h1,h2⟩:=hat s hs
  exact (h.kpt i s d h1 h2).fo
 ·obtain ⟨i,d,h1,h2⟩:=hat _ hxf
  exact (h.kpt i _ d h1 h2).un x hx rfl hu
 ·obtain ⟨i,d,h1,h2⟩:=hat s hs
  have key:∀ (k:Nat) (i:Nat) (s d:Int),c.kp[i]? = some s → c.ds[i]? = some d → d < (k:Int) → ∃ d,Dp p.a.ed N p.a.ma s d:=by
   intro k
   induction k with
   | zero=>intro i s d h1 h2 hk;have:=(h.kpt i s d h1 h2).pos;omega
   | succ k ih =>
    intro i s d h1 h2 hk
    have o:=h.kpt i s d h1 h2
    have hsm:=List.mem_of_getElem? h1
    have hg:=hf.krng s hsm
    have hfl:=(hN s hg.1 hg.2).2 hsm
    by_cases hd:d = 0
    ·exact ⟨0,.mk hfl (o.zero hd)⟩
    ·obtain ⟨x,hx,hxf,j,e,h3,h4,h5⟩:=o.down hd
     obtain ⟨m,hm⟩:=ih j x.t e h3 h4 (by omega)
     exact ⟨m + 1,hxf ▸ .st hx (by rw [hxf];exact hfl) hm⟩
  exact key (d.toNat + 1) i s d h1 h2 (by have:=(h.kpt i s d h1 h2).pos;omega)
theorem flags_of {n:Int} (l:List Int):∃ N:List Bool,N.length = n.toNat∧∀ s:Int,0 ≤ s → s < n → (fl N s = true ↔ s ∈ l):=by
 refine ⟨(rngI n).map fun s=>hasB l s,by rw [List.length_map,rngI_len],fun s h0 h1=>?_⟩
 unfold fl rngI
 rw [List.getD_eq_getElem?_getD,List.getElem?_map,List.getElem?_map,List.getElem?_range (by omega)]
 simp only [Option.map_some,Option.getD_some]
 rw [show ((s.toNat:Nat):Int) = s by omega]
 exact hasB_mem
theorem kept_same {d:Ce} (hw:WF p.a) (h:VOk p c) (hf:FOk p.a.st c) (k:VOk p d) (kf:FOk p.a.st d):c.kp = d.kp:=by
 obtain ⟨N,_,hN⟩:=flags_of (n:=p.a.st) c.kp
 obtain ⟨M,_,hM⟩:=flags_of (n:=p.a.st) d.kp
 refine srt_ext (lt:=fun x y:Int=>x < y) (fun x=>by omega) (fun x y=>by omega) hf.kinc kf.kinc fun s=>⟨fun hs=>?_,fun hs=>?_⟩
 ·exact k.great kf hw (h.adm hf hN) (fun s h0 h1=>(hN s h0 h1).1) (fun s hs=>hf.krng s hs) hs
 ·exact h.great hf hw (k.adm kf hM) (fun s h0 h1=>(hM s h0 h1).1) (fun s hs=>kf.krng s hs) hs
theorem prvC_ok (h:p.ok):FOk p.a.st (prvC p)∧VOk p (prvC p):=by
 obtain ⟨k,o,hq⟩:=prvS_spec h
 have hbl:blL p (prvS p).1 k = []∧ldL p (prvS p).1 k = []:=by
  unfold rndS at hq
  split at hq
  ·rename_i h1;exact ⟨hq,h1⟩
  ·rename_i h1;exact absurd hq h1
 have ekp:(prvC p).kp = onF (prvS p).1:=by unfold prvC;rfl
 have eds:(prvC p).ds = (onF (prvS p).1).map (dstF p.a (prvS p).1):=by unfold prvC;rfl
 have hkm:∀ s,s ∈ (prvC p).kp ↔ (0 ≤ s∧s < p.a.st)∧fl (prvS p).1 s = true:=fun s=>by
  show s ∈ onF _ ↔ _
  rw [onF_mem,o.len]
 have hrm:∀ r,r ∈ (prvC p).rm ↔ r ∈ (prvS p).2:=fun r=>by
  show r ∈ srtR _ _ ↔ _
  rw [srtR_mem]
  exact ⟨fun h=>h.1,fun h=>⟨h,o.rng r h⟩⟩
 have hfl:∀ s,0 ≤ s → s < p.a.st → fl (prvS p).1 s = true → 0 ≤ dstF p.a (prvS p).1 s:=fun s h0 h1 hs=>by
  apply Classical.byContradiction
  intro hn
  have:(⟨s,k,3,-1⟩:Rm) ∈ blL p (prvS p).1 k:=blL_mem.2 ⟨⟨⟨h0,by rw [o.len];exact h1⟩,hs⟩,rfl,rfl,rfl,by show dstF _ _ s < 0;omega⟩
  rw [hbl.1] at this
  cases this
 have hds:∀ (i:Nat) (s d:Int),(prvC p).kp[i]? = some s → (prvC p).ds[i]? = some d → d = dstF p.a (prvS p).1 s:=fun i s d h1 h2=>by
  rw [ekp] at h1
  rw [eds] at h2
  rw [List.getElem?_map,h1] at h2
  injection h2 with h2
  exact h2.symm
 refine ⟨⟨onF_inc _,fun s hs=>((hkm s).1 hs).1,by rw [eds,ekp,List.length_map],srtR_inc o.uni,fun r hr=>o.rng r ((hrm r).1 hr),fun r hr=>o.knd r ((hrm r).1 hr)⟩,⟨fun s h0 h1=>?_,fun i s d h1 h2=>?_,fun r hr=>?_⟩⟩
 ·rw [hkm s]
  constructor
  ·rintro ⟨_,hs⟩ ⟨r,hr,e⟩
   rw [(o.out s h0 h1).2 ⟨r,(hrm r).1 hr,e⟩] at hs
   cases hs
  ·intro hno
   refine ⟨⟨h0,h1⟩,?_⟩
   cases hs:fl (prvS p).1 s with
   | true=>rfl
   | false =>
    obtain ⟨r,hr,e⟩:=(o.out s h0 h1).1 hs
    exact absurd ⟨r,(hrm r).2 hr,e⟩ hno
 ·have hm:=(hkm s).1 (List.mem_of_getElem? h1)
  have hd:=hds i s d h1 h2
  have hok:=dstF_ok h.wf hm.1.1 hm.1.2 hm.2
  rw [← hd] at hok
  have hpos:=hfl s hm.1.1 hm.1.2 hm.2
  rw [← hd] at hpos
  refine ⟨fun hf=>?_,fun x hx hxf hu=>?_,hpos,fun hz=>?_,fun hz=>?_⟩
  ·rw [o.frb s hf] at hm
   exact absurd hm.2 (by simp)
  ·have hg:=h.wf.ev_rng hx
   refine (hkm _).2 ⟨⟨hg.2.2.1,hg.2.2.2.1⟩,?_⟩
   cases hs:fl (prvS p).1 x.t with
   | true=>rfl
   | false =>
    have hl:ldP p (prvS p).1 s x = true:=by unfold ldP;rw [hu,hs,decide_eq_true hxf];rfl
    cases hq:p.a.ed.find? (ldP p (prvS p).1 s) with
    | none=>exact absurd hl (by simpa using List.find?_eq_none.1 hq x hx)
    | some y =>
     have:(⟨s,k,2,y.e⟩:Rm) ∈ ldL p (prvS p).1 k:=ldL_mem.2 ⟨⟨⟨hm.1.1,by rw [o.len];exact hm.1.2⟩,hm.2⟩,rfl,rfl,y,hq,rfl⟩
     rw [hbl.2] at this
     cases this
  ·rcases hok with ⟨hv,_⟩ | ⟨e,hv,hdp,_⟩
   ·omega
   ·obtain rfl:e = 0:=by omega
    cases hdp with
    | mk _ hma=>exact hma
  ·rcases hok with ⟨hv,_⟩ | ⟨e,hv,hdp,hle⟩
   ·omega
   ·cases hdp with
    | mk _ hma=>exact absurd hv (by omega)
    | st hx hf hdp =>
     rename_i x e
     have hg:=h.wf.ev_rng hx
     have hxk:=(hkm x.t).2 ⟨⟨hg.2.2.1,hg.2.2.2.1⟩,hdp.in_⟩
     obtain ⟨j,hj⟩:=List.getElem?_of_mem hxk
     refine ⟨x,hx,rfl,j,dstF p.a (prvS p).1 x.t,hj,?_,?_⟩
     ·rw [ekp] at hj
      rw [eds,List.getElem?_map,hj]
      rfl
     ·rcases dstF_ok h.wf hg.2.2.1 hg.2.2.2.1 hdp.in_ with ⟨hv2,_⟩ | ⟨m,hv2,_,hm2⟩
      ·omega
      ·have:=hm2 e hdp
       omega
 ·have hr:=(hrm r).1 hr
  have hk:=o.rks r hr
  have hlen:=o.few h
  have hst:=h.wf.st1
  refine ⟨⟨hk.1,by have:=o.num;omega⟩,o.fo r hr,fun h2=>?_,fun h3=>?_⟩
  ·obtain ⟨x,hx,a,b,c,y,hy,d⟩:=o.un r hr h2
   exact ⟨x,hx,a,b,c,y,(hrm y).2 hy,d⟩
  ·obtain ⟨a,b,c⟩:=o.bl r hr h3
   refine ⟨a,b,fun x hx hxf=>?_⟩
   obtain ⟨y,hy,d⟩:=c x hx hxf
   exact ⟨y,(hrm y).2 hy,d⟩
end
end Go.Proofs.Ytdnmpndnpfklcaa
/- Plain: the removals that lead to a cause, and the ranks (chapter 28). -/
namespace Go.Proofs.Ytdnmpndnpfklcaa
open Go
section
variable {p:Mx} {c:Ce}
def rmOf (c:Ce) (s:Int):Option Rm:=c.rm.find? fun r=>decide (r.s = s)
theorem rmOf_none {s:Int}:rmOf c s = none ↔ ¬ ∃ r ∈ c.rm,r.s = s:=by
 unfold rmOf
 rw [List.find?_eq_none]
 constructor
 ·rintro h ⟨r,hr,e⟩;exact h r hr (by simp [e])
 ·intro h r hr e;exact h ⟨r,hr,by simpa using e⟩
theorem incR_one {l:List Rm} (h:IncR l) {x y:Rm} (hx:x ∈ l) (hy:y ∈ l) (e:x.s = y.s):x = y:=by
 obtain ⟨i,hi,hxi⟩:=List.getElem_of_mem hx
 obtain ⟨j,hj,hyj⟩:=List.getElem_of_mem hy
 have hp:=List.pairwise_iff_getElem.1 h
 rcases Nat.lt_trichotomy i j with h1 | h1 | h1
 ·have:=hp i j hi hj h1;rw [hxi,hyj] at this;omega
 ·subst h1;rw [← hxi,← hyj]
 ·have:=hp j i hj hi h1;rw [hxi,hyj] at this;omega
theorem rmOf_some (hf:FOk p.a.st c) {s:Int} {r:Rm}:rmOf c s = some r ↔ r ∈ c.rm∧r.s = s:=by
 constructor
 ·intro h
  have h1:=List.find?_some h
  exact ⟨List.mem_of_find?_eq_some h,by simpa using h1⟩
 ·rintro ⟨h1,h2⟩
  cases hq:rmOf c s with
  | none=>exact absurd ⟨r,h1,h2⟩ (rmOf_none.1 hq)
  | some t =>
   have h3:=List.find?_some hq
   rw [incR_one hf.rinc (List.mem_of_find?_eq_some hq) h1 (by rw [h2];simpa using h3)]
inductive Exp (p:Mx) (c:Ce):Int → List Rm → Prop
 | fin {s:Int} {r:Rm}:rmOf c s = some r → r.r ≠ 2 → Exp p c s [r]
 | go {s:Int} {r:Rm} {l:List Rm}:rmOf c s = some r → r.r = 2 → Exp p c (nxt p.a s r.e) l → Exp p c s (r :: l)
theorem VOk.next (h:VOk p c) (hf:FOk p.a.st c) (hw:WF p.a) {s:Int} {r:Rm} (hr:rmOf c s = some r) (h2:r.r = 2):∃ y,rmOf c (nxt p.a s r.e) = some y∧y.k < r.k∧∃ x ∈ p.a.ed,x.f = s∧x.e = r.e∧x.t = nxt p.a s r.e:=by
 obtain ⟨hrm,hrs⟩:=(rmOf_some hf).1 hr
 obtain ⟨x,hx,hxf,hxe,_,y,hy,hys,hyk⟩:=(h.rmv r hrm).un h2
 have hn:nxt p.a s r.e = x.t:=nxtE_of hw.einc hx (hxf.trans hrs) hxe
 exact ⟨y,(rmOf_some hf).2 ⟨hy,by rw [hn];exact hys⟩,hyk,x,hx,hxf.trans hrs,hxe,hn.symm⟩
theorem Exp.unique {s:Int} {l m:List Rm} (h:Exp p c s l) (k:Exp p c s m):l = m:=by
 induction h generalizing m with
 | fin hr h2 =>
  cases k with
  | fin hr' _=>rw [hr] at hr';injection hr' with e;rw [e]
  | go hr' h2' _=>rw [hr] at hr';injection hr' with e;rw [e] at h2;exact absurd h2' h2
 | go hr h2 _ ih =>
  cases k with
  | fin hr' h2'=>rw [hr] at hr';injection hr' with e;rw [e] at h2;exact absurd h2 h2'
  | go hr' h2' hk =>
   rw [hr] at hr'
   injection hr' with e
   subst e
   rw [ih hk]
end
end Go.Proofs.Ytdnmpndnpfklcaa

/- Plain: the supervisor of a certificate reaches marked states from all of its states (chapter 28). -/
namespace Go.Proofs.Ytdnmpndnpfklcaa
open Go
def kpE (K:List Int) (x:Ed):Bool:=hasB K x.f && hasB K x.t
def kpA (a:Aut) (K:List Int):Aut:=⟨a.al,a.st,a.ma.filter (fun s=>hasB K s),a.ed.filter (kpE K)⟩
def rsA (a:Aut) (K:List Int):Aut:=if hasB K 0 = true then canA (kpA a K) else ⟨a.al,0,[],[]⟩
theorem kpA_wf {a:Aut} {K:List Int} (h:WF a):WF (kpA a K) :=
 ⟨h.inc,h.rng,h.st0,h.st1,List.Pairwise.filter _ h.minc,fun x hx=>h.mrng x (List.mem_filter.1 hx).1,List.Pairwise.filter _ h.einc,fun x hx=>h.erng x (List.mem_filter.1 hx).1⟩
def bwS (a:Aut) (tg:List Int):List Int:=(dsS a.ed (List.replicate a.st.toNat true) tg).1
def coS (a:Aut):List Int:=(rngI a.st).filter fun s=>decide (0 ≤ gI (bwS a a.ma) s)
theorem fl_all {n:Nat} {s:Int} (h0:0 ≤ s) (h1:s < (n:Int)):fl (List.replicate n true) s = true:=by
 unfold fl
 rw [List.getD_eq_getElem?_getD,List.getElem?_replicate,if_pos (by omega)]
 rfl
theorem bwS_ok {a:Aut} (hw:WF a) {tg:List Int} (ht:Inc tg) (hr:∀ s ∈ tg,0 ≤ s∧s < a.st):(bwS a tg).length = a.st.toNat∧∀ s,0 ≤ s → s < a.st → DisOk a.ed (List.replicate a.st.toNat true) tg s (gI (bwS a tg) s):=by
 have h0:=hw.st0
 have:=dsS_spec (es:=a.ed) (N:=List.replicate a.st.toNat true) (ma:=tg) (fun x hx=>by
  have:=hw.ev_rng hx
  rw [List.length_replicate]
  omega) (fun m hm=>by have:=hr m hm;rw [List.length_replicate];omega) (ht.imp fun {a b} hab=>by omega)
 rw [List.length_replicate] at this
 exact ⟨this.1,fun s h1 h2=>this.2 s h1 (by omega)⟩
theorem kpA_nxt {a:Aut} (hw:WF a) {K:List Int} {x:Ed} (hx:x ∈ a.ed) (h1:x.f ∈ K) (h2:x.t ∈ K):stA (kpA a K) x.f x.e = some x.t:=by
 have hm:x ∈ (kpA a K).ed:=List.mem_filter.2 ⟨hx,by unfold kpE;rw [hasB_mem.2 h1,hasB_mem.2 h2];rfl⟩
 have hn:nxt (kpA a K) x.f x.e = x.t:=nxtE_of (kpA_wf hw).einc hm rfl rfl
 have hg:=hw.ev_rng hx
 unfold stA
 rw [hn,if_neg (by omega)]
end Go.Proofs.Ytdnmpndnpfklcaa

/- Plain: the search through the pairs of states of two automata (chapter 28: Permits). -/
namespace Go.Proofs.Ytdnmpndnpfklcaa
open Go
end Go.Proofs.Ytdnmpndnpfklcaa

/- Plain: the described automata and problems of chapter 28. -/
namespace Go.Proofs.Ytdnmpndnpfklcaa
open Go
structure Sm4 where
 st:Int
 mb:Int
 tg:List Int
structure Sm4.ok (g:Sm4):Prop where
 st:0 ≤ g.st∧g.st ≤ 255
 mb:0 ≤ g.mb∧g.mb ≤ 255
 len:g.tg.length = 24
 tg:∀ x ∈ g.tg,0 ≤ x∧x ≤ 255
section
variable {g:Sm4}
def Sm4.n (g:Sm4):Nat:=1 + g.st.toNat % 6
theorem Sm4.n_le (g:Sm4):1 ≤ g.n∧g.n ≤ 6:=by unfold Sm4.n;omega
def Sm4.too (g:Sm4) (i k:Nat):Int:=g.tg.getD (i * 4 + k) 0 % 7 - 1
def row4 (g:Sm4) (i:Nat):Nat → List Ed
 | 0=>[]
 | k + 1=>row4 g i k ++ (if 0 ≤ g.too i k∧g.too i k < g.n then [⟨i,k,g.too i k⟩] else [])
def eds4 (g:Sm4):Nat → List Ed
 | 0=>[]
 | i + 1=>eds4 g i ++ row4 g i 4
def aut4 (g:Sm4):Aut:=⟨[0,1,2,3],g.n,setB g.mb g.n,eds4 g g.n⟩
theorem row4_yes {i k:Nat} (h:0 ≤ g.too i k∧g.too i k < g.n):row4 g i (k + 1) = row4 g i k ++ [⟨i,k,g.too i k⟩]:=by rw [row4,if_pos h]
theorem row4_no {i k:Nat} (h:¬ (0 ≤ g.too i k∧g.too i k < g.n)):row4 g i (k + 1) = row4 g i k:=by rw [row4,if_neg h,List.append_nil]
theorem row4_mem {i:Nat} {x:Ed}:∀ {k:Nat},x ∈ row4 g i k → ∃ j:Nat,j < k∧x.e = j∧x.f = i∧0 ≤ x.t∧x.t < g.n
 | 0,h=>by simp [row4] at h
 | k + 1,h=>by
  unfold row4 at h
  rcases List.mem_append.1 h with h | h
  ·obtain ⟨j,h1,h2⟩:=row4_mem h
   exact ⟨j,by omega,h2⟩
  ·split at h
   ·rename_i ht
    rw [List.mem_singleton.1 h]
    exact ⟨k,by omega,rfl,rfl,ht⟩
   ·cases h
theorem eds4_mem {x:Ed}:∀ {i:Nat},x ∈ eds4 g i → ∃ j k:Nat,j < i∧k < 4∧x.e = k∧x.f = j∧0 ≤ x.t∧x.t < g.n
 | 0,h=>by simp [eds4] at h
 | i + 1,h=>by
  unfold eds4 at h
  rcases List.mem_append.1 h with h | h
  ·obtain ⟨j,k,h1,h2⟩:=eds4_mem h
   exact ⟨j,k,by omega,h2⟩
  ·obtain ⟨k,h1,h2,h3,h4⟩:=row4_mem h
   exact ⟨i,k,by omega,h1,h2,h3,h4⟩
theorem row4_inc (g:Sm4) (i:Nat):∀ k,(row4 g i k).Pairwise edLt
 | 0=>List.Pairwise.nil
 | k + 1=>by
  unfold row4
  rw [List.pairwise_append]
  refine ⟨row4_inc g i k,?_,fun a ha b hb=>?_⟩
  ·split <;> simp
  ·obtain ⟨j,h1,h2,h3,_⟩:=row4_mem ha
   split at hb
   ·rw [List.mem_singleton.1 hb]
    right
    refine ⟨h3,?_⟩
    show a.e < (k:Int)
    omega
   ·cases hb
theorem eds4_inc (g:Sm4):∀ i,(eds4 g i).Pairwise edLt
 | 0=>List.Pairwise.nil
 | i + 1=>by
  unfold eds4
  rw [List.pairwise_append]
  refine ⟨eds4_inc g i,row4_inc g i _,fun a ha b hb=>?_⟩
  obtain ⟨j,k,h1,_,_,h2,_⟩:=eds4_mem ha
  obtain ⟨m,_,_,h3,_⟩:=row4_mem hb
  left;omega
theorem aut4_wf (g:Sm4):WF (aut4 g):=by
 have hn:=g.n_le
 refine ⟨(show List.Pairwise (· < ·) ([0,1,2,3]:List Int) by decide),(by decide:∀ x ∈ ([0,1,2,3]:List Int),0 ≤ x∧x < 32),by show (0:Int) ≤ (g.n:Int);omega,by show (g.n:Int) ≤ 4096;omega,setB_inc _ _,fun x hx=>?_,eds4_inc g _,fun x hx=>?_⟩
 ·obtain ⟨i,h1,h2,_⟩:=setB_mem.1 hx
  show (0:Int) ≤ x∧x < (g.n:Int)
  omega
 ·obtain ⟨j,k,h1,h2,h3,h4,h5⟩:=eds4_mem hx
  refine ⟨?_,hasB_mem.2 ?_⟩
  ·unfold edOut
   show ¬ (x.f < 0 ∨ (g.n:Int) ≤ x.f ∨ x.t < 0 ∨ (g.n:Int) ≤ x.t)
   omega
  ·show x.e ∈ ([0,1,2,3]:List Int)
   rw [h3]
   match k,h2 with
   | 0,_=>decide
   | 1,_=>decide
   | 2,_=>decide
   | 3,_=>decide
def prb4 (g:Sm4) (u f:Int):Mx:=⟨aut4 g,setB u 6,setB f g.n⟩
theorem prb4_ok (g:Sm4) (u f:Int):(prb4 g u f).ok:=by
 have hn:=g.n_le
 refine ⟨aut4_wf g,setB_inc _ _,fun x hx=>?_,setB_inc _ _,fun x hx=>?_⟩
 ·obtain ⟨i,h1,h2,_⟩:=setB_mem.1 hx
  omega
 ·obtain ⟨i,h1,h2,_⟩:=setB_mem.1 hx
  show (0:Int) ≤ x∧x < (g.n:Int)
  omega
end
end Go.Proofs.Ytdnmpndnpfklcaa

/- Plain: what Verify's two tables say is what the rules say (chapter 28). -/
namespace Go.Proofs.Ytdnmpndnpfklcaa
open Go
def gR (R:List Rm) (s:Int):Rm:=R.getD s.toNat ⟨0,0,0,0⟩
structure Tb (p:Mx) (c:Ce) (K:List Bool) (D:List Int) (R:List Rm):Prop where
 kf:∀ s,0 ≤ s → s < p.a.st → (fl K s = true ↔ s ∈ c.kp)
 dt:∀ (i:Nat) (s d:Int),c.kp[i]? = some s → c.ds[i]? = some d → gI D s = d
 rt:∀ r ∈ c.rm,gR R r.s = r
structure KeP (p:Mx) (K:List Bool) (D:List Int):Prop where
 ed:∀ x ∈ p.a.ed,fl K x.f = true → fl K x.t = false → hasB p.u x.e = false
 st:∀ s,0 ≤ s → s < p.a.st → fl K s = true → s ∉ p.f∧0 ≤ gI D s∧(gI D s = 0 → s ∈ p.a.ma)∧(0 < gI D s → ∃ x ∈ p.a.ed,x.f = s∧fl K x.t = true∧gI D x.t < gI D s)
structure ReP (p:Mx) (K:List Bool) (R:List Rm):Prop where
 ed:∀ x ∈ p.a.ed,fl K x.f = false → (gR R x.f).r = 3 → fl K x.t = false∧(gR R x.t).k ≤ (gR R x.f).k∧((gR R x.t).k = (gR R x.f).k → (gR R x.t).r = 3)
 st:∀ s,0 ≤ s → s < p.a.st → fl K s = false → (1 ≤ (gR R s).k∧(gR R s).k ≤ 4097)∧((gR R s).r = 1 → (gR R s).e = -1∧s ∈ p.f) ∧
  ((gR R s).r = 2 → ∃ x ∈ p.a.ed,x.f = s∧x.e = (gR R s).e∧hasB p.u x.e = true∧fl K x.t = false∧(gR R x.t).k < (gR R s).k)∧((gR R s).r = 3 → (gR R s).e = -1∧s ∉ p.a.ma)
section
variable {p:Mx} {c:Ce} {K:List Bool} {D:List Int} {R:List Rm}
theorem fl_no {N:List Bool} {s:Int}:fl N s = false ↔ ¬ fl N s = true:=by cases fl N s <;> simp
theorem part_iff (hf:FOk p.a.st c) (h0:0 ≤ p.a.st):(((c.kp.length + c.rm.length:Nat):Int) = p.a.st∧∀ r ∈ c.rm,r.s ∉ c.kp) ↔ ∀ s,0 ≤ s → s < p.a.st → (s ∈ c.kp ↔ ¬ ∃ r ∈ c.rm,r.s = s):=by
 have hk:c.kp.Nodup:=hf.kinc.imp fun {a b} hab=>by omega
 have hr:(c.rm.map (·.s)).Nodup:=by
  unfold List.Nodup
  rw [List.pairwise_map]
  exact hf.rinc.imp fun {a b} hab=>by omega
 have hin:∀ x ∈ c.kp ++ c.rm.map (·.s),x ∈ rngI p.a.st:=fun x hx=>by
  rcases List.mem_append.1 hx with hx | hx
  ·exact rngI_mem.2 (hf.krng x hx)
  ·obtain ⟨r,hr,rfl⟩:=List.mem_map.1 hx
   exact rngI_mem.2 (hf.rrng r hr)
 have hlen:(c.kp ++ c.rm.map (·.s)).length = c.kp.length + c.rm.length:=by rw [List.length_append,List.length_map]
 have hrn:(rngI p.a.st).Nodup:=(rng_inc _).imp fun {a b} hab=>by omega
 constructor
 ·rintro ⟨hc,hd⟩ s h1 h2
  have hnd:(c.kp ++ c.rm.map (·.s)).Nodup:=List.nodup_append.2 ⟨hk,hr,fun a ha b hb e=>by
   obtain ⟨r,hrm,rfl⟩:=List.mem_map.1 hb
   exact hd r hrm (e ▸ ha)⟩
  have hmem:s ∈ c.kp ++ c.rm.map (·.s):=by
   apply Classical.byContradiction
   intro hn
   have:=nodup_le (List.nodup_cons.2 ⟨hn,hnd⟩) (m:=rngI p.a.st) fun x hx=>by
    rcases List.mem_cons.1 hx with rfl | hx
    ·exact rngI_mem.2 ⟨h1,h2⟩
    ·exact hin x hx
   rw [List.length_cons,hlen,rngI_len] at this
   omega
  constructor
  ·rintro hs ⟨r,hrm,e⟩;exact hd r hrm (e ▸ hs)
  ·intro hno
   rcases List.mem_append.1 hmem with h | h
   ·exact h
   ·obtain ⟨r,hrm,e⟩:=List.mem_map.1 h
    exact absurd ⟨r,hrm,e⟩ hno
 ·intro hp
  have hd:∀ r ∈ c.rm,r.s ∉ c.kp:=fun r hrm hk=>by
   have:=hf.rrng r hrm
   exact (hp r.s this.1 this.2).1 hk ⟨r,hrm,rfl⟩
  have hnd:(c.kp ++ c.rm.map (·.s)).Nodup:=List.nodup_append.2 ⟨hk,hr,fun a ha b hb e=>by
   obtain ⟨r,hrm,rfl⟩:=List.mem_map.1 hb
   exact hd r hrm (e ▸ ha)⟩
  refine ⟨?_,hd⟩
  have h1:=nodup_le hnd hin
  have h2:=nodup_le hrn (m:=c.kp ++ c.rm.map (·.s)) fun x hx=>by
   have hg:=rngI_mem.1 hx
   by_cases hkx:x ∈ c.kp
   ·exact List.mem_append_left _ hkx
   ·have:∃ r ∈ c.rm,r.s = x:=by
     apply Classical.byContradiction
     intro hn
     exact hkx ((hp x hg.1 hg.2).2 hn)
    obtain ⟨r,hrm,e⟩:=this
    exact List.mem_append_right _ (List.mem_map.2 ⟨r,hrm,e⟩)
  rw [hlen,rngI_len] at h1 h2
  omega
theorem tab_iff (hw:WF p.a) (hf:FOk p.a.st c) (hp:∀ s,0 ≤ s → s < p.a.st → (s ∈ c.kp ↔ ¬ ∃ r ∈ c.rm,r.s = s)) (ht:Tb p c K D R):(KeP p K D∧ReP p K R) ↔ VOk p c:=by
 have hat:∀ s,s ∈ c.kp → ∃ (i:Nat) (d:Int),c.kp[i]? = some s∧c.ds[i]? = some d∧gI D s = d:=fun s hs=>by
  obtain ⟨i,hi⟩:=List.getElem?_of_mem hs
  have hil:i < c.ds.length:=by rw [hf.dlen];exact (List.getElem?_eq_some_iff.1 hi).1
  exact ⟨i,_,hi,List.getElem?_eq_getElem hil,ht.dt i s _ hi (List.getElem?_eq_getElem hil)⟩
 have hrm:∀ s,0 ≤ s → s < p.a.st → fl K s = false → ∃ r ∈ c.rm,r.s = s∧gR R s = r:=fun s h0 h1 hs=>by
  have hnk:s ∉ c.kp:=fun hk=>by rw [(ht.kf s h0 h1).2 hk] at hs;cases hs
  have:∃ r ∈ c.rm,r.s = s:=by
   apply Classical.byContradiction
   intro hn
   exact hnk ((hp s h0 h1).2 hn)
  obtain ⟨r,hr,e⟩:=this
  exact ⟨r,hr,e,by rw [← e];exact ht.rt r hr⟩
 have hno:∀ r ∈ c.rm,fl K r.s = false:=fun r hr=>by
  have hg:=hf.rrng r hr
  rw [fl_no,ht.kf r.s hg.1 hg.2,hp r.s hg.1 hg.2]
  exact fun h=>h ⟨r,hr,rfl⟩
 constructor
 ·rintro ⟨hk,hr⟩
  refine ⟨hp,fun i s d h1 h2=>?_,fun r hrr=>?_⟩
  ·have hs:=List.mem_of_getElem? h1
   have hg:=hf.krng s hs
   have hfl:=(ht.kf s hg.1 hg.2).2 hs
   have hd:=ht.dt i s d h1 h2
   obtain ⟨a1,a2,a3,a4⟩:=hk.st s hg.1 hg.2 hfl
   rw [hd] at a2 a3 a4
   refine ⟨a1,fun x hx hxf hu=>?_,a2,a3,fun hne=>?_⟩
   ·have hgx:=hw.ev_rng hx
    rw [← ht.kf x.t hgx.2.2.1 hgx.2.2.2.1]
    apply Classical.byContradiction
    intro hn
    have:=hk.ed x hx (by rw [hxf];exact hfl) (fl_no.2 hn)
    rw [hu] at this
    cases this
   ·obtain ⟨x,hx,hxf,hxk,hlt⟩:=a4 (by omega)
    have hgx:=hw.ev_rng hx
    obtain ⟨j,e,h3,h4,h5⟩:=hat x.t ((ht.kf x.t hgx.2.2.1 hgx.2.2.2.1).1 hxk)
    exact ⟨x,hx,hxf,j,e,h3,h4,by omega⟩
  ·have hg:=hf.rrng r hrr
   have hfl:=hno r hrr
   have hrt:=ht.rt r hrr
   obtain ⟨a1,a2,a3,a4⟩:=hr.st r.s hg.1 hg.2 hfl
   rw [hrt] at a1 a2 a3 a4
   refine ⟨a1,a2,fun h2=>?_,fun h3=>⟨(a4 h3).1,(a4 h3).2,fun x hx hxf=>?_⟩⟩
   ·obtain ⟨x,hx,hxf,hxe,hu,hxk,hlt⟩:=a3 h2
    have hgx:=hw.ev_rng hx
    obtain ⟨y,hy,hys,hyr⟩:=hrm x.t hgx.2.2.1 hgx.2.2.2.1 hxk
    rw [hyr] at hlt
    exact ⟨x,hx,hxf,hxe,hu,y,hy,hys,hlt⟩
   ·have hgx:=hw.ev_rng hx
    obtain ⟨b1,b2,b3⟩:=hr.ed x hx (by rw [hxf];exact hfl) (by rw [hxf,hrt];exact h3)
    obtain ⟨y,hy,hys,hyr⟩:=hrm x.t hgx.2.2.1 hgx.2.2.2.1 b1
    rw [hyr,hxf,hrt] at b2 b3
    refine ⟨y,hy,hys,?_⟩
    rcases Int.lt_or_eq_of_le b2 with h | h
    ·exact .inl h
    ·exact .inr ⟨h,b3 h⟩
 ·intro hv
  refine ⟨⟨fun x hx hxf hxt=>?_,fun s h0 h1 hs=>?_⟩,⟨fun x hx hxf h3=>?_,fun s h0 h1 hs=>?_⟩⟩
  ·have hgx:=hw.ev_rng hx
   obtain ⟨i,d,h3,h4,_⟩:=hat x.f ((ht.kf x.f hgx.1 hgx.2.1).1 hxf)
   cases hu:hasB p.u x.e with
   | false=>rfl
   | true =>
    have:=(hv.kpt i x.f d h3 h4).un x hx rfl hu
    rw [(ht.kf x.t hgx.2.2.1 hgx.2.2.2.1).2 this] at hxt
    cases hxt
  ·obtain ⟨i,d,h3,h4,hd⟩:=hat s ((ht.kf s h0 h1).1 hs)
   have o:=hv.kpt i s d h3 h4
   rw [hd]
   refine ⟨o.fo,o.pos,o.zero,fun hpos=>?_⟩
   obtain ⟨x,hx,hxf,j,e,h5,h6,h7⟩:=o.down (by omega)
   have hgx:=hw.ev_rng hx
   exact ⟨x,hx,hxf,(ht.kf x.t hgx.2.2.1 hgx.2.2.2.1).2 (List.mem_of_getElem? h5),by rw [ht.dt j x.t e h5 h6];exact h7⟩
  ·have hgx:=hw.ev_rng hx
   obtain ⟨r,hr,hrs,hrr⟩:=hrm x.f hgx.1 hgx.2.1 hxf
   rw [hrr] at h3 ⊢
   obtain ⟨y,hy,hys,hyk⟩:=((hv.rmv r hr).bl h3).2.2 x hx hrs.symm
   have hyt:=ht.rt y hy
   rw [hys] at hyt
   rw [hyt,← hys]
   refine ⟨hno y hy,?_,fun e=>?_⟩
   ·rcases hyk with h | ⟨h,_⟩ <;> omega
   ·rcases hyk with h | ⟨_,h⟩
    ·omega
    ·exact h
  ·obtain ⟨r,hr,hrs,hrr⟩:=hrm s h0 h1 hs
   have o:=hv.rmv r hr
   rw [hrr]
   refine ⟨o.rk,fun h=>?_,fun h2=>?_,fun h3=>?_⟩
   ·have:=o.fo h;rw [hrs] at this;exact this
   ·obtain ⟨x,hx,hxf,hxe,hu,y,hy,hys,hyk⟩:=o.un h2
    have hyt:=ht.rt y hy
    rw [hys] at hyt
    exact ⟨x,hx,hxf.trans hrs,hxe,hu,by rw [← hys];exact hno y hy,by rw [hyt];exact hyk⟩
   ·have:=o.bl h3;rw [hrs] at this;exact ⟨this.1,this.2.1⟩
end
end Go.Proofs.Ytdnmpndnpfklcaa
