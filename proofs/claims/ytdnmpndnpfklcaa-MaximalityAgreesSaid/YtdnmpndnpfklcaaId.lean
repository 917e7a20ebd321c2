/- Plain: the word that the search forward finds is a shortest one (chapter 28). -/
import Derived.Test.YtdnmpndnpfklcaaIb

namespace Go.Proofs.Ytdnmpndnpfklcaa
open Go
structure PaD (a:Aut) (perm:Ed → Bool) (i:Nat) (l:List Stp) (D:List Nat):Prop where
 len:D.length = l.length
 zero:D[0]? = some 0
 par:∀ (k:Nat) (t:Stp) (d:Nat),0 < k → l[k]? = some t → D[k]? = some d → ∃ e,D[t.f.toNat]? = some e∧d = e + 1
 mono:∀ (j k d e:Nat),j ≤ k → D[j]? = some d → D[k]? = some e → d ≤ e
 top:∀ d,D[i]? = some d → ∀ (k e:Nat),D[k]? = some e → e ≤ d + 1
 clo:∀ (k:Nat) (t:Stp) (d:Nat),k < i → l[k]? = some t → D[k]? = some d → ∀ x ∈ outE a t.s,perm x = true → ∃ (j:Nat) (u:Stp) (e:Nat),l[j]? = some u∧u.s = x.t∧D[j]? = some e∧e ≤ d + 1
section
variable {a:Aut} {perm:Ed → Bool} {st:Int} {n i:Nat} {l:List Stp} {N:List Bool} {D:List Nat}
theorem snoc_at {α:Type} {l:List α} {x y:α} {k:Nat} (h:(l ++ [x])[k]? = some y):(l[k]? = some y∧k < l.length) ∨ (y = x∧k = l.length):=by
 rcases Nat.lt_or_ge k l.length with h1 | h1
 ·rw [List.getElem?_append_left h1] at h;exact .inl ⟨h,h1⟩
 ·rw [List.getElem?_append_right h1] at h
  have hj:k - l.length = 0:=by
   have:=(List.getElem?_eq_some_iff.1 h).1
   simp at this
   omega
  rw [hj] at h
  simp at h
  exact .inr ⟨h.symm,by omega⟩
theorem at_snoc {α:Type} {l:List α} {x y:α} {k:Nat} (h:l[k]? = some y):(l ++ [x])[k]? = some y:=by
 rw [List.getElem?_append_left (List.getElem?_eq_some_iff.1 h).1];exact h
theorem PaD.start:PaD a perm 0 [⟨st,-1,-1⟩] [0]:=by
 have h0:∀ (k d:Nat),([0]:List Nat)[k]? = some d → k = 0∧d = 0:=fun k d h=>by
  cases k with
  | zero=>simp at h;exact ⟨rfl,h.symm⟩
  | succ k=>simp at h
 refine ⟨rfl,rfl,fun k t d hk _ hd=>?_,fun j k d e _ hd he=>?_,fun d hd k e he=>?_,fun k t d hk=>by omega⟩
 ·have:=h0 k d hd;omega
 ·rw [(h0 j d hd).2,(h0 k e he).2];exact Nat.le_refl _
 ·rw [(h0 k e he).2];exact Nat.zero_le _
theorem PaD.push (h:PaD a perm i l D) {d:Nat} (hd:D[i]? = some d) (s v:Int):PaD a perm i (l ++ [⟨s,i,v⟩]) (D ++ [d + 1]):=by
 have hil:=(List.getElem?_eq_some_iff.1 hd).1
 refine ⟨by simp [h.len],at_snoc h.zero,fun k t c hk ht hc=>?_,fun j k c e hjk hc he=>?_,fun c hc k e he=>?_,fun k t c hk ht hc x hx hp=>?_⟩
 ·rcases snoc_at ht with ⟨ht,hkl⟩ | ⟨rfl,hkl⟩
  ·rcases snoc_at hc with ⟨hc,_⟩ | ⟨_,h2⟩
   ·obtain ⟨e,he,hee⟩:=h.par k t c hk ht hc
    exact ⟨e,at_snoc he,hee⟩
   ·have:=h.len;omega
  ·rcases snoc_at hc with ⟨_,h2⟩ | ⟨rfl,_⟩
   ·have:=h.len;omega
   ·exact ⟨d,by show (D ++ [d + 1])[((i:Nat):Int).toNat]? = some d;rw [Int.toNat_natCast];exact at_snoc hd,rfl⟩
 ·rcases snoc_at hc with ⟨hc,h1⟩ | ⟨rfl,h1⟩
  ·rcases snoc_at he with ⟨he,h2⟩ | ⟨rfl,h2⟩
   ·exact h.mono j k c e hjk hc he
   ·exact h.top d hd j c hc
  ·rcases snoc_at he with ⟨he,h2⟩ | ⟨rfl,h2⟩
   ·omega
   ·exact Nat.le_refl _
 ·rcases snoc_at hc with ⟨hc,h1⟩ | ⟨_,h1⟩
  ·rw [hd] at hc
   injection hc with hc
   subst hc
   rcases snoc_at he with ⟨he,_⟩ | ⟨rfl,_⟩
   ·exact h.top d hd k e he
   ·exact Nat.le_refl _
  ·omega
 ·rcases snoc_at ht with ⟨ht,hkl⟩ | ⟨_,hkl⟩
  ·rcases snoc_at hc with ⟨hc,_⟩ | ⟨_,h2⟩
   ·obtain ⟨j,u,e,h1,h2,h3,h4⟩:=h.clo k t c hk ht hc x hx hp
    exact ⟨j,u,e,at_snoc h1,h2,at_snoc h3,h4⟩
   ·have:=h.len;omega
  ·have:=h.len;omega
theorem PaD.row (hw:WF a) (hn:a.st = (n:Int)) {t:Stp} {d:Nat}:∀ (r:List Ed) (l:List Stp) (N:List Bool) (D:List Nat),(∀ x ∈ r,x ∈ outE a t.s) → l[i]? = some t → PtQ a perm st n i l N → PaD a perm i l D → D[i]? = some d →
  ∃ D2:List Nat,PaD a perm i (rowS perm i r l N).1 D2∧(∀ (k c:Nat),D[k]? = some c → D2[k]? = some c)∧(∀ (k:Nat) (c:Stp),l[k]? = some c → (rowS perm i r l N).1[k]? = some c)∧∀ x ∈ r,perm x = true → ∃ (j:Nat) (u:Stp) (e:Nat),(rowS perm i r l N).1[j]? = some u∧u.s = x.t∧D2[j]? = some e∧e ≤ d + 1
 | [],l,N,D,_,_,_,hD,_=>⟨D,hD,fun _ _ h=>h,fun _ _ h=>h,fun x hx=>by cases hx⟩
 | x :: r,l,N,D,hr,ht,h,hD,hd=>by
  have hx:=outE_mem.1 (hr x List.mem_cons_self)
  have hrr:=fun y hy=>hr y (List.mem_cons_of_mem x hy)
  by_cases hc:fl N x.t = false∧perm x = true
  ·rw [rowS_pos hc]
   obtain ⟨D2,h1,h2,h3,h4⟩:=PaD.row hw hn r _ _ _ hrr (at_snoc ht) (h.push hw hn ht hx.1 hx.2 hc.2 hc.1) (hD.push hd x.t x.e) (at_snoc hd)
   refine ⟨D2,h1,fun k c hk=>h2 k c (at_snoc hk),fun k c hk=>h3 k c (at_snoc hk),fun y hy hp=>?_⟩
   rcases List.mem_cons.1 hy with rfl | hy
   ·refine ⟨l.length,⟨y.t,i,y.e⟩,d + 1,h3 _ _ (by simp),rfl,h2 _ _ ?_,Nat.le_refl _⟩
    rw [← hD.len];simp
   ·exact h4 y hy hp
  ·rw [rowS_neg hc]
   obtain ⟨D2,h1,h2,h3,h4⟩:=PaD.row hw hn r l N D hrr ht h hD hd
   refine ⟨D2,h1,h2,h3,fun y hy hp=>?_⟩
   rcases List.mem_cons.1 hy with rfl | hy
   ·have hf:fl N y.t = true:=by
     cases hf:fl N y.t with
     | true=>rfl
     | false=>exact absurd ⟨hf,hp⟩ hc
    obtain ⟨u,hu,hus⟩:=(h.on y.t (hw.ev_rng hx.1).2.2.1).1 hf
    obtain ⟨j,hj⟩:=List.getElem?_of_mem hu
    have hjl:j < D.length:=by rw [hD.len];exact (List.getElem?_eq_some_iff.1 hj).1
    exact ⟨j,u,D[j],h3 j u hj,hus,h2 j _ (List.getElem?_eq_getElem hjl),hD.top d hd j _ (List.getElem?_eq_getElem hjl)⟩
   ·exact h4 y hy hp
theorem PaD.back (h:PtQ a perm st n i l N) (hD:PaD a perm i l D):∀ (g k d:Nat),k < g → k < l.length → D[k]? = some d → (bckS l g k).length = d
 | 0,k,d,hk,_,_=>by omega
 | g + 1,k,d,hk,hkl,hd=>by
  have ht:=List.getElem?_eq_getElem hkl
  unfold bckS
  rw [Int.toNat_natCast,ht]
  simp only
  by_cases h0:k = 0
  ·subst h0
   rw [h.head] at ht
   injection ht with ht
   rw [← ht,if_pos (by show (-1:Int) < 0;omega)]
   rw [hD.zero] at hd
   injection hd with hd
  ·obtain ⟨x,u,h1,h2,h3,h4,h5,h6,h7,h8⟩:=h.par k _ (by omega) ht
   obtain ⟨e,he,hee⟩:=hD.par k _ d (by omega) ht hd
   rw [if_neg (by omega),List.length_cons]
   have hb:=PaD.back h hD g (l[k]).f.toNat e (by omega) (List.getElem?_eq_some_iff.1 h7).1 he
   rw [show (((l[k]).f.toNat:Nat):Int) = (l[k]).f by omega] at hb
   rw [hb,hee]
theorem PaD.least (h:PtQ a perm st n i l N) (hD:PaD a perm i l D) {d:Nat} (hd:D[i]? = some d) {want:Int → Bool} (hno:∀ (k:Nat) (t:Stp),k < i → l[k]? = some t → want t.s = false)
  {vs:List Int} {u:Int} (hv:Wk a.ed perm st vs u):d ≤ vs.length ∨ ∃ (k:Nat) (t:Stp) (e:Nat),k < i∧l[k]? = some t∧t.s = u∧D[k]? = some e∧e ≤ vs.length:=by
 induction hv with
 | nil =>
  by_cases hi:i = 0
  ·subst hi
   rw [hD.zero] at hd
   injection hd with hd
   exact .inl (by omega)
  ·exact .inr ⟨0,_,0,by omega,h.head,rfl,hD.zero,Nat.le_refl _⟩
 | snoc hv hx hp hxf ih =>
  rw [List.length_append,List.length_singleton]
  rcases ih with ih | ⟨k,t,e,hk,ht,hts,he,hev⟩
  ·exact .inl (by omega)
  ·obtain ⟨j,u,c,h1,h2,h3,h4⟩:=hD.clo k t e hk ht he _ (outE_mem.2 ⟨hx,by rw [hxf,hts]⟩) hp
   rcases Nat.lt_or_ge j i with hj | hj
   ·exact .inr ⟨j,u,c,hj,h1,h2,h3,by omega⟩
   ·exact .inl (by have:=hD.mono i j d c hj hd h3;omega)
theorem pthF_short (hw:WF a) (hn:a.st = (n:Int)) {want:Int → Bool} {ws:List Int}:∀ (g i:Nat) (l:List Stp) (N:List Bool) (D:List Nat),PtQ a perm st n i l N → PaD a perm i l D → (∀ (k:Nat) (t:Stp),k < i → l[k]? = some t → want t.s = false) →
  pthF a want perm g i l N = some ws → ∀ vs u,Wk a.ed perm st vs u → want u = true → ws.length ≤ vs.length
 | 0,i,l,N,D,h,hD,hno,hf=>by simp [pthF] at hf
 | g + 1,i,l,N,D,h,hD,hno,hf=>by
  unfold pthF at hf
  cases ht:l[i]? with
  | none=>rw [ht] at hf;simp at hf
  | some t =>
   rw [ht] at hf
   simp only at hf
   have hil:=(List.getElem?_eq_some_iff.1 ht).1
   have hdl:i < D.length:=by rw [hD.len];exact hil
   have hd:=List.getElem?_eq_getElem hdl
   by_cases hq:want t.s = true
   ·rw [if_pos hq] at hf
    injection hf with hf
    intro vs u hv hu
    rw [← hf,List.length_reverse,PaD.back h hD l.length i _ hil hil hd]
    rcases hD.least h hd hno hv with h1 | ⟨k,t2,e,hk,ht2,hts,_,_⟩
    ·exact h1
    ·have:=hno k t2 hk ht2
     rw [hts,hu] at this
     cases this
   ·rw [if_neg hq] at hf
    obtain ⟨h1,h2,h3,h4⟩:=PtQ.row hw hn (t:=t) (outE a t.s) l N (fun _ hx=>hx) ht h
    obtain ⟨D2,e1,e2,e3,e4⟩:=PaD.row hw hn (t:=t) (outE a t.s) l N D (fun _ hx=>hx) ht h hD hd
    have hold:∀ k u,k < i + 1 → (rowS perm i (outE a t.s) l N).1[k]? = some u → l[k]? = some u:=fun k u hk hu=>by
     have:=e3 k _ (List.getElem?_eq_getElem (show k < l.length by omega))
     rw [hu] at this
     injection this with this
     rw [this]
     exact List.getElem?_eq_getElem _
    have holdD:∀ k c,k < i + 1 → D2[k]? = some c → D[k]? = some c:=fun k c hk hc=>by
     have:=e2 k _ (List.getElem?_eq_getElem (show k < D.length by omega))
     rw [hc] at this
     injection this with this
     rw [this]
     exact List.getElem?_eq_getElem _
    refine pthF_short hw hn g (i + 1) _ _ D2 ⟨h1.w,h1.head,h1.par,h1.on,fun k u hk hu y hy hyp=>?_⟩ ⟨e1.len,e1.zero,e1.par,e1.mono,fun c hc k e he=>?_,fun k u c hk hu hc y hy hyp=>?_⟩ (fun k u hk hu=>?_) hf
    ·by_cases hki:k = i
     ·subst hki
      rw [h2] at hu
      injection hu with hu
      subst hu
      exact h4 y hy hyp
     ·exact h1.clo k u (by omega) hu y hy hyp
    ·have q1:=e1.top _ (e2 i _ hd) k e he
     have q2:=e1.mono i (i + 1) _ c (by omega) (e2 i _ hd) hc
     omega
    ·by_cases hki:k = i
     ·subst hki
      rw [h2] at hu
      injection hu with hu
      subst hu
      rw [e2 k _ hd] at hc
      injection hc with hc
      subst hc
      exact e4 y hy hyp
     ·exact e1.clo k u c (by omega) hu hc y hy hyp
    ·by_cases hki:k = i
     ·subst hki
      rw [h2] at hu
      injection hu with hu
      subst hu
      simpa using hq
     ·exact hno k u (by omega) (hold k u hk hu)
theorem pathS_short (hw:WF a) {want:Int → Bool} (h0:0 ≤ st) (h1:st < a.st) {ws vs:List Int} {u:Int} (h:pathS a st want perm = some ws) (hv:Wk a.ed perm st vs u) (hu:want u = true):ws.length ≤ vs.length:=by
 obtain ⟨n,hn⟩:∃ n:Nat,a.st = (n:Int):=⟨a.st.toNat,by omega⟩
 have hst:a.st.toNat = n:=by omega
 unfold pathS at h
 rw [hst] at h
 exact pthF_short hw hn (n + 1) 0 _ _ _ (PtQ.start h0 (by omega)) PaD.start (fun k t hk=>by omega) h vs u hv hu
theorem Wk.flag {vs:List Int} {t:Int} (h:Wk a.ed (fun x=>fl N x.t) st vs t) (hs:fl N st = true):fl N t = true:=by
 cases h with
 | nil=>exact hs
 | snoc _ _ hp _=>exact hp
theorem Wk.dp {ma vs:List Int} {t:Int} {d:Nat} (h:Wk a.ed (fun x=>fl N x.t) st vs t) (hs:fl N st = true) (hd:Dp a.ed N ma t d):Dp a.ed N ma st (vs.length + d):=by
 induction h generalizing d with
 | nil=>simpa using hd
 | snoc h hx hp hxf ih =>
  have hq:Dp a.ed N ma _ (d + 1):=Dp.st hx (by rw [hxf];exact h.flag hs) hd
  rw [hxf] at hq
  have:=ih hq
  rw [List.length_append,List.length_singleton,show ∀ a d:Nat,a + 1 + d = a + (d + 1) by omega]
  exact this
theorem Dp.wk {ma:List Int} {d:Nat} (h:Dp a.ed N ma st d):∃ vs u,Wk a.ed (fun x=>fl N x.t) st vs u∧u ∈ ma∧vs.length = d:=by
 induction h with
 | mk _ hm=>exact ⟨[],_,.nil,hm,rfl⟩
 | st hx _ hd ih =>
  obtain ⟨vs,u,h1,h2,h3⟩:=ih
  exact ⟨_,u,(Wk.one (perm:=fun x=>fl N x.t) hx hd.in_).app h1,h2,by rw [List.length_append,h3,List.length_singleton,Nat.add_comm]⟩
def dstF (a:Aut) (N:List Bool) (s:Int):Int:=match pathS a s (fun u=>hasB a.ma u) (fun x=>fl N x.t) with | some ws=>(ws.length:Int) | none=>-1
theorem dstF_ok (hw:WF a) (h0:0 ≤ st) (h1:st < a.st) (hs:fl N st = true):DisOk a.ed N a.ma st (dstF a N st):=by
 have hp:=pathS_spec (perm:=fun x=>fl N x.t) (want:=fun u=>hasB a.ma u) hw h0 h1
 unfold dstF
 cases hq:pathS a st (fun u=>hasB a.ma u) (fun x=>fl N x.t) with
 | none =>
  rw [hq] at hp
  simp only at hp
  refine .inl ⟨rfl,fun d hd=>?_⟩
  obtain ⟨vs,u,h1,h2,_⟩:=hd.wk
  have:=hp u h1.rc
  rw [hasB_mem.2 h2] at this
  cases this
 | some ws =>
  rw [hq] at hp
  obtain ⟨u,hu,hwk⟩:=hp
  refine .inr ⟨ws.length,rfl,?_,fun e he=>?_⟩
  ·have:=hwk.dp hs (.mk (hwk.flag hs) (hasB_mem.1 hu))
   exact this
  ·obtain ⟨vs,v,k1,k2,k3⟩:=he.wk
   rw [← k3]
   exact pathS_short hw h0 h1 hq k1 (hasB_mem.2 k2)
theorem dsS_dst (hw:WF a) (hn:(N.length:Int) = a.st) {s:Int} (h0:0 ≤ s) (h1:s < a.st) (hs:fl N s = true):gI (dsS a.ed N a.ma).1 s = dstF a N s:=by
 have he:∀ x ∈ a.ed,(0 ≤ x.f∧x.f < (N.length:Int))∧(0 ≤ x.t∧x.t < (N.length:Int)):=fun x hx=>by
  have:=hw.ev_rng hx
  rw [hn]
  exact ⟨⟨this.1,this.2.1⟩,this.2.2.1,this.2.2.2.1⟩
 have hm:∀ m ∈ a.ma,0 ≤ m∧m < (N.length:Int):=fun m hm=>by rw [hn];exact hw.mrng m hm
 exact ((dsS_spec he hm (hw.minc.imp fun {a b} hab=>by omega)).2 s h0 (by omega)).unique (dstF_ok hw h0 h1 hs)
end
end Go.Proofs.Ytdnmpndnpfklcaa
/- Plain: problems, certificates and the rounds that prove the greatest set (chapter 28). -/
namespace Go.Proofs.Ytdnmpndnpfklcaa
open Go
structure Mx where
 a:Aut
 u:List Int
 f:List Int
structure Mx.ok (p:Mx):Prop where
 wf:WF p.a
 uinc:Inc p.u
 urng:∀ x ∈ p.u,0 ≤ x∧x < 32
 finc:Inc p.f
 frng:∀ x ∈ p.f,0 ≤ x∧x < p.a.st
structure Rm where
 s:Int
 k:Int
 r:Int
 e:Int
theorem Rm.eq_iff {x y:Rm}:x = y ↔ x.s = y.s∧x.k = y.k∧x.r = y.r∧x.e = y.e:=by
 cases x;cases y;simp
instance:DecidableEq Rm:=fun _ _=>decidable_of_iff _ Rm.eq_iff.symm
structure Ce where
 kp:List Int
 ds:List Int
 rm:List Rm
theorem Ce.eq_iff {x y:Ce}:x = y ↔ x.kp = y.kp∧x.ds = y.ds∧x.rm = y.rm:=by
 cases x;cases y;simp
theorem srt_ext {α:Type} {lt:α → α → Prop} (irr:∀ x,¬ lt x x) (asy:∀ x y,lt x y → ¬ lt y x):∀ {l m:List α},l.Pairwise lt → m.Pairwise lt → (∀ x,x ∈ l ↔ x ∈ m) → l = m
 | [],[],_,_,_=>rfl
 | [],y :: m,_,_,h=>by have:=(h y).2 List.mem_cons_self;cases this
 | x :: l,[],_,_,h=>by have:=(h x).1 List.mem_cons_self;cases this
 | x :: l,y :: m,hl,hm,h=>by
  rw [List.pairwise_cons] at hl hm
  have hxy:x = y:=by
   rcases List.mem_cons.1 ((h x).1 List.mem_cons_self) with h1 | h1
   ·exact h1
   ·rcases List.mem_cons.1 ((h y).2 List.mem_cons_self) with h2 | h2
    ·exact h2.symm
    ·exact absurd (hl.1 y h2) (asy y x (hm.1 x h1))
  subst hxy
  congr 1
  refine srt_ext irr asy hl.2 hm.2 fun z=>⟨fun hz=>?_,fun hz=>?_⟩
  ·rcases List.mem_cons.1 ((h z).1 (List.mem_cons_of_mem _ hz)) with h1 | h1
   ·exact absurd (h1 ▸ hl.1 z hz) (irr _)
   ·exact h1
  ·rcases List.mem_cons.1 ((h z).2 (List.mem_cons_of_mem _ hz)) with h1 | h1
   ·exact absurd (h1 ▸ hm.1 z hz) (irr _)
   ·exact h1
abbrev IncR (l:List Rm):Prop:=l.Pairwise fun x y=>x.s < y.s
theorem incR_ext {l m:List Rm} (hl:IncR l) (hm:IncR m) (h:∀ x,x ∈ l ↔ x ∈ m):l = m:=srt_ext (fun x=>by omega) (fun x y=>by omega) hl hm h
theorem incR_fm {g:Int → Option Rm} (hg:∀ s r,g s = some r → r.s = s) {l:List Int} (h:Inc l):IncR (l.filterMap g):=by
 unfold IncR
 rw [List.pairwise_filterMap]
 exact h.imp fun {a b} hab r hr t ht=>by rw [hg a r hr,hg b t ht];exact hab
theorem fm_filter {α β:Type} (q:α → Bool) (g:α → Option β):∀ l:List α,(l.filter q).filterMap g = l.filterMap fun s=>if q s = true then g s else none
 | []=>rfl
 | x :: l=>by
  by_cases h:q x = true
  ·rw [List.filter_cons_of_pos h,List.filterMap_cons,List.filterMap_cons,fm_filter q g l,if_pos h]
  ·rw [List.filter_cons_of_neg h,List.filterMap_cons,fm_filter q g l,if_neg h]
section
variable {p:Mx} {N:List Bool} {rk:Int}
def ldP (p:Mx) (N:List Bool) (s:Int) (y:Ed):Bool:=decide (y.f = s) && hasB p.u y.e && !fl N y.t
def ldE (p:Mx) (N:List Bool) (s:Int):Option Int:=(p.a.ed.find? (ldP p N s)).map (·.e)
def ldR (p:Mx) (N:List Bool) (rk s:Int):Option Rm:=(ldE p N s).map fun e=>⟨s,rk,2,e⟩
def ldL (p:Mx) (N:List Bool) (rk:Int):List Rm:=(onF N).filterMap (ldR p N rk)
def blR (p:Mx) (N:List Bool) (rk s:Int):Option Rm:=if dstF p.a N s < 0 then some ⟨s,rk,3,-1⟩ else none
def blL (p:Mx) (N:List Bool) (rk:Int):List Rm:=(onF N).filterMap (blR p N rk)
def foR (p:Mx) (s:Int):Option Rm:=if hasB p.f s = true then some ⟨s,1,1,-1⟩ else none
def foL (p:Mx):List Rm:=(rngI p.a.st).filterMap (foR p)
theorem ldR_s {s:Int} {r:Rm} (h:ldR p N rk s = some r):r.s = s:=by
 unfold ldR at h
 cases hq:ldE p N s with
 | none=>rw [hq] at h;cases h
 | some e=>rw [hq] at h;injection h with h;rw [← h]
theorem blR_s {s:Int} {r:Rm} (h:blR p N rk s = some r):r.s = s:=by
 unfold blR at h
 split at h
 ·injection h with h;rw [← h]
 ·cases h
theorem foR_s {s:Int} {r:Rm} (h:foR p s = some r):r.s = s:=by
 unfold foR at h
 split at h
 ·injection h with h;rw [← h]
 ·cases h
theorem ldL_inc:IncR (ldL p N rk):=incR_fm (fun _ _ h=>ldR_s h) (onF_inc N)
theorem blL_inc:IncR (blL p N rk):=incR_fm (fun _ _ h=>blR_s h) (onF_inc N)
theorem foL_inc:IncR (foL p):=incR_fm (fun _ _ h=>foR_s h) (rng_inc _)
theorem foL_eq (h:p.ok):foL p = p.f.map fun s=>⟨s,1,1,-1⟩:=by
 refine incR_ext foL_inc ?_ fun r=>?_
 ·unfold IncR
  rw [List.pairwise_map]
  exact h.finc.imp fun {a b} hab=>hab
 ·unfold foL foR
  rw [List.mem_filterMap,List.mem_map]
  constructor
  ·rintro ⟨s,_,hs⟩
   split at hs
   ·rename_i hf
    injection hs with hs
    exact ⟨s,hasB_mem.1 hf,hs⟩
   ·cases hs
  ·rintro ⟨s,hs,rfl⟩
   exact ⟨s,rngI_mem.2 (h.frng s hs),by rw [if_pos (hasB_mem.2 hs)]⟩
def uncX (p:Mx) (N:List Bool) (rk:Int) (l:List Rm) (x:Ed):List Rm :=
 if fl N x.f = false ∨ fl N x.t = true ∨ hasB p.u x.e = false then l else if l.getLast?.map (·.s) = some x.f then l else l ++ [⟨x.f,rk,2,x.e⟩]
def uncL (p:Mx) (N:List Bool) (rk:Int):List Rm:=p.a.ed.foldl (uncX p N rk) []
structure UncI (p:Mx) (N:List Bool) (rk:Int) (pre:List Ed) (l:List Rm):Prop where
 inc:IncR l
 mem:∀ r,r ∈ l ↔ fl N r.s = true∧r.k = rk∧r.r = 2∧∃ x,pre.find? (ldP p N r.s) = some x∧x.e = r.e
theorem inc_last {l:List Rm} (h:IncR l) {y:Rm} (hy:l.getLast? = some y):∀ r ∈ l,r = y ∨ r.s < y.s:=by
 obtain ⟨m,rfl⟩:=List.getLast?_eq_some_iff.1 hy
 intro r hr
 rcases List.mem_append.1 hr with h1 | h1
 ·rw [IncR,List.pairwise_append] at h
  exact .inr (h.2.2 r h1 y (List.mem_singleton.2 rfl))
 ·exact .inl (List.mem_singleton.1 h1)
theorem UncI.step {pre:List Ed} {l:List Rm} (h:UncI p N rk pre l) {x:Ed} (hp:∀ y ∈ pre,y.f ≤ x.f):UncI p N rk (pre ++ [x]) (uncX p N rk l x):=by
 have hfa:∀ s,(pre ++ [x]).find? (ldP p N s) = (pre.find? (ldP p N s)).or (if ldP p N s x = true then some x else none):=fun s=>by
  rw [List.find?_append]
  congr 1
  rw [List.find?_cons]
  by_cases hq:ldP p N s x = true
  ·rw [hq];rfl
  ·rw [if_neg hq]
   cases hq2:ldP p N s x with
   | true=>exact absurd hq2 hq
   | false=>rfl
 have hle:∀ r ∈ l,r.s ≤ x.f:=fun r hr=>by
  obtain ⟨_,_,_,y,hy,_⟩:=(h.mem r).1 hr
  have h1:=List.find?_some hy
  unfold ldP at h1
  simp only [Bool.and_eq_true,decide_eq_true_eq] at h1
  have:=hp y (List.mem_of_find?_eq_some hy)
  omega
 unfold uncX
 by_cases hc:fl N x.f = false ∨ fl N x.t = true ∨ hasB p.u x.e = false
 ·rw [if_pos hc]
  refine ⟨h.inc,fun r=>?_⟩
  rw [h.mem r,hfa]
  by_cases hq:ldP p N r.s x = true
  ·unfold ldP at hq
   simp only [Bool.and_eq_true,decide_eq_true_eq,Bool.not_eq_true'] at hq
   rcases hc with hc | hc | hc
   ·rw [hq.1.1] at hc
    simp [hc]
   ·rw [hc] at hq;exact absurd hq.2 (by simp)
   ·rw [hc] at hq;exact absurd hq.1.2 (by simp)
  ·rw [if_neg hq,Option.or_none]
 ·rw [if_neg hc]
  have hN:fl N x.f = true:=by
   cases hq:fl N x.f with
   | true=>rfl
   | false=>exact absurd (.inl hq) hc
  have hl:ldP p N x.f x = true:=by
   unfold ldP
   cases hq:fl N x.t with
   | true=>exact absurd (.inr (.inl hq)) hc
   | false =>
    cases hq2:hasB p.u x.e with
    | false=>exact absurd (.inr (.inr hq2)) hc
    | true=>simp
  have hne:∀ s,s ≠ x.f → ldP p N s x = false:=fun s hs=>by
   unfold ldP
   rw [decide_eq_false (fun e=>hs e.symm)]
   rfl
  by_cases hlast:l.getLast?.map (·.s) = some x.f
  ·rw [if_pos hlast]
   refine ⟨h.inc,fun r=>?_⟩
   rw [h.mem r,hfa]
   by_cases hs:r.s = x.f
   ·obtain ⟨y,hy,hys⟩:=Option.map_eq_some_iff.1 hlast
    obtain ⟨_,_,_,z,hz,_⟩:=(h.mem y).1 (List.mem_of_getLast? hy)
    rw [hys,← hs] at hz
    rw [hz]
    rfl
   ·rw [hne _ hs]
    simp
  ·rw [if_neg hlast]
   have hlt:∀ r ∈ l,r.s < x.f:=fun r hr=>by
    have h1:=hle r hr
    rcases Int.lt_or_eq_of_le h1 with h1 | h1
    ·exact h1
    ·cases hg:l.getLast? with
     | none=>rw [List.getLast?_eq_none_iff] at hg;rw [hg] at hr;cases hr
     | some y =>
      rw [hg] at hlast
      rcases inc_last h.inc hg r hr with h2 | h2
      ·exact absurd (by rw [← h2,← h1];rfl) hlast
      ·have:=hle y (List.mem_of_getLast? hg)
       omega
   refine ⟨?_,fun r=>?_⟩
   ·rw [IncR,List.pairwise_append]
    exact ⟨h.inc,by simp,fun r hr t ht=>by rw [List.mem_singleton.1 ht];exact hlt r hr⟩
   ·rw [List.mem_append,h.mem r,hfa,List.mem_singleton]
    by_cases hs:r.s = x.f
    ·have hno:pre.find? (ldP p N r.s) = none:=by
      cases hq:pre.find? (ldP p N r.s) with
      | none=>rfl
      | some y =>
       have:=hlt ⟨r.s,rk,2,y.e⟩ ((h.mem _).2 ⟨by rw [← hs] at hN;exact hN,rfl,rfl,y,hq,rfl⟩)
       exact absurd this (by rw [← hs];exact Int.lt_irrefl _)
     rw [hno,hs,hl,if_pos rfl,Rm.eq_iff]
     simp [hN,hs,eq_comm]
    ·rw [hne _ hs,Rm.eq_iff]
     simp [hs]
theorem uncF_spec (hs:∀ (i j:Nat) (x y:Ed),i ≤ j → p.a.ed[i]? = some x → p.a.ed[j]? = some y → x.f ≤ y.f):∀ (r pre:List Ed) (l:List Rm),pre ++ r = p.a.ed → UncI p N rk pre l → UncI p N rk p.a.ed (r.foldl (uncX p N rk) l)
 | [],pre,l,e,h=>by rw [List.append_nil] at e;rw [← e];exact h
 | x :: r,pre,l,e,h=>by
  refine uncF_spec hs r (pre ++ [x]) _ (by rw [← e];simp) (h.step fun y hy=>?_)
  obtain ⟨i,hi⟩:=List.getElem?_of_mem hy
  have hil:=(List.getElem?_eq_some_iff.1 hi).1
  refine hs i pre.length y x (by omega) ?_ ?_
  ·rw [← e,List.getElem?_append_left hil];exact hi
  ·rw [← e,List.getElem?_append_right (Nat.le_refl _),Nat.sub_self];rfl
theorem ed_le (hw:WF p.a) (i j:Nat) (x y:Ed) (hij:i ≤ j) (hx:p.a.ed[i]? = some x) (hy:p.a.ed[j]? = some y):x.f ≤ y.f:=by
 rcases Nat.lt_or_ge i j with h | h
 ·have:=(List.pairwise_iff_getElem.1 hw.einc) i j (List.getElem?_eq_some_iff.1 hx).1 (List.getElem?_eq_some_iff.1 hy).1 h
  rw [(List.getElem?_eq_some_iff.1 hx).2,(List.getElem?_eq_some_iff.1 hy).2] at this
  unfold edLt at this
  omega
 ·obtain rfl:i = j:=by omega
  rw [hx] at hy
  injection hy with hy
  rw [hy]
  exact Int.le_refl _
theorem ldL_mem {r:Rm}:r ∈ ldL p N rk ↔ ((0 ≤ r.s∧r.s < (N.length:Int))∧fl N r.s = true)∧r.k = rk∧r.r = 2∧∃ x,p.a.ed.find? (ldP p N r.s) = some x∧x.e = r.e:=by
 unfold ldL ldR ldE
 rw [List.mem_filterMap]
 constructor
 ·rintro ⟨s,hs,hr⟩
  rw [Option.map_map,Option.map_eq_some_iff] at hr
  obtain ⟨x,hx,rfl⟩:=hr
  exact ⟨onF_mem.1 hs,rfl,rfl,x,hx,rfl⟩
 ·rintro ⟨h1,h2,h3,x,hx,h4⟩
  refine ⟨r.s,onF_mem.2 h1,?_⟩
  rw [hx]
  simp [Rm.eq_iff,h3,h2,h4]
theorem uncL_eq (hw:WF p.a) (hn:(N.length:Int) = p.a.st):uncL p N rk = ldL p N rk:=by
 have h:=uncF_spec (N:=N) (rk:=rk) (ed_le hw) p.a.ed [] [] rfl ⟨List.Pairwise.nil,fun r=>by simp⟩
 refine incR_ext h.inc ldL_inc fun r=>?_
 have h1:=h.mem r
 unfold uncL
 rw [h1,ldL_mem]
 constructor
 ·rintro ⟨a,b,c,x,hx,hxe⟩
  refine ⟨⟨?_,a⟩,b,c,x,hx,hxe⟩
  have h2:=List.find?_some hx
  unfold ldP at h2
  simp only [Bool.and_eq_true,decide_eq_true_eq] at h2
  have h3:=hw.ev_rng (List.mem_of_find?_eq_some hx)
  omega
 ·rintro ⟨⟨_,a⟩,b⟩
  exact ⟨a,b⟩
theorem fm_congr {α β:Type} {f g:α → Option β}:∀ {l:List α},(∀ x ∈ l,f x = g x) → l.filterMap f = l.filterMap g
 | [],_=>rfl
 | x :: l,h=>by rw [List.filterMap_cons,List.filterMap_cons,h x List.mem_cons_self,fm_congr fun y hy=>h y (List.mem_cons_of_mem _ hy)]
def blkR (D:List Int) (N:List Bool) (rk s:Int):Option Rm:=if fl N s = true∧gI D s < 0 then some ⟨s,rk,3,-1⟩ else none
def blkL (p:Mx) (N:List Bool) (rk:Int):List Rm:=(rngI N.length).filterMap (blkR (dsS p.a.ed N p.a.ma).1 N rk)
theorem blkL_eq (hw:WF p.a) (hn:(N.length:Int) = p.a.st):blkL p N rk = blL p N rk:=by
 unfold blkL blL onF
 rw [fm_filter]
 refine fm_congr fun s hs=>?_
 have hg:=rngI_mem.1 hs
 unfold blkR blR
 by_cases hf:fl N s = true
 ·rw [if_pos hf,dsS_dst hw hn hg.1 (by omega) hf]
  simp [hf]
 ·rw [if_neg hf,if_neg (fun h=>hf h.1)]
end
end Go.Proofs.Ytdnmpndnpfklcaa
