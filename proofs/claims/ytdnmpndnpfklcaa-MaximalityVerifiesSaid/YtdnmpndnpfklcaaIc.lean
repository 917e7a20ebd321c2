/- Plain: the word that the search forward finds is a shortest one (chapter 28). -/
import Derived.Test.YtdnmpndnpfklcaaIb
namespace Go.Proofs.Ytdnmpndnpfklcaa
open Go
structure PaD (a:Aut) (perm:Ed → Bool) (i:Nat) (l:List Stp) (D:List Nat):Prop where
 len:D.length = l.length
 zero:D[0]? = some 0
 par:∀ (k:Nat) (t:Stp) (d:Nat),0 < k → l[k]? = some t → D[k]? = some d → ∃ e,D[t.f.toNat]? = some e∧d = e + 1
 mono:∀ (j k d e:Nat),j ≤ k → D[j]? = some d → D[k]? = some e → d ≤ e
 top:∀ d,D[i]? = some d → ∀ (k e:Nat),D[k]? = some e → e ≤ d + 1
 clo:∀ (k:Nat) (t:Stp) (d:Nat),k < i → l[k]? = some t → D[k]? = some d → ∀ x ∈ outE a t.s,perm x = true → ∃ (j:Nat) (u:Stp) (e:Nat),l[j]? = some u∧u.s = x.t∧D[j]? = some e∧e ≤ d + 1
section
variable {a:Aut} {perm:Ed → Bool} {st:Int} {n i:Nat} {l:List Stp} {N:List Bool} {D:List Nat}
theorem snoc_at {α:Type} {l:List α} {x y:α} {k:Nat} (h:(l ++ [x])[k]? = some y):(l[k]? = some y∧k < l.length) ∨ (y = x∧k = l.length):=by
 rcases Nat.lt_or_ge k l.length with h1 | h1
 ·rw [List.getElem?_append_left h1] at h;exact .inl ⟨h,h1⟩
 ·rw [List.getElem?_append_right h1] at h
  have hj:k - l.length = 0:=by
   have:=(List.getElem?_eq_some_iff.1 h).1
   simp at this
   omega
  rw [hj] at h
  simp at h
  exact .inr ⟨h.symm,by omega⟩
theorem at_snoc {α:Type} {l:List α} {x y:α} {k:Nat} (h:l[k]? = some y):(l ++ [x])[k]? = some y:=by
 rw [List.getElem?_append_left (List.getElem?_eq_some_iff.1 h).1];exact h
theorem PaD.start:PaD a perm 0 [⟨st,-1,-1⟩] [0]:=by
 have h0:∀ (k d:Nat),([0]:List Nat)[k]? = some d → k = 0∧d = 0:=fun k d h=>by
  cases k with
  | zero=>simp at h;exact ⟨rfl,h.symm⟩
  | succ k=>simp at h
 refine ⟨rfl,rfl,fun k t d hk _ hd=>?_,fun j k d e _ hd he=>?_,fun d hd k e he=>?_,fun k t d hk=>by omega⟩
 ·have:=h0 k d hd;omega
 ·rw [(h0 j d hd).2,(h0 k e he).2];exact Nat.le_refl _
 ·rw [(h0 k e he).2];exact Nat.zero_le _
theorem PaD.push (h:PaD a perm i l D) {d:Nat} (hd:D[i]? = some d) (s v:Int):PaD a perm i (l ++ [⟨s,i,v⟩]) (D ++ [d + 1]):=by
 have hil:=(List.getElem?_eq_some_iff.1 hd).1
 refine ⟨by simp [h.len],at_snoc h.zero,fun k t c hk ht hc=>?_,fun j k c e hjk hc he=>?_,fun c hc k e he=>?_,fun k t c hk ht hc x hx hp=>?_⟩
 ·rcases snoc_at ht with ⟨ht,hkl⟩ | ⟨rfl,hkl⟩
  ·rcases snoc_at hc with ⟨hc,_⟩ | ⟨_,h2⟩
   ·obtain ⟨e,he,hee⟩:=h.par k t c hk ht hc
    exact ⟨e,at_snoc he,hee⟩
   ·have:=h.len;omega
  ·rcases snoc_at hc with ⟨_,h2⟩ | ⟨rfl,_⟩
   ·have:=h.len;omega
   ·exact ⟨d,by show (D ++ [d + 1])[((i:Nat):Int).toNat]? = some d;rw [Int.toNat_natCast];exact at_snoc hd,rfl⟩
 ·rcases snoc_at hc with ⟨hc,h1⟩ | ⟨rfl,h1⟩
  ·rcases snoc_at he with ⟨he,h2⟩ | ⟨rfl,h2⟩
   ·exact h.mono j k c e hjk hc he
   ·exact h.top d hd j c hc
  ·rcases snoc_at he with ⟨he,h2⟩ | ⟨rfl,h2⟩
   ·omega
   ·exact Nat.le_refl _
 ·rcases snoc_at hc with ⟨hc,h1⟩ | ⟨_,h1⟩
  ·rw [hd] at hc
   injection hc with hc
   subst hc
   rcases snoc_at he with ⟨he,_⟩ | ⟨rfl,_⟩
   ·exact h.top d hd k e he
   ·exact Nat.le_refl _
  ·omega
 ·rcases snoc_at ht with ⟨ht,hkl⟩ | ⟨_,hkl⟩
  ·rcases snoc_at hc with ⟨hc,_⟩ | ⟨_,h2⟩
   ·obtain ⟨j,u,e,h1,h2,h3,h4⟩:=h.clo k t c hk ht hc x hx hp
    exact ⟨j,u,e,at_snoc h1,h2,at_snoc h3,h4⟩
   ·have:=h.len;omega
  ·have:=h.len;omega
theorem PaD.row (hw:WF a) (hn:a.st = (n:Int)) {t:Stp} {d:Nat}:∀ (r:List Ed) (l:List Stp) (N:List Bool) (D:List Nat),(∀ x ∈ r,x ∈ outE a t.s) → l[i]? = some t → PtQ a perm st n i l N → PaD a perm i l D → D[i]? = some d →
  ∃ D2:List Nat,PaD a perm i (rowS perm i r l N).1 D2∧(∀ (k c:Nat),D[k]? = some c → D2[k]? = some c)∧(∀ (k:Nat) (c:Stp),l[k]? = some c → (rowS perm i r l N).1[k]? = some c)∧∀ x ∈ r,perm x = true → ∃ (j:Nat) (u:Stp) (e:Nat),(rowS perm i r l N).1[j]? = some u∧u.s = x.t∧D2[j]? = some e∧e ≤ d + 1
 | [],l,N,D,_,_,_,hD,_=>⟨D,hD,fun _ _ h=>h,fun _ _ h=>h,fun x hx=>by cases hx⟩
 | x :: r,l,N,D,hr,ht,h,hD,hd=>by
  have hx:=outE_mem.1 (hr x List.mem_cons_self)
  have hrr:=fun y hy=>hr y (List.mem_cons_of_mem x hy)
  by_cases hc:fl N x.t = false∧perm x = true
  ·rw [rowS_pos hc]
   obtain ⟨D2,h1,h2,h3,h4⟩:=PaD.row hw hn r _ _ _ hrr (at_snoc ht) (h.push hw hn ht hx.1 hx.2 hc.2 hc.1) (hD.push hd x.t x.e) (at_snoc hd)
   refine ⟨D2,h1,fun k c hk=>h2 k c (at_snoc hk),fun k c hk=>h3 k c (at_snoc hk),fun y hy hp=>?_⟩
   rcases List.mem_cons.1 hy with rfl | hy
   ·refine ⟨l.length,⟨y.t,i,y.e⟩,d + 1,h3 _ _ (by simp),rfl,h2 _ _ ?_,Nat.le_refl _⟩
    rw [← hD.len];simp
   ·exact h4 y hy hp
  ·rw [rowS_neg hc]
   obtain ⟨D2,h1,h2,h3,h4⟩:=PaD.row hw hn r l N D hrr ht h hD hd
   refine ⟨D2,h1,h2,h3,fun y hy hp=>?_⟩
   rcases List.mem_cons.1 hy with rfl | hy
   ·have hf:fl N y.t = true:=by
     cases hf:fl N y.t with
     | true=>rfl
     | false=>exact absurd ⟨hf,hp⟩ hc
    obtain ⟨u,hu,hus⟩:=(h.on y.t (hw.ev_rng hx.1).2.2.1).1 hf
    obtain ⟨j,hj⟩:=List.getElem?_of_mem hu
    have hjl:j < D.length:=by rw [hD.len];exact (List.getElem?_eq_some_iff.1 hj).1
    exact ⟨j,u,D[j],h3 j u hj,hus,h2 j _ (List.getElem?_eq_getElem hjl),hD.top d hd j _ (List.getElem?_eq_getElem hjl)⟩
   ·exact h4 y hy hp
theorem PaD.back (h:PtQ a perm st n i l N) (hD:PaD a perm i l D):∀ (g k d:Nat),k < g → k < l.length → D[k]? = some d → (bckS l g k).length = d
 | 0,k,d,hk,_,_=>by omega
 | g + 1,k,d,hk,hkl,hd=>by
  have ht:=List.getElem?_eq_getElem hkl
  unfold bckS
  rw [Int.toNat_natCast,ht]
  simp only
  by_cases h0:k = 0
  ·subst h0
   rw [h.head] at ht
   injection ht with ht
   rw [← ht,if_pos (by show (-1:Int) < 0;omega)]
   rw [hD.zero] at hd
   injection hd with hd
  ·obtain ⟨x,u,h1,h2,h3,h4,h5,h6,h7,h8⟩:=h.par k _ (by omega) ht
   obtain ⟨e,he,hee⟩:=hD.par k _ d (by omega) ht hd
   rw [if_neg (by omega),List.length_cons]
   have hb:=PaD.back h hD g (l[k]).f.toNat e (by omega) (List.getElem?_eq_some_iff.1 h7).1 he
   rw [show (((l[k]).f.toNat:Nat):Int) = (l[k]).f by omega] at hb
   rw [hb,hee]
theorem PaD.least (h:PtQ a perm st n i l N) (hD:PaD a perm i l D) {d:Nat} (hd:D[i]? = some d) {want:Int → Bool} (hno:∀ (k:Nat) (t:Stp),k < i → l[k]? = some t → want t.s = false)
  {vs:List Int} {u:Int} (hv:Wk a.ed perm st vs u):d ≤ vs.length ∨ ∃ (k:Nat) (t:Stp) (e:Nat),k < i∧l[k]? = some t∧t.s = u∧D[k]? = some e∧e ≤ vs.length:=by
 induction hv with
 | nil =>
  by_cases hi:i = 0
  ·subst hi
   rw [hD.zero] at hd
   injection hd with hd
   exact .inl (by omega)
  ·exact .inr ⟨0,_,0,by omega,h.head,rfl,hD.zero,Nat.le_refl _⟩
 | snoc hv hx hp hxf ih =>
  rw [List.length_append,List.length_singleton]
  rcases ih with ih | ⟨k,t,e,hk,ht,hts,he,hev⟩
  ·exact .inl (by omega)
  ·obtain ⟨j,u,c,h1,h2,h3,h4⟩:=hD.clo k t e hk ht he _ (outE_mem.2 ⟨hx,by rw [hxf,hts]⟩) hp
   rcases Nat.lt_or_ge j i with hj | hj
   ·exact .inr ⟨j,u,c,hj,h1,h2,h3,by omega⟩
   ·exact .inl (by have:=hD.mono i j d c hj hd h3;omega)
theorem pthF_short (hw:WF a) (hn:a.st = (n:Int)) {want:Int → Bool} {ws:List Int}:∀ (g i:Nat) (l:List Stp) (N:List Bool) (D:List Nat),PtQ a perm st n i l N → PaD a perm i l D → (∀ (k:Nat) (t:Stp),k < i → l[k]? = some t → want t.s = false) →
  pthF a want perm g i l N = some ws → ∀ vs u,Wk a.ed perm st vs u → want u = true → ws.length ≤ vs.length
 | 0,i,l,N,D,h,hD,hno,hf=>by simp [pthF] at hf
 | g + 1,i,l,N,D,h,hD,hno,hf=>by
  unfold pthF at hf
  cases ht:l[i]? with
  | none=>rw [ht] at hf;simp at hf
  | some t =>
   rw [ht] at hf
   simp only at hf
   have hil:=(List.getElem?_eq_some_iff.1 ht).1
   have hdl:i < D.length:=by rw [hD.len];exact hil
   have hd:=List.getElem?_eq_getElem hdl
   by_cases hq:want t.s = true
   ·rw [if_pos hq] at hf
    injection hf with hf
    intro vs u hv hu
    rw [← hf,List.length_reverse,PaD.back h hD l.length i _ hil hil hd]
    rcases hD.least h hd hno hv with h1 | ⟨k,t2,e,hk,ht2,hts,_,_⟩
    ·exact h1
    ·have:=hno k t2 hk ht2
     rw [hts,hu] at this
     cases this
   ·rw [if_neg hq] at hf
    obtain ⟨h1,h2,h3,h4⟩:=PtQ.row hw hn (t:=t) (outE a t.s) l N (fun _ hx=>hx) ht h
    obtain ⟨D2,e1,e2,e3,e4⟩:=PaD.row hw hn (t:=t) (outE a t.s) l N D (fun _ hx=>hx) ht h hD hd
    have hold:∀ k u,k < i + 1 → (rowS perm i (outE a t.s) l N).1[k]? = some u → l[k]? = some u:=fun k u hk hu=>by
     have:=e3 k _ (List.getElem?_eq_getElem (show k < l.length by omega))
     rw [hu] at this
     injection this with this
     rw [this]
     exact List.getElem?_eq_getElem _
    have holdD:∀ k c,k < i + 1 → D2[k]? = some c → D[k]? = some c:=fun k c hk hc=>by
     have:=e2 k _ (List.getElem?_eq_getElem (show k < D.length by omega))
     rw [hc] at this
     injection this with this
     rw [this]
     exact List.getElem?_eq_getElem _
    refine pthF_short hw hn g (i + 1) _ _ D2 ⟨h1.w,h1.head,h1.par,h1.on,fun k u hk hu y hy hyp=>?_⟩ ⟨e1.len,e1.zero,e1.par,e1.mono,fun c hc k e he=>?_,fun k u c hk hu hc y hy hyp=>?_⟩ (fun k u hk hu=>?_) hf
    ·by_cases hki:k = i
     ·subst hki
      rw [h2] at hu
      injection hu with hu
      subst hu
      exact h4 y hy hyp
     ·exact h1.clo k u (by omega) hu y hy hyp
    ·have q1:=e1.top _ (e2 i _ hd) k e he
     have q2:=e1.mono i (i + 1) _ c (by omega) (e2 i _ hd) hc
     omega
    ·by_cases hki:k = i
     ·subst hki
      rw [h2] at hu
      injection hu with hu
      subst hu
      rw [e2 k _ hd] at hc
      injection hc with hc
      subst hc
      exact e4 y hy hyp
     ·exact e1.clo k u c (by omega) hu hc y hy hyp
    ·by_cases hki:k = i
     ·subst hki
      rw [h2] at hu
      injection hu with hu
      subst hu
      simpa using hq
     ·exact hno k u (by omega) (hold k u hk hu)
theorem pathS_short (hw:WF a) {want:Int → Bool} (h0:0 ≤ st) (h1:st < a.st) {ws vs:List Int} {u:Int} (h:pathS a st want perm = some ws) (hv:Wk a.ed perm st vs u) (hu:want u = true):ws.length ≤ vs.length:=by
 obtain ⟨n,hn⟩:∃ n:Nat,a.st = (n:Int):=⟨a.st.toNat,by omega⟩
 have hst:a.st.toNat = n:=by omega
 unfold pathS at h
 rw [hst] at h
 exact pthF_short hw hn (n + 1) 0 _ _ _ (PtQ.start h0 (by omega)) PaD.start (fun k t hk=>by omega) h vs u hv hu
theorem Wk.flag {vs:List Int} {t:Int} (h:Wk a.ed (fun x=>fl N x.t) st vs t) (hs:fl N st = true):fl N t = true:=by
 cases h with
 | nil=>exact hs
 | snoc _ _ hp _=>exact hp
theorem Wk.dp {ma vs:List Int} {t:Int} {d:Nat} (h:Wk a.ed (fun x=>fl N x.t) st vs t) (hs:fl N st = true) (hd:Dp a.ed N ma t d):Dp a.ed N ma st (vs.length + d):=by
 induction h generalizing d with
 | nil=>simpa using hd
 | snoc h hx hp hxf ih =>
  have hq:Dp a.ed N ma _ (d + 1):=Dp.st hx (by rw [hxf];exact h.flag hs) hd
  rw [hxf] at hq
  have:=ih hq
  rw [List.length_append,List.length_singleton,show ∀ a d:Nat,a + 1 + d = a + (d + 1) by omega]
  exact this
theorem Dp.wk {ma:List Int} {d:Nat} (h:Dp a.ed N ma st d):∃ vs u,Wk a.ed (fun x=>fl N x.t) st vs u∧u ∈ ma∧vs.length = d:=by
 induction h with
 | mk _ hm=>exact ⟨[],_,.nil,hm,rfl⟩
 | st hx _ hd ih =>
  obtain ⟨vs,u,h1,h2,h3⟩:=ih
  exact ⟨_,u,(Wk.one (perm:=fun x=>fl N x.t) hx hd.in_).app h1,h2,by rw [List.length_append,h3,List.length_singleton,Nat.add_comm]⟩
def dstF (a:Aut) (N:List Bool) (s:Int):Int:=match pathS a s (fun u=>hasB a.ma u) (fun x=>fl N x.t) with | some ws=>(ws.length:Int) | none=>-1
theorem dstF_ok (hw:WF a) (h0:0 ≤ st) (h1:st < a.st) (hs:fl N st = true):DisOk a.ed N a.ma st (dstF a N st):=by
 have hp:=pathS_spec (perm:=fun x=>fl N x.t) (want:=fun u=>hasB a.ma u) hw h0 h1
 unfold dstF
 cases hq:pathS a st (fun u=>hasB a.ma u) (fun x=>fl N x.t) with
 | none =>
  rw [hq] at hp
  simp only at hp
  refine .inl ⟨rfl,fun d hd=>?_⟩
  obtain ⟨vs,u,h1,h2,_⟩:=hd.wk
  have:=hp u h1.rc
  rw [hasB_mem.2 h2] at this
  cases this
 | some ws =>
  rw [hq] at hp
  obtain ⟨u,hu,hwk⟩:=hp
  refine .inr ⟨ws.length,rfl,?_,fun e he=>?_⟩
  ·have:=hwk.dp hs (.mk (hwk.flag hs) (hasB_mem.1 hu))
   exact this
  ·obtain ⟨vs,v,k1,k2,k3⟩:=he.wk
   rw [← k3]
   exact pathS_short hw h0 h1 hq k1 (hasB_mem.2 k2)
theorem dsS_dst (hw:WF a) (hn:(N.length:Int) = a.st) {s:Int} (h0:0 ≤ s) (h1:s < a.st) (hs:fl N s = true):gI (dsS a.ed N a.ma).1 s = dstF a N s:=by
 have he:∀ x ∈ a.ed,(0 ≤ x.f∧x.f < (N.length:Int))∧(0 ≤ x.t∧x.t < (N.length:Int)):=fun x hx=>by
  have:=hw.ev_rng hx
  rw [hn]
  exact ⟨⟨this.1,this.2.1⟩,this.2.2.1,this.2.2.2.1⟩
 have hm:∀ m ∈ a.ma,0 ≤ m∧m < (N.length:Int):=fun m hm=>by rw [hn];exact hw.mrng m hm
 exact ((dsS_spec he hm (hw.minc.imp fun {a b} hab=>by omega)).2 s h0 (by omega)).unique (dstF_ok hw h0 h1 hs)
end
end Go.Proofs.Ytdnmpndnpfklcaa
