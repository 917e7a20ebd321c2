/- Plain: least numbers of steps: the search back and the search forward (chapter 28). -/
import Derived.Test.YtdnmpndnpfklcaaIa
namespace Go.Proofs.Ytdnmpndnpfklcaa
open Go
inductive Dp (ed:List Ed) (N:List Bool) (ma:List Int):Int → Nat → Prop
 | mk {s:Int}:fl N s = true → s ∈ ma → Dp ed N ma s 0
 | st {x:Ed} {d:Nat}:x ∈ ed → fl N x.f = true → Dp ed N ma x.t d → Dp ed N ma x.f (d + 1)
def DisOk (ed:List Ed) (N:List Bool) (ma:List Int) (s v:Int):Prop:=(v = -1∧∀ d,¬ Dp ed N ma s d) ∨ ∃ d:Nat,v = (d:Int)∧Dp ed N ma s d∧∀ e,Dp ed N ma s e → d ≤ e
theorem DisOk.unique {ed:List Ed} {N:List Bool} {ma:List Int} {s v u:Int} (h:DisOk ed N ma s v) (k:DisOk ed N ma s u):v = u:=by
 rcases h with ⟨rfl,h⟩ | ⟨d,rfl,h1,h2⟩
 ·rcases k with ⟨rfl,_⟩ | ⟨e,rfl,k1,_⟩
  ·rfl
  ·exact absurd k1 (h e)
 ·rcases k with ⟨rfl,k⟩ | ⟨e,rfl,k1,k2⟩
  ·exact absurd h1 (k d)
  ·have:=h2 e k1
   have:=k2 d h1
   omega
theorem Dp.in_ {ed:List Ed} {N:List Bool} {ma:List Int} {s:Int} {d:Nat} (h:Dp ed N ma s d):fl N s = true:=by
 cases h with
 | mk h _=>exact h
 | st _ h _=>exact h
def preL (es:List Ed) (t:Int):List Ed:=es.filter fun x=>decide (x.t = t)
theorem preL_mem {es:List Ed} {t:Int} {x:Ed}:x ∈ preL es t ↔ x ∈ es∧x.t = t:=by unfold preL;simp
abbrev DS:=List Int × List Int
def dsX (N:List Bool) (d:Int) (s:DS) (x:Ed):DS:=if fl N x.f = true∧gI s.1 x.f < 0 then (s.1.set x.f.toNat (d + 1),s.2 ++ [x.f]) else s
def dsR (N:List Bool) (d:Int) (l:List Ed) (s:DS):DS:=l.foldl (dsX N d) s
def dsG (es:List Ed) (N:List Bool):Nat → Nat → DS → DS
 | 0,_,s=>s
 | g + 1,i,s=>match s.2[i]? with
  | none=>s
  | some k=>dsG es N g (i + 1) (dsR N (gI s.1 k) (preL es k) s)
def dsM (N:List Bool) (s:DS) (m:Int):DS:=if fl N m = true then (s.1.set m.toNat 0,s.2 ++ [m]) else s
def dsI (N:List Bool) (ma:List Int) (s:DS):DS:=ma.foldl (dsM N) s
def dsS (es:List Ed) (N:List Bool) (ma:List Int):DS:=dsG es N (N.length + 1) 0 (dsI N ma (List.replicate N.length (-1),[]))
section
variable {es:List Ed} {N:List Bool} {ma:List Int} {n i:Nat} {s:DS}
structure DsI (es:List Ed) (N:List Bool) (ma:List Int) (n i:Nat) (s:DS):Prop where
 len:s.1.length = n
 nd:s.2.Nodup
 rng:∀ k ∈ s.2,(0 ≤ k∧k < (n:Int))∧fl N k = true
 on:∀ k:Int,0 ≤ k → k < (n:Int) → (k ∈ s.2∧0 ≤ gI s.1 k) ∨ (k ∉ s.2∧gI s.1 k = -1)
 snd:∀ k ∈ s.2,Dp es N ma k (gI s.1 k).toNat
 mono:∀ (j j':Nat) (a b:Int),j ≤ j' → s.2[j]? = some a → s.2[j']? = some b → gI s.1 a ≤ gI s.1 b
 top:∀ (k b:Int),s.2[i]? = some k → b ∈ s.2 → gI s.1 b ≤ gI s.1 k + 1
 mkd:∀ m ∈ ma,fl N m = true → m ∈ s.2∧gI s.1 m = 0
 clo:∀ (j:Nat) (k:Int),j < i → s.2[j]? = some k → ∀ x ∈ es,x.t = k → fl N x.f = true → x.f ∈ s.2∧gI s.1 x.f ≤ gI s.1 k + 1
theorem nodup_snoc {l:List Int} {x:Int} (h:l.Nodup) (hx:x ∉ l):(l ++ [x]).Nodup:=by
 rw [List.nodup_append]
 exact ⟨h,by simp,fun a ha b hb e=>hx (by rw [List.mem_singleton.1 hb] at e;exact e ▸ ha)⟩
structure DsJ (N:List Bool) (pre:List Int) (n:Nat) (s:DS):Prop where
 len:s.1.length = n
 nd:s.2.Nodup
 on:∀ k:Int,0 ≤ k → k < (n:Int) → (k ∈ s.2∧gI s.1 k = 0) ∨ (k ∉ s.2∧gI s.1 k = -1)
 mem:∀ k,k ∈ s.2 ↔ k ∈ pre∧fl N k = true
theorem dsI_spec (hr:∀ m ∈ ma,0 ≤ m∧m < (n:Int)) (hnd:ma.Nodup):∀ (r pre:List Int) (s:DS),pre ++ r = ma → DsJ N pre n s → DsJ N ma n (dsI N r s)
 | [],pre,s,e,h=>by rw [List.append_nil] at e;rw [← e];exact h
 | m :: r,pre,s,e,h=>by
  have hm:m ∈ ma:=by rw [← e];simp
  have hg:=hr m hm
  have hnp:m ∉ pre:=by
   rw [← e,List.nodup_append] at hnd
   intro hp
   exact hnd.2.2 m hp m (by simp) rfl
  show DsJ N ma n (dsI N r (dsM N s m))
  refine dsI_spec hr hnd r (pre ++ [m]) _ (by rw [← e];simp) ?_
  unfold dsM
  by_cases hf:fl N m = true
  ·rw [if_pos hf]
   have hns:m ∉ s.2:=fun hs=>hnp ((h.mem m).1 hs).1
   refine ⟨by simp [h.len],nodup_snoc h.nd hns,fun k h0 h1=>?_,fun k=>?_⟩
   ·show (k ∈ s.2 ++ [m]∧gI (s.1.set m.toNat 0) k = 0) ∨ (k ∉ s.2 ++ [m]∧gI (s.1.set m.toNat 0) k = -1)
    rw [gI_set hg.1 (by rw [h.len];exact hg.2) h0]
    by_cases hk:k = m
    ·rw [if_pos hk];exact .inl ⟨by simp [hk],rfl⟩
    ·rw [if_neg hk]
     rcases h.on k h0 h1 with ⟨q1,q2⟩ | ⟨q1,q2⟩
     ·exact .inl ⟨List.mem_append_left _ q1,q2⟩
     ·exact .inr ⟨by simp [q1,hk],q2⟩
   ·show k ∈ s.2 ++ [m] ↔ _
    rw [List.mem_append,List.mem_append,h.mem k]
    constructor
    ·rintro (⟨q1,q2⟩ | q)
     ·exact ⟨.inl q1,q2⟩
     ·exact ⟨.inr q,by rw [List.mem_singleton.1 q];exact hf⟩
    ·rintro ⟨q1 | q1,q2⟩
     ·exact .inl ⟨q1,q2⟩
     ·exact .inr q1
  ·rw [if_neg hf]
   refine ⟨h.len,h.nd,h.on,fun k=>?_⟩
   rw [h.mem k,List.mem_append]
   constructor
   ·rintro ⟨q1,q2⟩;exact ⟨.inl q1,q2⟩
   ·rintro ⟨q1 | q1,q2⟩
    ·exact ⟨q1,q2⟩
    ·rw [List.mem_singleton.1 q1] at q2;exact absurd q2 hf
theorem gI_rep1 (n:Nat) (k:Int) (h0:0 ≤ k) (h1:k < (n:Int)):gI (List.replicate n (-1)) k = -1:=by
 unfold gI
 rw [List.getD_eq_getElem?_getD,List.getElem?_replicate,if_pos (by omega)]
 rfl
theorem DsI.start (hr:∀ m ∈ ma,0 ≤ m∧m < (n:Int)) (hnd:ma.Nodup):DsI es N ma n 0 (dsI N ma (List.replicate n (-1),[])):=by
 have h:=dsI_spec (N:=N) hr hnd ma [] (List.replicate n (-1),[]) rfl ⟨by simp,by simp,fun k h0 h1=>.inr ⟨by simp,gI_rep1 n k h0 h1⟩,fun k=>by simp⟩
 have hz:∀ k ∈ (dsI N ma (List.replicate n (-1),[])).2,gI (dsI N ma (List.replicate n (-1),[])).1 k = 0:=fun k hk=>by
  have hg:=hr k ((h.mem k).1 hk).1
  rcases h.on k hg.1 hg.2 with q | q
  ·exact q.2
  ·exact absurd hk q.1
 refine ⟨h.len,h.nd,fun k hk=>⟨hr k ((h.mem k).1 hk).1,((h.mem k).1 hk).2⟩,fun k h0 h1=>?_,fun k hk=>?_,fun j j' a b _ ha hb=>?_,fun k b hk hb=>?_,fun m hm hf=>?_,fun j k hj=>absurd hj (Nat.not_lt_zero _)⟩
 ·rcases h.on k h0 h1 with q | q
  ·exact .inl ⟨q.1,by rw [q.2];omega⟩
  ·exact .inr q
 ·rw [hz k hk];exact .mk ((h.mem k).1 hk).2 ((h.mem k).1 hk).1
 ·rw [hz a (List.mem_of_getElem? ha),hz b (List.mem_of_getElem? hb)];omega
 ·rw [hz b hb,hz k (List.mem_of_getElem? hk)];omega
 ·have:=(h.mem m).2 ⟨hm,hf⟩
  exact ⟨this,hz m this⟩
structure DsQ (es:List Ed) (N:List Bool) (ma:List Int) (n i:Nat) (k:Int) (pre:List Ed) (s:DS):Prop where
 o:DsI es N ma n i s
 at_:s.2[i]? = some k
 row:∀ x ∈ pre,fl N x.f = true → x.f ∈ s.2∧gI s.1 x.f ≤ gI s.1 k + 1
theorem DsQ.step (he:∀ x ∈ es,(0 ≤ x.f∧x.f < (n:Int))∧(0 ≤ x.t∧x.t < (n:Int))) {k:Int} {pre:List Ed} (h:DsQ es N ma n i k pre s) {x:Ed} (hx:x ∈ es) (hxt:x.t = k):DsQ es N ma n i k (pre ++ [x]) (dsX N (gI s.1 k) s x)∧gI (dsX N (gI s.1 k) s x).1 k = gI s.1 k:=by
 have hxe:=he x hx
 have hkm:=List.mem_of_getElem? h.at_
 have hil:=(List.getElem?_eq_some_iff.1 h.at_).1
 unfold dsX
 by_cases hc:fl N x.f = true∧gI s.1 x.f < 0
 ·rw [if_pos hc]
  have hns:x.f ∉ s.2:=fun hs=>by
   rcases h.o.on x.f hxe.1.1 hxe.1.2 with q | q
   ·omega
   ·exact q.1 hs
  have hk0:0 ≤ gI s.1 k:=by
   rcases h.o.on k (h.o.rng k hkm).1.1 (h.o.rng k hkm).1.2 with q | q
   ·exact q.2
   ·exact absurd hkm q.1
  have hst:∀ b:Int,0 ≤ b → gI (s.1.set x.f.toNat (gI s.1 k + 1)) b = if b = x.f then gI s.1 k + 1 else gI s.1 b:=fun b h0=>gI_set hxe.1.1 (by rw [h.o.len];exact hxe.1.2) h0
  have hold:∀ b ∈ s.2,gI (s.1.set x.f.toNat (gI s.1 k + 1)) b = gI s.1 b:=fun b hb=>by
   have hbx:b ≠ x.f:=fun e=>hns (by rw [← e];exact hb)
   rw [hst b (h.o.rng b hb).1.1,if_neg hbx]
  have hnew:gI (s.1.set x.f.toNat (gI s.1 k + 1)) x.f = gI s.1 k + 1:=by rw [hst _ hxe.1.1,if_pos rfl]
  have hsnoc:∀ (j:Nat) (b:Int),(s.2 ++ [x.f])[j]? = some b → (s.2[j]? = some b∧j < s.2.length) ∨ (b = x.f∧j = s.2.length):=fun j b hb=>by
   rcases Nat.lt_or_ge j s.2.length with h1 | h1
   ·rw [List.getElem?_append_left h1] at hb;exact .inl ⟨hb,h1⟩
   ·rw [List.getElem?_append_right h1] at hb
    have hj:j - s.2.length = 0:=by
     have:=(List.getElem?_eq_some_iff.1 hb).1
     simp at this
     omega
    rw [hj] at hb
    simp at hb
    exact .inr ⟨hb.symm,by omega⟩
  refine ⟨⟨⟨by simp [h.o.len],nodup_snoc h.o.nd hns,fun b hb=>?_,fun b h0 h1=>?_,fun b hb=>?_,fun j j' a b hjj ha hb=>?_,fun a b ha hb=>?_,fun m hm hf=>?_,fun j b hj hb y hy hyt hyf=>?_⟩,?_,fun y hy hf=>?_⟩,hold k hkm⟩
  ·rcases List.mem_append.1 hb with hb | hb
   ·exact h.o.rng b hb
   ·rw [List.mem_singleton.1 hb];exact ⟨hxe.1,hc.1⟩
  ·show (b ∈ s.2 ++ [x.f]∧0 ≤ gI (s.1.set x.f.toNat (gI s.1 k + 1)) b) ∨ (b ∉ s.2 ++ [x.f]∧gI (s.1.set x.f.toNat (gI s.1 k + 1)) b = -1)
   rw [hst b h0]
   by_cases hb:b = x.f
   ·rw [if_pos hb];exact .inl ⟨by simp [hb],by omega⟩
   ·rw [if_neg hb]
    rcases h.o.on b h0 h1 with q | q
    ·exact .inl ⟨List.mem_append_left _ q.1,q.2⟩
    ·exact .inr ⟨by simp [q.1,hb],q.2⟩
  ·show Dp es N ma b (gI (s.1.set x.f.toNat (gI s.1 k + 1)) b).toNat
   rcases List.mem_append.1 hb with hb | hb
   ·rw [hold b hb];exact h.o.snd b hb
   ·rw [List.mem_singleton.1 hb,hnew,show (gI s.1 k + 1).toNat = (gI s.1 k).toNat + 1 by omega]
    exact .st hx hc.1 (by rw [hxt];exact h.o.snd k hkm)
  ·show gI (s.1.set x.f.toNat (gI s.1 k + 1)) a ≤ gI (s.1.set x.f.toNat (gI s.1 k + 1)) b
   rcases hsnoc j a ha with ⟨ha,hja⟩ | ⟨rfl,hja⟩
   ·rcases hsnoc j' b hb with ⟨hb,hjb⟩ | ⟨rfl,hjb⟩
    ·rw [hold a (List.mem_of_getElem? ha),hold b (List.mem_of_getElem? hb)]
     exact h.o.mono j j' a b hjj ha hb
    ·rw [hold a (List.mem_of_getElem? ha),hnew]
     exact h.o.top k a h.at_ (List.mem_of_getElem? ha)
   ·rcases hsnoc j' b hb with ⟨hb,hjb⟩ | ⟨rfl,hjb⟩
    ·omega
    ·omega
  ·show gI (s.1.set x.f.toNat (gI s.1 k + 1)) b ≤ gI (s.1.set x.f.toNat (gI s.1 k + 1)) a + 1
   rcases hsnoc i a ha with ⟨ha,_⟩ | ⟨_,hj⟩
   ·rw [h.at_] at ha
    injection ha with ha
    subst ha
    rw [hold k hkm]
    rcases List.mem_append.1 hb with hb | hb
    ·rw [hold b hb];exact h.o.top k b h.at_ hb
    ·rw [List.mem_singleton.1 hb,hnew];omega
   ·omega
  ·have:=h.o.mkd m hm hf
   exact ⟨List.mem_append_left _ this.1,by show gI (s.1.set x.f.toNat (gI s.1 k + 1)) m = 0;rw [hold m this.1];exact this.2⟩
  ·show y.f ∈ s.2 ++ [x.f]∧gI (s.1.set x.f.toNat (gI s.1 k + 1)) y.f ≤ gI (s.1.set x.f.toNat (gI s.1 k + 1)) b + 1
   rcases hsnoc j b hb with ⟨hb,_⟩ | ⟨_,hj2⟩
   ·have:=h.o.clo j b hj hb y hy hyt hyf
    rw [hold y.f this.1,hold b (List.mem_of_getElem? hb)]
    exact ⟨List.mem_append_left _ this.1,this.2⟩
   ·omega
  ·show (s.2 ++ [x.f])[i]? = some k
   rw [List.getElem?_append_left hil];exact h.at_
  ·show y.f ∈ s.2 ++ [x.f]∧gI (s.1.set x.f.toNat (gI s.1 k + 1)) y.f ≤ gI (s.1.set x.f.toNat (gI s.1 k + 1)) k + 1
   rw [hold k hkm]
   rcases List.mem_append.1 hy with hy | hy
   ·have:=h.row y hy hf
    rw [hold y.f this.1]
    exact ⟨List.mem_append_left _ this.1,this.2⟩
   ·rw [List.mem_singleton.1 hy,hnew]
    exact ⟨by simp,by omega⟩
 ·rw [if_neg hc]
  refine ⟨⟨h.o,h.at_,fun y hy hf=>?_⟩,rfl⟩
  rcases List.mem_append.1 hy with hy | hy
  ·exact h.row y hy hf
  ·rw [List.mem_singleton.1 hy] at hf ⊢
   rcases h.o.on x.f hxe.1.1 hxe.1.2 with q | q
   ·exact ⟨q.1,h.o.top k x.f h.at_ q.1⟩
   ·exact absurd ⟨hf,by omega⟩ hc
theorem DsQ.rows (he:∀ x ∈ es,(0 ≤ x.f∧x.f < (n:Int))∧(0 ≤ x.t∧x.t < (n:Int))) {k d:Int}:∀ (r pre:List Ed) (s:DS),(∀ x ∈ r,x ∈ es∧x.t = k) → gI s.1 k = d → DsQ es N ma n i k pre s → DsQ es N ma n i k (pre ++ r) (dsR N d r s)
 | [],pre,s,_,_,h=>by rw [List.append_nil];exact h
 | x :: r,pre,s,hr,hd,h=>by
  obtain ⟨h1,h2⟩:=h.step he (hr x List.mem_cons_self).1 (hr x List.mem_cons_self).2
  rw [hd] at h1 h2
  have:=DsQ.rows he r (pre ++ [x]) (dsX N d s x) (fun y hy=>hr y (List.mem_cons_of_mem _ hy)) h2 h1
  rw [List.append_assoc] at this
  exact this
theorem DsI.round (he:∀ x ∈ es,(0 ≤ x.f∧x.f < (n:Int))∧(0 ≤ x.t∧x.t < (n:Int))) (h:DsI es N ma n i s) {k:Int} (hk:s.2[i]? = some k):DsI es N ma n (i + 1) (dsR N (gI s.1 k) (preL es k) s):=by
 have hq:=DsQ.rows he (preL es k) [] s (fun x hx=>preL_mem.1 hx) rfl ⟨h,hk,fun x hx=>by cases hx⟩
 rw [List.nil_append] at hq
 obtain ⟨o,a,r⟩:=hq
 refine ⟨o.len,o.nd,o.rng,o.on,o.snd,o.mono,fun b c hb hc=>?_,o.mkd,fun j b hj hb x hx hxt hf=>?_⟩
 ·have h1:=o.mono i (i + 1) k b (by omega) a hb
  have h2:=o.top k c a hc
  omega
 ·rcases Nat.lt_or_ge j i with h1 | h1
  ·exact o.clo j b h1 hb x hx hxt hf
  ·obtain rfl:j = i:=by omega
   rw [a] at hb
   injection hb with hb
   subst hb
   exact r x (preL_mem.2 ⟨hx,hxt⟩) hf
theorem DsI.qlen (h:DsI es N ma n i s):s.2.length ≤ n:=by
 have:=nodup_le (m:=rngI (n:Int)) h.nd (fun k hk=>rngI_mem.2 (h.rng k hk).1)
 rwa [rngI_len,Int.toNat_natCast] at this
theorem DsI.fin (h:DsI es N ma n i s) (hi:s.2.length ≤ i) {k:Int} (h0:0 ≤ k) (h1:k < (n:Int)):DisOk es N ma k (gI s.1 k):=by
 have hle:∀ (k:Int) (d:Nat),Dp es N ma k d → k ∈ s.2∧gI s.1 k ≤ (d:Int):=fun k d hd=>by
  induction hd with
  | mk hf hm=>have:=h.mkd _ hm hf;exact ⟨this.1,by omega⟩
  | st hx hf _ ih =>
   obtain ⟨j,hj⟩:=List.getElem?_of_mem ih.1
   have:=h.clo j _ (by have:=(List.getElem?_eq_some_iff.1 hj).1;omega) hj _ hx rfl hf
   exact ⟨this.1,by omega⟩
 rcases h.on k h0 h1 with ⟨q1,q2⟩ | ⟨q1,q2⟩
 ·exact .inr ⟨(gI s.1 k).toNat,by omega,h.snd k q1,fun e he=>by have:=(hle k e he).2;omega⟩
 ·exact .inl ⟨q2,fun d hd=>q1 (hle k d hd).1⟩
theorem dsG_spec (he:∀ x ∈ es,(0 ≤ x.f∧x.f < (n:Int))∧(0 ≤ x.t∧x.t < (n:Int))):∀ (g i:Nat) (s:DS),DsI es N ma n i s → n + 1 ≤ g + i → (dsG es N g i s).1.length = n∧∀ k:Int,0 ≤ k → k < (n:Int) → DisOk es N ma k (gI (dsG es N g i s).1 k)
 | 0,i,s,h,hg=>⟨h.len,fun k h0 h1=>h.fin (by have:=h.qlen;omega) h0 h1⟩
 | g + 1,i,s,h,hg=>by
  unfold dsG
  cases hk:s.2[i]? with
  | none=>exact ⟨h.len,fun k h0 h1=>h.fin (List.getElem?_eq_none_iff.1 hk) h0 h1⟩
  | some k=>exact dsG_spec he g (i + 1) _ (h.round he hk) (by omega)
theorem dsS_spec (he:∀ x ∈ es,(0 ≤ x.f∧x.f < (N.length:Int))∧(0 ≤ x.t∧x.t < (N.length:Int))) (hr:∀ m ∈ ma,0 ≤ m∧m < (N.length:Int)) (hnd:ma.Nodup) :
  (dsS es N ma).1.length = N.length∧∀ k:Int,0 ≤ k → k < (N.length:Int) → DisOk es N ma k (gI (dsS es N ma).1 k) :=
 dsG_spec he (N.length + 1) 0 _ (DsI.start hr hnd) (by omega)
end
end Go.Proofs.Ytdnmpndnpfklcaa
