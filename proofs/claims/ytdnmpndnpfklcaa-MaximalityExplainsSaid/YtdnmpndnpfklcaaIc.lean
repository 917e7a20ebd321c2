/- Plain: least numbers of steps: the search back and the search forward (chapter 28). -/
import Derived.Test.YtdnmpndnpfklcaaIa

namespace Go.Proofs.Ytdnmpndnpfklcaa
open Go
inductive Dp (ed:List Ed) (N:List Bool) (ma:List Int):Int → Nat → Prop
  | mk {s:Int}:fl N s = true → s ∈ ma → Dp ed N ma s 0
  | st {x:Ed} {d:Nat}:x ∈ ed → fl N x.f = true → Dp ed N ma x.t d → Dp ed N ma x.f (d + 1)
def DisOk (ed:List Ed) (N:List Bool) (ma:List Int) (s v:Int):Prop:=(v = -1∧∀ d,¬ Dp ed N ma s d) ∨ ∃ d:Nat,v = (d:Int)∧Dp ed N ma s d∧∀ e,Dp ed N ma s e → d ≤ e
theorem DisOk.unique {ed:List Ed} {N:List Bool} {ma:List Int} {s v u:Int} (h:DisOk ed N ma s v) (k:DisOk ed N ma s u):v = u:=by
  rcases h with ⟨rfl,h⟩ | ⟨d,rfl,h1,h2⟩
  · rcases k with ⟨rfl,_⟩ | ⟨e,rfl,k1,_⟩
    · rfl
    · exact absurd k1 (h e)
  · rcases k with ⟨rfl,k⟩ | ⟨e,rfl,k1,k2⟩
    · exact absurd h1 (k d)
    · have:=h2 e k1
      have:=k2 d h1
      omega
theorem Dp.in_ {ed:List Ed} {N:List Bool} {ma:List Int} {s:Int} {d:Nat} (h:Dp ed N ma s d):fl N s = true:=by
  cases h with
  | mk h _=>exact h
  | st _ h _=>exact h
def preL (es:List Ed) (t:Int):List Ed:=es.filter fun x=>decide (x.t = t)
theorem preL_mem {es:List Ed} {t:Int} {x:Ed}:x ∈ preL es t ↔ x ∈ es∧x.t = t:=by unfold preL;simp
abbrev DS:=List Int × List Int
def dsX (N:List Bool) (d:Int) (s:DS) (x:Ed):DS:=if fl N x.f = true∧gI s.1 x.f < 0 then (s.1.set x.f.toNat (d + 1),s.2 ++ [x.f]) else s
def dsR (N:List Bool) (d:Int) (l:List Ed) (s:DS):DS:=l.foldl (dsX N d) s
def dsG (es:List Ed) (N:List Bool):Nat → Nat → DS → DS
  | 0,_,s=>s
  | g + 1,i,s=>match s.2[i]? with
    | none=>s
    | some k=>dsG es N g (i + 1) (dsR N (gI s.1 k) (preL es k) s)
def dsM (N:List Bool) (s:DS) (m:Int):DS:=if fl N m = true then (s.1.set m.toNat 0,s.2 ++ [m]) else s
def dsI (N:List Bool) (ma:List Int) (s:DS):DS:=ma.foldl (dsM N) s
def dsS (es:List Ed) (N:List Bool) (ma:List Int):DS:=dsG es N (N.length + 1) 0 (dsI N ma (List.replicate N.length (-1),[]))
section
variable {es:List Ed} {N:List Bool} {ma:List Int} {n i:Nat} {s:DS}
structure DsI (es:List Ed) (N:List Bool) (ma:List Int) (n i:Nat) (s:DS):Prop where
  len:s.1.length = n
  nd:s.2.Nodup
  rng:∀ k ∈ s.2,(0 ≤ k∧k < (n:Int))∧fl N k = true
  on:∀ k:Int,0 ≤ k → k < (n:Int) → (k ∈ s.2∧0 ≤ gI s.1 k) ∨ (k ∉ s.2∧gI s.1 k = -1)
  snd:∀ k ∈ s.2,Dp es N ma k (gI s.1 k).toNat
  mono:∀ (j j':Nat) (a b:Int),j ≤ j' → s.2[j]? = some a → s.2[j']? = some b → gI s.1 a ≤ gI s.1 b
  top:∀ (k b:Int),s.2[i]? = some k → b ∈ s.2 → gI s.1 b ≤ gI s.1 k + 1
  mkd:∀ m ∈ ma,fl N m = true → m ∈ s.2∧gI s.1 m = 0
  clo:∀ (j:Nat) (k:Int),j < i → s.2[j]? = some k → ∀ x ∈ es,x.t = k → fl N x.f = true → x.f ∈ s.2∧gI s.1 x.f ≤ gI s.1 k + 1
theorem nodup_snoc {l:List Int} {x:Int} (h:l.Nodup) (hx:x ∉ l):(l ++ [x]).Nodup:=by
  rw [List.nodup_append]
  exact ⟨h,by simp,fun a ha b hb e=>hx (by rw [List.mem_singleton.1 hb] at e;exact e ▸ ha)⟩
structure DsJ (N:List Bool) (pre:List Int) (n:Nat) (s:DS):Prop where
  len:s.1.length = n
  nd:s.2.Nodup
  on:∀ k:Int,0 ≤ k → k < (n:Int) → (k ∈ s.2∧gI s.1 k = 0) ∨ (k ∉ s.2∧gI s.1 k = -1)
  mem:∀ k,k ∈ s.2 ↔ k ∈ pre∧fl N k = true
theorem dsI_spec (hr:∀ m ∈ ma,0 ≤ m∧m < (n:Int)) (hnd:ma.Nodup):∀ (r pre:List Int) (s:DS),pre ++ r = ma → DsJ N pre n s → DsJ N ma n (dsI N r s)
  | [],pre,s,e,h=>by rw [List.append_nil] at e;rw [← e];exact h
  | m :: r,pre,s,e,h=>by
    have hm:m ∈ ma:=by rw [← e];simp
    have hg:=hr m hm
    have hnp:m ∉ pre:=by
      rw [← e,List.nodup_append] at hnd
      intro hp
      exact hnd.2.2 m hp m (by simp) rfl
    show DsJ N ma n (dsI N r (dsM N s m))
    refine dsI_spec hr hnd r (pre ++ [m]) _ (by rw [← e];simp) ?_
    unfold dsM
    by_cases hf:fl N m = true
    · rw [if_pos hf]
      have hns:m ∉ s.2:=fun hs=>hnp ((h.mem m).1 hs).1
      refine ⟨by simp [h.len],nodup_snoc h.nd hns,fun k h0 h1=>?_,fun k=>?_⟩
      · show (k ∈ s.2 ++ [m]∧gI (s.1.set m.toNat 0) k = 0) ∨ (k ∉ s.2 ++ [m]∧gI (s.1.set m.toNat 0) k = -1)
        rw [gI_set hg.1 (by rw [h.len];exact hg.2) h0]
        by_cases hk:k = m
        · rw [if_pos hk];exact .inl ⟨by simp [hk],rfl⟩
        · rw [if_neg hk]
          rcases h.on k h0 h1 with ⟨q1,q2⟩ | ⟨q1,q2⟩
          · exact .inl ⟨List.mem_append_left _ q1,q2⟩
          · exact .inr ⟨by simp [q1,hk],q2⟩
      · show k ∈ s.2 ++ [m] ↔ _
        rw [List.mem_append,List.mem_append,h.mem k]
        constructor
        · rintro (⟨q1,q2⟩ | q)
          · exact ⟨.inl q1,q2⟩
          · exact ⟨.inr q,by rw [List.mem_singleton.1 q];exact hf⟩
        · rintro ⟨q1 | q1,q2⟩
          · exact .inl ⟨q1,q2⟩
          · exact .inr q1
    · rw [if_neg hf]
      refine ⟨h.len,h.nd,h.on,fun k=>?_⟩
      rw [h.mem k,List.mem_append]
      constructor
      · rintro ⟨q1,q2⟩;exact ⟨.inl q1,q2⟩
      · rintro ⟨q1 | q1,q2⟩
        · exact ⟨q1,q2⟩
        · rw [List.mem_singleton.1 q1] at q2;exact absurd q2 hf
theorem gI_rep1 (n:Nat) (k:Int) (h0:0 ≤ k) (h1:k < (n:Int)):gI (List.replicate n (-1)) k = -1:=by
  unfold gI
  rw [List.getD_eq_getElem?_getD,List.getElem?_replicate,if_pos (by omega)]
  rfl
theorem DsI.start (hr:∀ m ∈ ma,0 ≤ m∧m < (n:Int)) (hnd:ma.Nodup):DsI es N ma n 0 (dsI N ma (List.replicate n (-1),[])):=by
  have h:=dsI_spec (N:=N) hr hnd ma [] (List.replicate n (-1),[]) rfl ⟨by simp,by simp,fun k h0 h1=>.inr ⟨by simp,gI_rep1 n k h0 h1⟩,fun k=>by simp⟩
  have hz:∀ k ∈ (dsI N ma (List.replicate n (-1),[])).2,gI (dsI N ma (List.replicate n (-1),[])).1 k = 0:=fun k hk=>by
    have hg:=hr k ((h.mem k).1 hk).1
    rcases h.on k hg.1 hg.2 with q | q
    · exact q.2
    · exact absurd hk q.1
  refine ⟨h.len,h.nd,fun k hk=>⟨hr k ((h.mem k).1 hk).1,((h.mem k).1 hk).2⟩,fun k h0 h1=>?_,fun k hk=>?_,fun j j' a b _ ha hb=>?_,fun k b hk hb=>?_,fun m hm hf=>?_,fun j k hj=>absurd hj (Nat.not_lt_zero _)⟩
  · rcases h.on k h0 h1 with q | q
    · exact .inl ⟨q.1,by rw [q.2];omega⟩
    · exact .inr q
  · rw [hz k hk];exact .mk ((h.mem k).1 hk).2 ((h.mem k).1 hk).1
  · rw [hz a (List.mem_of_getElem? ha),hz b (List.mem_of_getElem? hb)];omega
  · rw [hz b hb,hz k (List.mem_of_getElem? hk)];omega
  · have:=(h.mem m).2 ⟨hm,hf⟩
    exact ⟨this,hz m this⟩
structure DsQ (es:List Ed) (N:List Bool) (ma:List Int) (n i:Nat) (k:Int) (pre:List Ed) (s:DS):Prop where
  o:DsI es N ma n i s
  at_:s.2[i]? = some k
  row:∀ x ∈ pre,fl N x.f = true → x.f ∈ s.2∧gI s.1 x.f ≤ gI s.1 k + 1
theorem DsQ.step (he:∀ x ∈ es,(0 ≤ x.f∧x.f < (n:Int))∧(0 ≤ x.t∧x.t < (n:Int))) {k:Int} {pre:List Ed} (h:DsQ es N ma n i k pre s) {x:Ed} (hx:x ∈ es) (hxt:x.t = k):DsQ es N ma n i k (pre ++ [x]) (dsX N (gI s.1 k) s x)∧gI (dsX N (gI s.1 k) s x).1 k = gI s.1 k:=by
  have hxe:=he x hx
  have hkm:=List.mem_of_getElem? h.at_
  have hil:=(List.getElem?_eq_some_iff.1 h.at_).1
  unfold dsX
  by_cases hc:fl N x.f = true∧gI s.1 x.f < 0
  · rw [if_pos hc]
    have hns:x.f ∉ s.2:=fun hs=>by
      rcases h.o.on x.f hxe.1.1 hxe.1.2 with q | q
      · omega
      · exact q.1 hs
    have hk0:0 ≤ gI s.1 k:=by
      rcases h.o.on k (h.o.rng k hkm).1.1 (h.o.rng k hkm).1.2 with q | q
      · exact q.2
      · exact absurd hkm q.1
    have hst:∀ b:Int,0 ≤ b → gI (s.1.set x.f.toNat (gI s.1 k + 1)) b = if b = x.f then gI s.1 k + 1 else gI s.1 b:=fun b h0=>gI_set hxe.1.1 (by rw [h.o.len];exact hxe.1.2) h0
    have hold:∀ b ∈ s.2,gI (s.1.set x.f.toNat (gI s.1 k + 1)) b = gI s.1 b:=fun b hb=>by
      have hbx:b ≠ x.f:=fun e=>hns (by rw [← e];exact hb)
      rw [hst b (h.o.rng b hb).1.1,if_neg hbx]
    have hnew:gI (s.1.set x.f.toNat (gI s.1 k + 1)) x.f = gI s.1 k + 1:=by rw [hst _ hxe.1.1,if_pos rfl]
    have hsnoc:∀ (j:Nat) (b:Int),(s.2 ++ [x.f])[j]? = some b → (s.2[j]? = some b∧j < s.2.length) ∨ (b = x.f∧j = s.2.length):=fun j b hb=>by
      rcases Nat.lt_or_ge j s.2.length with h1 | h1
      · rw [List.getElem?_append_left h1] at hb;exact .inl ⟨hb,h1⟩
      · rw [List.getElem?_append_right h1] at hb
        have hj:j - s.2.length = 0:=by
          have:=(List.getElem?_eq_some_iff.1 hb).1
          simp at this
          omega
        rw [hj] at hb
        simp at hb
        exact .inr ⟨hb.symm,by omega⟩
    refine ⟨⟨⟨by simp [h.o.len],nodup_snoc h.o.nd hns,fun b hb=>?_,fun b h0 h1=>?_,fun b hb=>?_,fun j j' a b hjj ha hb=>?_,fun a b ha hb=>?_,fun m hm hf=>?_,fun j b hj hb y hy hyt hyf=>?_⟩,?_,fun y hy hf=>?_⟩,hold k hkm⟩
    · rcases List.mem_append.1 hb with hb | hb
      · exact h.o.rng b hb
      · rw [List.mem_singleton.1 hb];exact ⟨hxe.1,hc.1⟩
    · show (b ∈ s.2 ++ [x.f]∧0 ≤ gI (s.1.set x.f.toNat (gI s.1 k + 1)) b) ∨ (b ∉ s.2 ++ [x.f]∧gI (s.1.set x.f.toNat (gI s.1 k + 1)) b = -1)
      rw [hst b h0]
      by_cases hb:b = x.f
      · rw [if_pos hb];exact .inl ⟨by simp [hb],by omega⟩
      · rw [if_neg hb]
        rcases h.o.on b h0 h1 with q | q
        · exact .inl ⟨List.mem_append_left _ q.1,q.2⟩
        · exact .inr ⟨by simp [q.1,hb],q.2⟩
    · show Dp es N ma b (gI (s.1.set x.f.toNat (gI s.1 k + 1)) b).toNat
      rcases List.mem_append.1 hb with hb | hb
      · rw [hold b hb];exact h.o.snd b hb
      · rw [List.mem_singleton.1 hb,hnew,show (gI s.1 k + 1).toNat = (gI s.1 k).toNat + 1 by omega]
        exact .st hx hc.1 (by rw [hxt];exact h.o.snd k hkm)
    · show gI (s.1.set x.f.toNat (gI s.1 k + 1)) a ≤ gI (s.1.set x.f.toNat (gI s.1 k + 1)) b
      rcases hsnoc j a ha with ⟨ha,hja⟩ | ⟨rfl,hja⟩
      · rcases hsnoc j' b hb with ⟨hb,hjb⟩ | ⟨rfl,hjb⟩
        · rw [hold a (List.mem_of_getElem? ha),hold b (List.mem_of_getElem? hb)]
          exact h.o.mono j j' a b hjj ha hb
        · rw [hold a (List.mem_of_getElem? ha),hnew]
          exact h.o.top k a h.at_ (List.mem_of_getElem? ha)
      · rcases hsnoc j' b hb with ⟨hb,hjb⟩ | ⟨rfl,hjb⟩
        · omega
        · omega
    · show gI (s.1.set x.f.toNat (gI s.1 k + 1)) b ≤ gI (s.1.set x.f.toNat (gI s.1 k + 1)) a + 1
      rcases hsnoc i a ha with ⟨ha,_⟩ | ⟨_,hj⟩
      · rw [h.at_] at ha
        injection ha with ha
        subst ha
        rw [hold k hkm]
        rcases List.mem_append.1 hb with hb | hb
        · rw [hold b hb];exact h.o.top k b h.at_ hb
        · rw [List.mem_singleton.1 hb,hnew];omega
      · omega
    · have:=h.o.mkd m hm hf
      exact ⟨List.mem_append_left _ this.1,by show gI (s.1.set x.f.toNat (gI s.1 k + 1)) m = 0;rw [hold m this.1];exact this.2⟩
    · show y.f ∈ s.2 ++ [x.f]∧gI (s.1.set x.f.toNat (gI s.1 k + 1)) y.f ≤ gI (s.1.set x.f.toNat (gI s.1 k + 1)) b + 1
      rcases hsnoc j b hb with ⟨hb,_⟩ | ⟨_,hj2⟩
      · have:=h.o.clo j b hj hb y hy hyt hyf
        rw [hold y.f this.1,hold b (List.mem_of_getElem? hb)]
        exact ⟨List.mem_append_left _ this.1,this.2⟩
      · omega
    · show (s.2 ++ [x.f])[i]? = some k
      rw [List.getElem?_append_left hil];exact h.at_
    · show y.f ∈ s.2 ++ [x.f]∧gI (s.1.set x.f.toNat (gI s.1 k + 1)) y.f ≤ gI (s.1.set x.f.toNat (gI s.1 k + 1)) k + 1
      rw [hold k hkm]
      rcases List.mem_append.1 hy with hy | hy
      · have:=h.row y hy hf
        rw [hold y.f this.1]
        exact ⟨List.mem_append_left _ this.1,this.2⟩
      · rw [List.mem_singleton.1 hy,hnew]
        exact ⟨by simp,by omega⟩
  · rw [if_neg hc]
    refine ⟨⟨h.o,h.at_,fun y hy hf=>?_⟩,rfl⟩
    rcases List.mem_append.1 hy with hy | hy
    · exact h.row y hy hf
    · rw [List.mem_singleton.1 hy] at hf ⊢
      rcases h.o.on x.f hxe.1.1 hxe.1.2 with q | q
      · exact ⟨q.1,h.o.top k x.f h.at_ q.1⟩
      · exact absurd ⟨hf,by omega⟩ hc
theorem DsQ.rows (he:∀ x ∈ es,(0 ≤ x.f∧x.f < (n:Int))∧(0 ≤ x.t∧x.t < (n:Int))) {k d:Int}:∀ (r pre:List Ed) (s:DS),(∀ x ∈ r,x ∈ es∧x.t = k) → gI s.1 k = d → DsQ es N ma n i k pre s → DsQ es N ma n i k (pre ++ r) (dsR N d r s)
  | [],pre,s,_,_,h=>by rw [List.append_nil];exact h
  | x :: r,pre,s,hr,hd,h=>by
    obtain ⟨h1,h2⟩:=h.step he (hr x List.mem_cons_self).1 (hr x List.mem_cons_self).2
    rw [hd] at h1 h2
    have:=DsQ.rows he r (pre ++ [x]) (dsX N d s x) (fun y hy=>hr y (List.mem_cons_of_mem _ hy)) h2 h1
    rw [List.append_assoc] at this
    exact this
theorem DsI.round (he:∀ x ∈ es,(0 ≤ x.f∧x.f < (n:Int))∧(0 ≤ x.t∧x.t < (n:Int))) (h:DsI es N ma n i s) {k:Int} (hk:s.2[i]? = some k):DsI es N ma n (i + 1) (dsR N (gI s.1 k) (preL es k) s):=by
  have hq:=DsQ.rows he (preL es k) [] s (fun x hx=>preL_mem.1 hx) rfl ⟨h,hk,fun x hx=>by cases hx⟩
  rw [List.nil_append] at hq
  obtain ⟨o,a,r⟩:=hq
  refine ⟨o.len,o.nd,o.rng,o.on,o.snd,o.mono,fun b c hb hc=>?_,o.mkd,fun j b hj hb x hx hxt hf=>?_⟩
  · have h1:=o.mono i (i + 1) k b (by omega) a hb
    have h2:=o.top k c a hc
    omega
  · rcases Nat.lt_or_ge j i with h1 | h1
    · exact o.clo j b h1 hb x hx hxt hf
    · obtain rfl:j = i:=by omega
      rw [a] at hb
      injection hb with hb
      subst hb
      exact r x (preL_mem.2 ⟨hx,hxt⟩) hf
theorem DsI.qlen (h:DsI es N ma n i s):s.2.length ≤ n:=by
  have:=nodup_le (m:=rngI (n:Int)) h.nd (fun k hk=>rngI_mem.2 (h.rng k hk).1)
  rwa [rngI_len,Int.toNat_natCast] at this
theorem DsI.fin (h:DsI es N ma n i s) (hi:s.2.length ≤ i) {k:Int} (h0:0 ≤ k) (h1:k < (n:Int)):DisOk es N ma k (gI s.1 k):=by
  have hle:∀ (k:Int) (d:Nat),Dp es N ma k d → k ∈ s.2∧gI s.1 k ≤ (d:Int):=fun k d hd=>by
    induction hd with
    | mk hf hm=>have:=h.mkd _ hm hf;exact ⟨this.1,by omega⟩
    | st hx hf _ ih =>
      obtain ⟨j,hj⟩:=List.getElem?_of_mem ih.1
      have:=h.clo j _ (by have:=(List.getElem?_eq_some_iff.1 hj).1;omega) hj _ hx rfl hf
      exact ⟨this.1,by omega⟩
  rcases h.on k h0 h1 with ⟨q1,q2⟩ | ⟨q1,q2⟩
  · exact .inr ⟨(gI s.1 k).toNat,by omega,h.snd k q1,fun e he=>by have:=(hle k e he).2;omega⟩
  · exact .inl ⟨q2,fun d hd=>q1 (hle k d hd).1⟩
theorem dsG_spec (he:∀ x ∈ es,(0 ≤ x.f∧x.f < (n:Int))∧(0 ≤ x.t∧x.t < (n:Int))):∀ (g i:Nat) (s:DS),DsI es N ma n i s → n + 1 ≤ g + i → (dsG es N g i s).1.length = n∧∀ k:Int,0 ≤ k → k < (n:Int) → DisOk es N ma k (gI (dsG es N g i s).1 k)
  | 0,i,s,h,hg=>⟨h.len,fun k h0 h1=>h.fin (by have:=h.qlen;omega) h0 h1⟩
  | g + 1,i,s,h,hg=>by
    unfold dsG
    cases hk:s.2[i]? with
    | none=>exact ⟨h.len,fun k h0 h1=>h.fin (List.getElem?_eq_none_iff.1 hk) h0 h1⟩
    | some k=>exact dsG_spec he g (i + 1) _ (h.round he hk) (by omega)
theorem dsS_spec (he:∀ x ∈ es,(0 ≤ x.f∧x.f < (N.length:Int))∧(0 ≤ x.t∧x.t < (N.length:Int))) (hr:∀ m ∈ ma,0 ≤ m∧m < (N.length:Int)) (hnd:ma.Nodup) :
    (dsS es N ma).1.length = N.length∧∀ k:Int,0 ≤ k → k < (N.length:Int) → DisOk es N ma k (gI (dsS es N ma).1 k) :=
  dsG_spec he (N.length + 1) 0 _ (DsI.start hr hnd) (by omega)
end
end Go.Proofs.Ytdnmpndnpfklcaa
/- Plain: the word that the search forward finds is a shortest one (chapter 28). -/
namespace Go.Proofs.Ytdnmpndnpfklcaa
open Go
structure PaD (a:Aut) (perm:Ed → Bool) (i:Nat) (l:List Stp) (D:List Nat):Prop where
  len:D.length = l.length
  zero:D[0]? = some 0
  par:∀ (k:Nat) (t:Stp) (d:Nat),0 < k → l[k]? = some t → D[k]? = some d → ∃ e,D[t.f.toNat]? = some e∧d = e + 1
  mono:∀ (j k d e:Nat),j ≤ k → D[j]? = some d → D[k]? = some e → d ≤ e
  top:∀ d,D[i]? = some d → ∀ (k e:Nat),D[k]? = some e → e ≤ d + 1
  clo:∀ (k:Nat) (t:Stp) (d:Nat),k < i → l[k]? = some t → D[k]? = some d → ∀ x ∈ outE a t.s,perm x = true → ∃ (j:Nat) (u:Stp) (e:Nat),l[j]? = some u∧u.s = x.t∧D[j]? = some e∧e ≤ d + 1
section
variable {a:Aut} {perm:Ed → Bool} {st:Int} {n i:Nat} {l:List Stp} {N:List Bool} {D:List Nat}
theorem snoc_at {α:Type} {l:List α} {x y:α} {k:Nat} (h:(l ++ [x])[k]? = some y):(l[k]? = some y∧k < l.length) ∨ (y = x∧k = l.length):=by
  rcases Nat.lt_or_ge k l.length with h1 | h1
  · rw [List.getElem?_append_left h1] at h;exact .inl ⟨h,h1⟩
  · rw [List.getElem?_append_right h1] at h
    have hj:k - l.length = 0:=by
      have:=(List.getElem?_eq_some_iff.1 h).1
      simp at this
      omega
    rw [hj] at h
    simp at h
    exact .inr ⟨h.symm,by omega⟩
theorem at_snoc {α:Type} {l:List α} {x y:α} {k:Nat} (h:l[k]? = some y):(l ++ [x])[k]? = some y:=by
  rw [List.getElem?_append_left (List.getElem?_eq_some_iff.1 h).1];exact h
theorem PaD.start:PaD a perm 0 [⟨st,-1,-1⟩] [0]:=by
  have h0:∀ (k d:Nat),([0]:List Nat)[k]? = some d → k = 0∧d = 0:=fun k d h=>by
    cases k with
    | zero=>simp at h;exact ⟨rfl,h.symm⟩
    | succ k=>simp at h
  refine ⟨rfl,rfl,fun k t d hk _ hd=>?_,fun j k d e _ hd he=>?_,fun d hd k e he=>?_,fun k t d hk=>by omega⟩
  · have:=h0 k d hd;omega
  · rw [(h0 j d hd).2,(h0 k e he).2];exact Nat.le_refl _
  · rw [(h0 k e he).2];exact Nat.zero_le _
theorem PaD.push (h:PaD a perm i l D) {d:Nat} (hd:D[i]? = some d) (s v:Int):PaD a perm i (l ++ [⟨s,i,v⟩]) (D ++ [d + 1]):=by
  have hil:=(List.getElem?_eq_some_iff.1 hd).1
  refine ⟨by simp [h.len],at_snoc h.zero,fun k t c hk ht hc=>?_,fun j k c e hjk hc he=>?_,fun c hc k e he=>?_,fun k t c hk ht hc x hx hp=>?_⟩
  · rcases snoc_at ht with ⟨ht,hkl⟩ | ⟨rfl,hkl⟩
    · rcases snoc_at hc with ⟨hc,_⟩ | ⟨_,h2⟩
      · obtain ⟨e,he,hee⟩:=h.par k t c hk ht hc
        exact ⟨e,at_snoc he,hee⟩
      · have:=h.len;omega
    · rcases snoc_at hc with ⟨_,h2⟩ | ⟨rfl,_⟩
      · have:=h.len;omega
      · exact ⟨d,by show (D ++ [d + 1])[((i:Nat):Int).toNat]? = some d;rw [Int.toNat_natCast];exact at_snoc hd,rfl⟩
  · rcases snoc_at hc with ⟨hc,h1⟩ | ⟨rfl,h1⟩
    · rcases snoc_at he with ⟨he,h2⟩ | ⟨rfl,h2⟩
      · exact h.mono j k c e hjk hc he
      · exact h.top d hd j c hc
    · rcases snoc_at he with ⟨he,h2⟩ | ⟨rfl,h2⟩
      · omega
      · exact Nat.le_refl _
  · rcases snoc_at hc with ⟨hc,h1⟩ | ⟨_,h1⟩
    · rw [hd] at hc
      injection hc with hc
      subst hc
      rcases snoc_at he with ⟨he,_⟩ | ⟨rfl,_⟩
      · exact h.top d hd k e he
      · exact Nat.le_refl _
    · omega
  · rcases snoc_at ht with ⟨ht,hkl⟩ | ⟨_,hkl⟩
    · rcases snoc_at hc with ⟨hc,_⟩ | ⟨_,h2⟩
      · obtain ⟨j,u,e,h1,h2,h3,h4⟩:=h.clo k t c hk ht hc x hx hp
        exact ⟨j,u,e,at_snoc h1,h2,at_snoc h3,h4⟩
      · have:=h.len;omega
    · have:=h.len;omega
theorem PaD.row (hw:WF a) (hn:a.st = (n:Int)) {t:Stp} {d:Nat}:∀ (r:List Ed) (l:List Stp) (N:List Bool) (D:List Nat),(∀ x ∈ r,x ∈ outE a t.s) → l[i]? = some t → PtQ a perm st n i l N → PaD a perm i l D → D[i]? = some d →
    ∃ D2:List Nat,PaD a perm i (rowS perm i r l N).1 D2∧(∀ (k c:Nat),D[k]? = some c → D2[k]? = some c)∧(∀ (k:Nat) (c:Stp),l[k]? = some c → (rowS perm i r l N).1[k]? = some c)∧∀ x ∈ r,perm x = true → ∃ (j:Nat) (u:Stp) (e:Nat),(rowS perm i r l N).1[j]? = some u∧u.s = x.t∧D2[j]? = some e∧e ≤ d + 1
  | [],l,N,D,_,_,_,hD,_=>⟨D,hD,fun _ _ h=>h,fun _ _ h=>h,fun x hx=>by cases hx⟩
  | x :: r,l,N,D,hr,ht,h,hD,hd=>by
    have hx:=outE_mem.1 (hr x List.mem_cons_self)
    have hrr:=fun y hy=>hr y (List.mem_cons_of_mem x hy)
    by_cases hc:fl N x.t = false∧perm x = true
    · rw [rowS_pos hc]
      obtain ⟨D2,h1,h2,h3,h4⟩:=PaD.row hw hn r _ _ _ hrr (at_snoc ht) (h.push hw hn ht hx.1 hx.2 hc.2 hc.1) (hD.push hd x.t x.e) (at_snoc hd)
      refine ⟨D2,h1,fun k c hk=>h2 k c (at_snoc hk),fun k c hk=>h3 k c (at_snoc hk),fun y hy hp=>?_⟩
      rcases List.mem_cons.1 hy with rfl | hy
      · refine ⟨l.length,⟨y.t,i,y.e⟩,d + 1,h3 _ _ (by simp),rfl,h2 _ _ ?_,Nat.le_refl _⟩
        rw [← hD.len];simp
      · exact h4 y hy hp
    · rw [rowS_neg hc]
      obtain ⟨D2,h1,h2,h3,h4⟩:=PaD.row hw hn r l N D hrr ht h hD hd
      refine ⟨D2,h1,h2,h3,fun y hy hp=>?_⟩
      rcases List.mem_cons.1 hy with rfl | hy
      · have hf:fl N y.t = true:=by
          cases hf:fl N y.t with
          | true=>rfl
          | false=>exact absurd ⟨hf,hp⟩ hc
        obtain ⟨u,hu,hus⟩:=(h.on y.t (hw.ev_rng hx.1).2.2.1).1 hf
        obtain ⟨j,hj⟩:=List.getElem?_of_mem hu
        have hjl:j < D.length:=by rw [hD.len];exact (List.getElem?_eq_some_iff.1 hj).1
        exact ⟨j,u,D[j],h3 j u hj,hus,h2 j _ (List.getElem?_eq_getElem hjl),hD.top d hd j _ (List.getElem?_eq_getElem hjl)⟩
      · exact h4 y hy hp
theorem PaD.back (h:PtQ a perm st n i l N) (hD:PaD a perm i l D):∀ (g k d:Nat),k < g → k < l.length → D[k]? = some d → (bckS l g k).length = d
  | 0,k,d,hk,_,_=>by omega
  | g + 1,k,d,hk,hkl,hd=>by
    have ht:=List.getElem?_eq_getElem hkl
    unfold bckS
    rw [Int.toNat_natCast,ht]
    simp only
    by_cases h0:k = 0
    · subst h0
      rw [h.head] at ht
      injection ht with ht
      rw [← ht,if_pos (by show (-1:Int) < 0;omega)]
      rw [hD.zero] at hd
      injection hd with hd
    · obtain ⟨x,u,h1,h2,h3,h4,h5,h6,h7,h8⟩:=h.par k _ (by omega) ht
      obtain ⟨e,he,hee⟩:=hD.par k _ d (by omega) ht hd
      rw [if_neg (by omega),List.length_cons]
      have hb:=PaD.back h hD g (l[k]).f.toNat e (by omega) (List.getElem?_eq_some_iff.1 h7).1 he
      rw [show (((l[k]).f.toNat:Nat):Int) = (l[k]).f by omega] at hb
      rw [hb,hee]
theorem PaD.least (h:PtQ a perm st n i l N) (hD:PaD a perm i l D) {d:Nat} (hd:D[i]? = some d) {want:Int → Bool} (hno:∀ (k:Nat) (t:Stp),k < i → l[k]? = some t → want t.s = false)
    {vs:List Int} {u:Int} (hv:Wk a.ed perm st vs u):d ≤ vs.length ∨ ∃ (k:Nat) (t:Stp) (e:Nat),k < i∧l[k]? = some t∧t.s = u∧D[k]? = some e∧e ≤ vs.length:=by
  induction hv with
  | nil =>
    by_cases hi:i = 0
    · subst hi
      rw [hD.zero] at hd
      injection hd with hd
      exact .inl (by omega)
    · exact .inr ⟨0,_,0,by omega,h.head,rfl,hD.zero,Nat.le_refl _⟩
  | snoc hv hx hp hxf ih =>
    rw [List.length_append,List.length_singleton]
    rcases ih with ih | ⟨k,t,e,hk,ht,hts,he,hev⟩
    · exact .inl (by omega)
    · obtain ⟨j,u,c,h1,h2,h3,h4⟩:=hD.clo k t e hk ht he _ (outE_mem.2 ⟨hx,by rw [hxf,hts]⟩) hp
      rcases Nat.lt_or_ge j i with hj | hj
      · exact .inr ⟨j,u,c,hj,h1,h2,h3,by omega⟩
      · exact .inl (by have:=hD.mono i j d c hj hd h3;omega)
theorem pthF_short (hw:WF a) (hn:a.st = (n:Int)) {want:Int → Bool} {ws:List Int}:∀ (g i:Nat) (l:List Stp) (N:List Bool) (D:List Nat),PtQ a perm st n i l N → PaD a perm i l D → (∀ (k:Nat) (t:Stp),k < i → l[k]? = some t → want t.s = false) →
    pthF a want perm g i l N = some ws → ∀ vs u,Wk a.ed perm st vs u → want u = true → ws.length ≤ vs.length
  | 0,i,l,N,D,h,hD,hno,hf=>by simp [pthF] at hf
  | g + 1,i,l,N,D,h,hD,hno,hf=>by
    unfold pthF at hf
    cases ht:l[i]? with
    | none=>rw [ht] at hf;simp at hf
    | some t =>
      rw [ht] at hf
      simp only at hf
      have hil:=(List.getElem?_eq_some_iff.1 ht).1
      have hdl:i < D.length:=by rw [hD.len];exact hil
      have hd:=List.getElem?_eq_getElem hdl
      by_cases hq:want t.s = true
      · rw [if_pos hq] at hf
        injection hf with hf
        intro vs u hv hu
        rw [← hf,List.length_reverse,PaD.back h hD l.length i _ hil hil hd]
        rcases hD.least h hd hno hv with h1 | ⟨k,t2,e,hk,ht2,hts,_,_⟩
        · exact h1
        · have:=hno k t2 hk ht2
          rw [hts,hu] at this
          cases this
      · rw [if_neg hq] at hf
        obtain ⟨h1,h2,h3,h4⟩:=PtQ.row hw hn (t:=t) (outE a t.s) l N (fun _ hx=>hx) ht h
        obtain ⟨D2,e1,e2,e3,e4⟩:=PaD.row hw hn (t:=t) (outE a t.s) l N D (fun _ hx=>hx) ht h hD hd
        have hold:∀ k u,k < i + 1 → (rowS perm i (outE a t.s) l N).1[k]? = some u → l[k]? = some u:=fun k u hk hu=>by
          have:=e3 k _ (List.getElem?_eq_getElem (show k < l.length by omega))
          rw [hu] at this
          injection this with this
          rw [this]
          exact List.getElem?_eq_getElem _
        have holdD:∀ k c,k < i + 1 → D2[k]? = some c → D[k]? = some c:=fun k c hk hc=>by
          have:=e2 k _ (List.getElem?_eq_getElem (show k < D.length by omega))
          rw [hc] at this
          injection this with this
          rw [this]
          exact List.getElem?_eq_getElem _
        refine pthF_short hw hn g (i + 1) _ _ D2 ⟨h1.w,h1.head,h1.par,h1.on,fun k u hk hu y hy hyp=>?_⟩ ⟨e1.len,e1.zero,e1.par,e1.mono,fun c hc k e he=>?_,fun k u c hk hu hc y hy hyp=>?_⟩ (fun k u hk hu=>?_) hf
        · by_cases hki:k = i
          · subst hki
            rw [h2] at hu
            injection hu with hu
            subst hu
            exact h4 y hy hyp
          · exact h1.clo k u (by omega) hu y hy hyp
        · have q1:=e1.top _ (e2 i _ hd) k e he
          have q2:=e1.mono i (i + 1) _ c (by omega) (e2 i _ hd) hc
          omega
        · by_cases hki:k = i
          · subst hki
            rw [h2] at hu
            injection hu with hu
            subst hu
            rw [e2 k _ hd] at hc
            injection hc with hc
            subst hc
            exact e4 y hy hyp
          · exact e1.clo k u c (by omega) hu hc y hy hyp
        · by_cases hki:k = i
          · subst hki
            rw [h2] at hu
            injection hu with hu
            subst hu
            simpa using hq
          · exact hno k u (by omega) (hold k u hk hu)
theorem pathS_short (hw:WF a) {want:Int → Bool} (h0:0 ≤ st) (h1:st < a.st) {ws vs:List Int} {u:Int} (h:pathS a st want perm = some ws) (hv:Wk a.ed perm st vs u) (hu:want u = true):ws.length ≤ vs.length:=by
  obtain ⟨n,hn⟩:∃ n:Nat,a.st = (n:Int):=⟨a.st.toNat,by omega⟩
  have hst:a.st.toNat = n:=by omega
  unfold pathS at h
  rw [hst] at h
  exact pthF_short hw hn (n + 1) 0 _ _ _ (PtQ.start h0 (by omega)) PaD.start (fun k t hk=>by omega) h vs u hv hu
theorem Wk.flag {vs:List Int} {t:Int} (h:Wk a.ed (fun x=>fl N x.t) st vs t) (hs:fl N st = true):fl N t = true:=by
  cases h with
  | nil=>exact hs
  | snoc _ _ hp _=>exact hp
theorem Wk.dp {ma vs:List Int} {t:Int} {d:Nat} (h:Wk a.ed (fun x=>fl N x.t) st vs t) (hs:fl N st = true) (hd:Dp a.ed N ma t d):Dp a.ed N ma st (vs.length + d):=by
  induction h generalizing d with
  | nil=>simpa using hd
  | snoc h hx hp hxf ih =>
    have hq:Dp a.ed N ma _ (d + 1):=Dp.st hx (by rw [hxf];exact h.flag hs) hd
    rw [hxf] at hq
    have:=ih hq
    rw [List.length_append,List.length_singleton,show ∀ a d:Nat,a + 1 + d = a + (d + 1) by omega]
    exact this
theorem Dp.wk {ma:List Int} {d:Nat} (h:Dp a.ed N ma st d):∃ vs u,Wk a.ed (fun x=>fl N x.t) st vs u∧u ∈ ma∧vs.length = d:=by
  induction h with
  | mk _ hm=>exact ⟨[],_,.nil,hm,rfl⟩
  | st hx _ hd ih =>
    obtain ⟨vs,u,h1,h2,h3⟩:=ih
    exact ⟨_,u,(Wk.one (perm:=fun x=>fl N x.t) hx hd.in_).app h1,h2,by rw [List.length_append,h3,List.length_singleton,Nat.add_comm]⟩
def dstF (a:Aut) (N:List Bool) (s:Int):Int:=match pathS a s (fun u=>hasB a.ma u) (fun x=>fl N x.t) with | some ws=>(ws.length:Int) | none=>-1
theorem dstF_ok (hw:WF a) (h0:0 ≤ st) (h1:st < a.st) (hs:fl N st = true):DisOk a.ed N a.ma st (dstF a N st):=by
  have hp:=pathS_spec (perm:=fun x=>fl N x.t) (want:=fun u=>hasB a.ma u) hw h0 h1
  unfold dstF
  cases hq:pathS a st (fun u=>hasB a.ma u) (fun x=>fl N x.t) with
  | none =>
    rw [hq] at hp
    simp only at hp
    refine .inl ⟨rfl,fun d hd=>?_⟩
    obtain ⟨vs,u,h1,h2,_⟩:=hd.wk
    have:=hp u h1.rc
    rw [hasB_mem.2 h2] at this
    cases this
  | some ws =>
    rw [hq] at hp
    obtain ⟨u,hu,hwk⟩:=hp
    refine .inr ⟨ws.length,rfl,?_,fun e he=>?_⟩
    · have:=hwk.dp hs (.mk (hwk.flag hs) (hasB_mem.1 hu))
      exact this
    · obtain ⟨vs,v,k1,k2,k3⟩:=he.wk
      rw [← k3]
      exact pathS_short hw h0 h1 hq k1 (hasB_mem.2 k2)
theorem dsS_dst (hw:WF a) (hn:(N.length:Int) = a.st) {s:Int} (h0:0 ≤ s) (h1:s < a.st) (hs:fl N s = true):gI (dsS a.ed N a.ma).1 s = dstF a N s:=by
  have he:∀ x ∈ a.ed,(0 ≤ x.f∧x.f < (N.length:Int))∧(0 ≤ x.t∧x.t < (N.length:Int)):=fun x hx=>by
    have:=hw.ev_rng hx
    rw [hn]
    exact ⟨⟨this.1,this.2.1⟩,this.2.2.1,this.2.2.2.1⟩
  have hm:∀ m ∈ a.ma,0 ≤ m∧m < (N.length:Int):=fun m hm=>by rw [hn];exact hw.mrng m hm
  exact ((dsS_spec he hm (hw.minc.imp fun {a b} hab=>by omega)).2 s h0 (by omega)).unique (dstF_ok hw h0 h1 hs)
end
end Go.Proofs.Ytdnmpndnpfklcaa
