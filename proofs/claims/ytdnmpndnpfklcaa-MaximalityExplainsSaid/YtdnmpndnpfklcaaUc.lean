/- Plain: the product of two automata over the same events; its numbering. -/
import Derived.Test.YtdnmpndnpfklcaaQa
import Derived.Test.YtdnmpndnpfklcaaMi
import Derived.Test.YtdnmpndnpfklcaaGa
import Derived.RangeFuncNested
import Derived.RangeFuncBound
import Derived.RangeFuncCalls
import Derived.RangeFuncLeaves
import Derived.RangeFuncFrom
import Derived.Below
import Derived.WalkKit

namespace Go.Proofs.Ytdnmpndnpfklcaa
open Go.RowKit Go
section
variable {P:Program} {l:List Oper} {md:Region.Mode} {Q:Exit → Act → World → Prop} {A B:World → Prop} {q:Nat}
theorem uTwo {i j:Nat} {oi oj:Oper} {r r':List Oper} {f:Nat} {listed:Array Bool} {a:Act} {w:World} (hi:l.drop i = oi :: r) (hj:l.drop j = oj :: r') (hr:Region.ready md l.toArray listed = [i,j])
    (h1:∀ K:Act → World → Prop,(∀ a' w',heldU A B q (listed.setIfInBounds i true) w' → anyU P md l.toArray Q A B q f (listed.setIfInBounds i true) a' w' → K a' w') → if Region.wanted oi (yielded l.toArray a.tmps) then oi.wp P a w K Q else K (a.put oi.dst undef) w)
    (h2:∀ K:Act → World → Prop,(∀ a' w',heldU A B q (listed.setIfInBounds j true) w' → anyU P md l.toArray Q A B q f (listed.setIfInBounds j true) a' w' → K a' w') → if Region.wanted oj (yielded l.toArray a.tmps) then oj.wp P a w K Q else K (a.put oj.dst undef) w) :
    anyU P md l.toArray Q A B q (f + 1) listed a w:=by
  refine ⟨fun h0=>(by rw [hr] at h0;cases h0),fun k hk=>?_⟩
  rw [hr] at hk
  have hk':k = i ∨ k = j:=by simpa using hk
  rcases hk' with rfl | rfl
  · have:=h1 (fun a' w'=>heldU A B q (listed.setIfInBounds k true) w'∧anyU P md l.toArray Q A B q f (listed.setIfInBounds k true) a' w') (fun a' w' h1 h2=>⟨h1,h2⟩)
    unfold wpOp
    simp only [at_drop hi]
    split
    · rename_i hw;rw [if_pos hw] at this;exact .inl this
    · rename_i hw;rw [if_neg hw] at this;exact this
  · have:=h2 (fun a' w'=>heldU A B q (listed.setIfInBounds k true) w'∧anyU P md l.toArray Q A B q f (listed.setIfInBounds k true) a' w') (fun a' w' h1 h2=>⟨h1,h2⟩)
    unfold wpOp
    simp only [at_drop hj]
    split
    · rename_i hw;rw [if_pos hw] at this;exact .inl this
    · rename_i hw;rw [if_neg hw] at this;exact this
end
theorem own_ne_blk {w:World} {base:Nat} {e t:TypeId} {size n b:Nat} {v:Value} {xs vs:List Value} (h:w.ownsRow base e size v n xs) (hk:Blk w b t vs) (hne:e ≠ t):v.ownBlock = none ∨ v.ownBlock ≠ some b:=by
  rcases h.2 with ⟨rfl,_⟩ | ⟨g,cap,cur,rfl,_,hg,_⟩
  · exact .inl rfl
  · right
    intro e0
    simp only [Value.ownBlock,Option.some.injEq] at e0
    subst e0
    rw [show w.heap[g]? = _ from hk] at hg
    injection hg with hg
    injection hg with _ h2 _
    exact hne h2.symm
theorem blk_ne_own {w:World} {base:Nat} {e t:TypeId} {size n b:Nat} {v:Value} {xs vs:List Value} (h:w.ownsRow base e size v n xs) (hk:Blk w b t vs) (hne:e ≠ t):some b ≠ v.ownBlock:=by
  rcases own_ne_blk h hk hne with h1 | h1
  · rw [h1];simp
  · exact fun e=>h1 e.symm
def idxP (p:Ed → Bool):List Ed → Int
  | []=>-1
  | x :: l=>if p x = true then 0 else if idxP p l < 0 then -1 else idxP p l + 1
theorem idxP_at {p:Ed → Bool}:∀ {l:List Ed} {k:Nat} {x:Ed},l[k]? = some x → p x = true → (∀ j y,j < k → l[j]? = some y → p y = false) → idxP p l = k
  | [],k,x,h,_,_=>by simp at h
  | y :: l,0,x,h,he,_=>by
    simp at h;subst h
    unfold idxP;rw [if_pos he];rfl
  | y :: l,k + 1,x,h,he,hn=>by
    have ih:=idxP_at (l:=l) (k:=k) (x:=x) (by simpa using h) he (fun j z hj hz=>hn (j + 1) z (by omega) (by simpa using hz))
    unfold idxP
    rw [if_neg (by rw [hn 0 y (by omega) rfl];simp),ih,if_neg (by omega)]
    omega
theorem nxt_ed {a:Aut} (h:WF a) {s v t:Int}:(⟨s,v,t⟩:Ed) ∈ a.ed ↔ nxt a s v = t∧0 ≤ t:=by
  constructor
  · intro hx
    have h1:=h.ev_rng hx
    exact ⟨nxtE_of h.einc hx rfl rfl,by simp only at h1;omega⟩
  · rintro ⟨h1,h2⟩
    obtain ⟨x,hx,e1,e2,e3⟩:=nxtE_mem (s:=s) (v:=v) (l:=a.ed) (by show nxt a s v ≠ -1;omega)
    obtain ⟨f,e,t'⟩:=x
    simp only at e1 e2 e3
    rw [show nxtE s v a.ed = nxt a s v from rfl,h1] at e3
    subst e1 e2 e3
    exact hx
theorem stA_some {a:Aut} {s v t:Int}:stA a s v = some t ↔ nxt a s v = t∧0 ≤ t:=by
  unfold stA
  by_cases h:nxt a s v < 0
  · rw [if_pos h];constructor
    · intro h;cases h
    · rintro ⟨h1,h2⟩;omega
  · rw [if_neg h];constructor
    · intro h1;injection h1 with h1;exact ⟨h1,by omega⟩
    · rintro ⟨h1,_⟩;rw [h1]
structure Prob (P R:Aut) (p:Aut) (T:List (List Int)):Prop where
  wp:WF P
  wr:WF R
  sub:∀ v ∈ R.al,v ∈ P.al
  sp:P.st ≤ 60
  sr:R.st ≤ 60
  syn:synR [P,R] = some (p,T)
section
variable {P R p:Aut} {T:List (List Int)}
theorem Prob.two (h:Prob P R p T):∀ a ∈ [P,R],WF a:=fun a ha=>by
  rcases List.mem_cons.1 ha with rfl | ha
  · exact h.wp
  · obtain rfl:=List.mem_singleton.1 ha;exact h.wr
theorem Prob.prod (h:Prob P R p T):prodN [P,R] ≤ 3600:=by
  show P.st.toNat * (R.st.toNat * 1) ≤ 3600
  have h1:=h.sp;have h2:=h.sr
  have:=Nat.mul_le_mul (show P.st.toNat ≤ 60 by omega) (show R.st.toNat * 1 ≤ 60 by omega)
  omega
theorem Prob.pwf (h:Prob P R p T):WF p:=syn_wf h.two (Nat.le_trans h.prod (by omega)) h.syn
theorem Prob.tups (h:Prob P R p T):p.st = (T.length:Int)∧∀ t ∈ T,Tup [P,R] t:=by
  have hs:=h.syn
  have hp:=Nat.le_trans h.prod (show 3600 ≤ 4096 by omega)
  cases hn:noSt [P,R] with
  | true =>
    unfold synR at hs
    rw [if_pos hn] at hs
    simp only [Option.some.injEq,Prod.mk.injEq] at hs
    obtain ⟨rfl,rfl⟩:=hs
    exact ⟨rfl,fun t ht=>by cases ht⟩
  | false =>
    unfold synR at hs
    rw [if_neg (by rw [hn];decide)] at hs
    cases hq:synS [P,R] with
    | none=>rw [hq] at hs;cases hs
    | some s =>
      rw [hq] at hs
      simp only [Option.map_some,Option.some.injEq,Prod.mk.injEq] at hs
      obtain ⟨rfl,rfl⟩:=hs
      have hi:=syn_inv h.two hq hn hp
      exact ⟨rfl,fun t ht=>rch_tup h.two hn (hi.rch t ht)⟩
theorem Prob.len (h:Prob P R p T):T.length ≤ 3600:=by
  have h1:=syn_st h.two (Nat.le_trans h.prod (by omega)) h.syn
  have h2:=h.prod
  have h3:=h.tups.1
  omega
end
section
variable {P R q:Aut} {T:List (List Int)}
theorem Prob.alq (h:Prob P R q T):q.al = P.al:=by
  refine inc_unique h.pwf.inc h.wp.inc fun v=>?_
  rw [syn_al h.syn]
  show v ∈ mrg (mrg [] P.al) R.al ↔ _
  rw [mrg_mem,mrg_mem]
  constructor
  · rintro ((h1 | h1) | h1)
    · cases h1
    · exact h1
    · exact h.sub v h1
  · intro h1;exact .inl (.inr h1)
theorem Prob.pz {P R p:Aut} {T:List (List Int)} (h:Prob P R p T) (hn:T.length ≠ 0):P.st ≠ 0∧R.st ≠ 0:=by
  have hs:=h.syn
  have key:noSt [P,R] = false:=by
    cases hq:noSt [P,R] with
    | false=>rfl
    | true =>
      unfold synR at hs
      rw [if_pos hq] at hs
      injection hs with hs
      injection hs with _ hs
      subst hs
      exact absurd rfl hn
  unfold noSt at key
  simp at key
  exact key
theorem Prob.bi (h:Prob P R q T) (h0:q.st ≠ 0):∃ s,synS [P,R] = some s∧BInv 4096 (stp [P,R]) (evs [P,R]) (ini [P,R]) s.ts.length s∧s.ts = T∧q = autOf (evs [P,R]) (mkT [P,R]) s:=by
  have hn:noSt [P,R] = false:=by
    cases hq:noSt [P,R] with
    | false=>rfl
    | true=>exact absurd (by rw [syn_no hq h.syn]) h0
  obtain ⟨s,hs,hr⟩:=syn_get hn h.syn
  refine ⟨s,hs,syn_inv h.two hs hn (Nat.le_trans h.prod (by omega)),?_,hr⟩
  have h2:=h.syn
  unfold synR at h2
  rw [if_neg (by rw [hn];decide),hs] at h2
  injection h2 with h2
  injection h2
theorem Prob.q0 (h:Prob P R q T):q.st ≠ 0 ↔ P.st ≠ 0∧R.st ≠ 0:=by
  constructor
  · intro h0
    have h1:=h.tups.1
    exact h.pz (by omega)
  · rintro ⟨h1,h2⟩ h0
    have hn:noSt [P,R] = false:=by unfold noSt;simp [h1,h2]
    obtain ⟨s,hq,hr⟩:=syn_get hn h.syn
    have hi:=syn_inv h.two hq hn (Nat.le_trans h.prod (by omega))
    have:=hi.pos
    rw [hr] at h0
    have h0:(s.ts.length:Int) = 0:=h0
    omega
theorem Prob.step (h:Prob P R q T) {i v:Int} (hv:v ∈ P.al) {x y:Int} (hi:0 ≤ i) (ht:T[i.toNat]? = some [x,y]) :
    (nxt P x v < 0 ∨ (hasB R.al v = true∧nxt R y v < 0) → nxt q i v = -1)∧(0 ≤ nxt P x v → ¬ (hasB R.al v = true∧nxt R y v < 0) → 0 ≤ nxt q i v∧T[(nxt q i v).toNat]? = some [nxt P x v,if hasB R.al v = true then nxt R y v else y]):=by
  have h0:q.st ≠ 0:=by
    have h1:=h.tups.1
    have:=(List.getElem?_eq_some_iff.1 ht).1
    omega
  obtain ⟨s,hs,hb,hT,hq⟩:=h.bi h0
  subst hT
  have hal:evs [P,R] = P.al:=by rw [← syn_al h.syn];exact h.alq
  have hstp:stp [P,R] [x,y] v = if nxt P x v < 0 ∨ (hasB R.al v = true∧nxt R y v < 0) then none else some [nxt P x v,if hasB R.al v = true then nxt R y v else y]:=by
    unfold stp
    simp only [rfB,mvs,rf,mv,show hasB P.al v = true from hasB_mem.2 hv]
    by_cases h1:nxt P x v < 0
    · simp [h1]
    · cases h2:hasB R.al v with
      | false=>simp [h1]
      | true =>
        by_cases h3:nxt R y v < 0
        · simp [h1,h3]
        · simp [h1,h3]
  have hn:=hb.nxt (p:=mkT [P,R]) (j:=i.toNat) (v:=v) (by rw [hal];exact h.wp.inc) ht (by rw [hal];exact hv)
  rw [← hq,show ((i.toNat:Nat):Int) = i by omega,hstp] at hn
  constructor
  · intro h1
    rw [if_pos h1] at hn
    exact hn
  · intro h1 h2
    have h3:¬ (nxt P x v < 0 ∨ (hasB R.al v = true∧nxt R y v < 0)):=fun h=>by
      rcases h with h | h
      · omega
      · exact h2 h
    rw [if_neg h3] at hn
    simp only at hn
    obtain ⟨m,hm,hm2⟩:=idx_yes (hb.clo i.toNat _ v _ (List.getElem?_eq_some_iff.1 ht).1 ht (by rw [hal];exact hv) (by rw [hstp,if_neg h3]))
    rw [hm] at hn
    rw [hn]
    exact ⟨by omega,by simpa using hm2⟩
theorem Prob.two_at (h:Prob P R q T) {i:Int} (hi:0 ≤ i∧i < q.st):∃ x y,T[i.toNat]? = some [x,y]∧(0 ≤ x∧x < P.st)∧(0 ≤ y∧y < R.st):=by
  have h1:=h.tups.1
  have hlt:i.toNat < T.length:=by omega
  have ht:=h.tups.2 _ (List.getElem_mem hlt)
  have hg:T[i.toNat]? = some T[i.toNat]:=List.getElem?_eq_getElem hlt
  match hm:T[i.toNat],ht with
  | [x,y],ht =>
    rw [hm] at hg
    refine ⟨x,y,hg,?_,?_⟩
    · exact ⟨ht.1,ht.2.1⟩
    · exact ⟨ht.2.2.1,ht.2.2.2.1⟩
end
theorem goS_app {σ:Type} {st:σ → Int → Option σ}:∀ (a b:List Int) (t:σ),goS st t (a ++ b) = (goS st t a).bind (fun x=>goS st x b)
  | [],_,_=>rfl
  | v :: a,b,t=>by
    show (st t v).bind (fun x=>goS st x (a ++ b)) = ((st t v).bind (fun x=>goS st x a)).bind (fun x=>goS st x b)
    cases st t v with
    | none=>rfl
    | some x=>exact goS_app a b x
def Par (n:Nat) (es:List Ed):Prop:=∀ k:Nat,1 ≤ k → k < n → ∃ x,x ∈ es∧x.t = (k:Int)∧0 ≤ x.f∧x.f < (k:Int)
section
variable {σ:Type} [DecidableEq σ] {C:Nat} {st:σ → Int → Option σ}
theorem bsE_par {i:Nat} {t:σ} {v:Int} {s s':Bs σ} (h:Par s.ts.length s.es) (hi:i < s.ts.length) (he:bsE C st i t s v = some s'):Par s'.ts.length s'.es∧s.ts.length ≤ s'.ts.length:=by
  unfold bsE at he
  cases hs:st t v with
  | none=>rw [hs] at he;injection he with he;subst he;exact ⟨h,Nat.le_refl _⟩
  | some x =>
    rw [hs] at he
    simp only at he
    split at he
    · split at he
      · cases he
      · injection he with he;subst he
        refine ⟨fun k h1 h2=>?_,by simp⟩
        have h2:k < (s.ts ++ [x]).length:=h2
        rw [List.length_append,List.length_singleton] at h2
        rcases Nat.lt_or_ge k s.ts.length with h3 | h3
        · obtain ⟨x,hx,h4⟩:=h k h1 h3
          exact ⟨x,List.mem_append_left _ hx,h4⟩
        · obtain rfl:k = s.ts.length:=by omega
          exact ⟨_,List.mem_append_right _ (List.mem_singleton.2 rfl),rfl,by show (0:Int) ≤ (i:Int);omega,by show (i:Int) < _;omega⟩
    · injection he with he;subst he
      exact ⟨fun k h1 h2=>(h k h1 h2).imp fun x hx=>⟨List.mem_append_left _ hx.1,hx.2⟩,Nat.le_refl _⟩
theorem bsF_par {i:Nat} {t:σ}:∀ {V:List Int} {s s':Bs σ},Par s.ts.length s.es → i < s.ts.length → bsF C st i t V s = some s' → Par s'.ts.length s'.es
  | [],s,s',h,_,he=>by injection he with he;subst he;exact h
  | v :: V,s,s',h,hi,he=>by
    rw [bsF] at he
    cases h1:bsE C st i t s v with
    | none=>rw [h1] at he;cases he
    | some s1 =>
      rw [h1] at he
      obtain ⟨g1,g2⟩:=bsE_par h hi h1
      exact bsF_par g1 (by omega) he
theorem bsR_par {V:List Int}:∀ {n i:Nat} {s s':Bs σ},Par s.ts.length s.es → bsR C st V n i s = some s' → Par s'.ts.length s'.es
  | 0,i,s,s',h,he=>by injection he with he;subst he;exact h
  | n + 1,i,s,s',h,he=>by
    rw [bsR] at he
    cases ht:s.ts[i]? with
    | none=>rw [ht] at he;injection he with he;subst he;exact h
    | some t =>
      rw [ht] at he
      simp only at he
      cases h1:bsF C st i t V s with
      | none=>rw [h1] at he;cases he
      | some s1 =>
        rw [h1] at he
        exact bsR_par (bsF_par h (List.getElem?_eq_some_iff.1 ht).1 h1) he
theorem bfs_par {V:List Int} {x0:σ} {s':Bs σ} (he:bfs C st V x0 = some s'):Par s'.ts.length s'.es :=
  bsR_par (s:=⟨[x0],[]⟩) (fun k h1 h2=>by have h2:k < 1:=h2;omega) he
end
theorem syn_par {l:List Aut} {p:Aut} {T:List (List Int)} (h:synR l = some (p,T)):Par p.st.toNat p.ed:=by
  unfold synR at h
  split at h
  · simp only [Option.some.injEq,Prod.mk.injEq] at h
    obtain ⟨rfl,rfl⟩:=h
    exact fun k h1 h2=>by have h2:k < (0:Int).toNat:=h2;simp at h2
  · cases hq:synS l with
    | none=>rw [hq] at h;cases h
    | some s =>
      rw [hq] at h
      simp only [Option.map_some,Option.some.injEq,Prod.mk.injEq] at h
      obtain ⟨rfl,rfl⟩:=h
      exact bfs_par (s':=s) hq
def toB (s:Int) (x:Ed):Bool:=x.t == s
def pathW (es:List Ed):Nat → Int → List Int
  | 0,_=>[]
  | n + 1,s=>if s ≤ 0 then [] else match es[(idxP (toB s) es).toNat]? with
    | none=>[]
    | some x=>x.e :: pathW es n x.f
theorem pathW_end {es:List Ed} {s:Int} (h:¬ 0 < s):∀ n,pathW es n s = []
  | 0=>rfl
  | n + 1=>by unfold pathW;rw [if_pos (by omega)]
theorem pathW_step {es:List Ed} {s:Int} {n j:Nat} {x:Ed} (h:0 < s) (hj:idxP (toB s) es = j) (hx:es[j]? = some x):pathW es (n + 1) s = x.e :: pathW es n x.f:=by
  show (if s ≤ 0 then [] else match es[(idxP (toB s) es).toNat]? with
    | none=>[]
    | some x=>x.e :: pathW es n x.f) = _
  rw [if_neg (by omega),hj,Int.toNat_natCast,hx]
def Ord (n:Nat) (es:List Ed):Prop:=(∀ x ∈ es,x.t < (n:Int))∧∀ (j:Nat) (x:Ed) (s:Int),es[j]? = some x → 0 < s → s < x.t → ∃ (k:Nat) (y:Ed),k < j∧es[k]? = some y∧y.t = s
theorem ord_snoc {n n':Nat} {es:List Ed} {x:Ed} (ho:Ord n es) (hp:Par n es) (hx:x.t ≤ (n:Int)) (hn:n ≤ n') (hx':x.t < (n':Int)):Ord n' (es ++ [x]):=by
  refine ⟨fun y hy=>?_,fun j y s hj h0 hs=>?_⟩
  · rcases List.mem_append.1 hy with h1 | h1
    · have:=ho.1 y h1;omega
    · obtain rfl:=List.mem_singleton.1 h1;exact hx'
  · by_cases hlt:j < es.length
    · rw [List.getElem?_append_left hlt] at hj
      obtain ⟨k,z,h1,h2,h3⟩:=ho.2 j y s hj h0 hs
      exact ⟨k,z,h1,by rw [List.getElem?_append_left (by omega)];exact h2,h3⟩
    · rw [List.getElem?_append_right (by omega)] at hj
      have hy:y = x:=by
        cases hk:j - es.length with
        | zero=>rw [hk] at hj;simpa using hj.symm
        | succ k=>rw [hk] at hj;simp at hj
      subst hy
      obtain ⟨z,h1,h2,_⟩:=hp s.toNat (by omega) (by omega)
      obtain ⟨k,hk⟩:=List.getElem?_of_mem h1
      have hkl:=(List.getElem?_eq_some_iff.1 hk).1
      exact ⟨k,z,by omega,by rw [List.getElem?_append_left hkl];exact hk,by omega⟩
section
variable {σ:Type} [DecidableEq σ] {C:Nat} {st:σ → Int → Option σ}
theorem bsE_ord {i:Nat} {t:σ} {v:Int} {s s':Bs σ} (h:Par s.ts.length s.es) (ho:Ord s.ts.length s.es) (he:bsE C st i t s v = some s'):Ord s'.ts.length s'.es:=by
  unfold bsE at he
  cases hs:st t v with
  | none=>rw [hs] at he;injection he with he;subst he;exact ho
  | some x =>
    rw [hs] at he
    simp only at he
    split at he
    · split at he
      · cases he
      · injection he with he;subst he
        show Ord (s.ts ++ [x]).length _
        rw [List.length_append,List.length_singleton]
        exact ord_snoc ho h (Int.le_refl _) (by omega) (by show ((s.ts.length:Nat):Int) < _;omega)
    · rename_i hi
      injection he with he;subst he
      have hm:x ∈ s.ts:=by
        by_cases hm:x ∈ s.ts
        · exact hm
        · exact absurd (idx_neg.2 hm) hi
      obtain ⟨m,h1,h2⟩:=idx_yes hm
      have hlt:=(List.getElem?_eq_some_iff.1 h2).1
      exact ord_snoc ho h (by show idx s.ts x ≤ _;omega) (Nat.le_refl _) (by show idx s.ts x < ((s.ts.length:Nat):Int);omega)
theorem bsF_ord {i:Nat} {t:σ}:∀ {V:List Int} {s s':Bs σ},Par s.ts.length s.es → Ord s.ts.length s.es → i < s.ts.length → bsF C st i t V s = some s' → Ord s'.ts.length s'.es
  | [],s,s',_,ho,_,he=>by injection he with he;subst he;exact ho
  | v :: V,s,s',h,ho,hi,he=>by
    rw [bsF] at he
    cases h1:bsE C st i t s v with
    | none=>rw [h1] at he;cases he
    | some s1 =>
      rw [h1] at he
      obtain ⟨g1,g2⟩:=bsE_par h hi h1
      exact bsF_ord g1 (bsE_ord h ho h1) (by omega) he
theorem bsR_ord {V:List Int}:∀ {n i:Nat} {s s':Bs σ},Par s.ts.length s.es → Ord s.ts.length s.es → bsR C st V n i s = some s' → Ord s'.ts.length s'.es
  | 0,i,s,s',_,ho,he=>by injection he with he;subst he;exact ho
  | n + 1,i,s,s',h,ho,he=>by
    rw [bsR] at he
    cases ht:s.ts[i]? with
    | none=>rw [ht] at he;injection he with he;subst he;exact ho
    | some t =>
      rw [ht] at he
      simp only at he
      cases h1:bsF C st i t V s with
      | none=>rw [h1] at he;cases he
      | some s1 =>
        rw [h1] at he
        have hlt:=(List.getElem?_eq_some_iff.1 ht).1
        exact bsR_ord (bsF_par h hlt h1) (bsF_ord h ho hlt h1) he
theorem bfs_ord {V:List Int} {x0:σ} {s':Bs σ} (he:bfs C st V x0 = some s'):Ord s'.ts.length s'.es :=
  bsR_ord (s:=⟨[x0],[]⟩) (fun k h1 h2=>by have h2:k < 1:=h2;omega) ⟨fun x hx=>(by cases hx),fun j x s hj=>(by simp at hj)⟩ he
end
theorem syn_ord {l:List Aut} {p:Aut} {T:List (List Int)} (h:synR l = some (p,T)):Ord p.st.toNat p.ed:=by
  unfold synR at h
  split at h
  · simp only [Option.some.injEq,Prod.mk.injEq] at h
    obtain ⟨rfl,rfl⟩:=h
    exact ⟨fun x hx=>(by cases hx),fun j x s hj=>by simp at hj⟩
  · cases hq:synS l with
    | none=>rw [hq] at h;cases h
    | some s =>
      rw [hq] at h
      simp only [Option.map_some,Option.some.injEq,Prod.mk.injEq] at h
      obtain ⟨rfl,rfl⟩:=h
      exact bfs_ord (s':=s) hq
structure Num (a:Aut) (N:Nat):Prop where
  wf:WF a
  par:Par a.st.toNat a.ed
  ord:Ord a.st.toNat a.ed
  le:a.st ≤ (N:Int)
theorem Prob.num {P R q:Aut} {T:List (List Int)} (h:Prob P R q T):Num q T.length:=⟨h.pwf,syn_par h.syn,syn_ord h.syn,by rw [h.tups.1];exact Int.le_refl _⟩
section
variable {P R q:Aut} {T:List (List Int)}
theorem Prob.t0 (h:Prob P R q T) (h0:q.st ≠ 0):(0 ≤ (0:Int)∧(0:Int) < q.st)∧T[(0:Int).toNat]? = some [0,0]:=by
  have hz:0 ≤ (0:Int)∧(0:Int) < q.st:=⟨by omega,by have:=h.tups.1;omega⟩
  obtain ⟨s,hs,hb,hT,hq⟩:=h.bi h0
  obtain ⟨x,y,ht,_⟩:=h.two_at hz
  refine ⟨hz,?_⟩
  have e1:=stAt_get (x0:=ini [P,R]) (k:=0) ht
  have e2:=hb.at0
  rw [hT] at e2
  rw [ht,← e1]
  exact congrArg some e2
end
end Go.Proofs.Ytdnmpndnpfklcaa
/- Plain: the search of reach.Path; in a product it finds the states in their order. -/
namespace Go.Proofs.Ytdnmpndnpfklcaa
structure Stp where
  s:Int
  f:Int
  e:Int
def rowS (perm:Ed → Bool) (i:Nat):List Ed → List Stp → List Bool → List Stp × List Bool
  | [],l,N=>(l,N)
  | x :: r,l,N=>if fl N x.t = false∧perm x = true then rowS perm i r (l ++ [⟨x.t,i,x.e⟩]) (fset N x.t) else rowS perm i r l N
def bckS (l:List Stp):Nat → Int → List Int
  | 0,_=>[]
  | n + 1,k=>match l[k.toNat]? with
    | none=>[]
    | some t=>if t.f < 0 then [] else t.e :: bckS l n t.f
def pthF (a:Aut) (want:Int → Bool) (perm:Ed → Bool):Nat → Nat → List Stp → List Bool → Option (List Int)
  | 0,_,_,_=>none
  | n + 1,i,l,N=>match l[i]? with
    | none=>none
    | some t=>if want t.s = true then some (bckS l l.length i).reverse else pthF a want perm n (i + 1) (rowS perm i (outE a t.s) l N).1 (rowS perm i (outE a t.s) l N).2
def pathS (a:Aut) (st:Int) (want:Int → Bool) (perm:Ed → Bool):Option (List Int) :=
  pthF a want perm (a.st.toNat + 1) 0 [⟨st,-1,-1⟩] (fset (List.replicate a.st.toNat false) st)
structure PtI (a:Aut) (m:Nat) (l:List Stp) (N:List Bool):Prop where
  len:l.length = m
  nl:N.length = a.st.toNat
  le:(m:Int) ≤ a.st
  pos:0 < m
  zero:l[0]? = some ⟨0,-1,-1⟩
  at_:∀ k,0 < k → k < m → ∃ (j:Nat) (x:Ed),l[k]? = some ⟨k,x.f,x.e⟩∧idxP (toB k) a.ed = j∧a.ed[j]? = some x∧x.t = k∧0 ≤ x.f∧x.f < k
  fl:∀ s,0 ≤ s → s < a.st → fl N s = decide (s < (m:Int))
section
variable {a:Aut} {n m i:Nat} {l:List Stp} {N:List Bool} {want:Int → Bool} {perm:Ed → Bool}
theorem PtI.back (h:PtI a m l N):∀ (k g:Nat),k < m → k ≤ g → bckS l (g + 1) k = pathW a.ed g k:=by
  intro k
  induction k using Nat.strongRecOn with
  | ind k ih =>
    intro g hk hg
    by_cases h0:k = 0
    · subst h0
      rw [pathW_end (by omega)]
      unfold bckS
      rw [show ((0:Nat):Int).toNat = 0 from rfl,h.zero]
      rfl
    · obtain ⟨j,x,h1,h2,h3,h4,h5,h6⟩:=h.at_ k (by omega) hk
      obtain ⟨g,rfl⟩:∃ c,g = c + 1:=⟨g - 1,by omega⟩
      rw [pathW_step (by omega) h2 h3]
      have:=ih x.f.toNat (by omega) g (by omega) (by omega)
      rw [show ((x.f.toNat:Nat):Int) = x.f by omega] at this
      rw [← this]
      conv=>lhs;unfold bckS
      rw [show ((k:Nat):Int).toNat = k by omega,h1]
      simp only
      rw [if_neg (by omega)]
theorem PtI.row (hn:Num a n) (hp:∀ x,perm x = true) (pre suf:List Ed) (hi:i < m) (hrow:outE a i = pre ++ suf) (h:PtI a m l N) (hb:∀ x ∈ a.ed,x.f < i ∨ x ∈ pre → x.t < (m:Int)) :
    ∃ m',m ≤ m'∧PtI a m' (rowS perm i suf l N).1 (rowS perm i suf l N).2∧∀ x ∈ a.ed,x.f < (i + 1:Nat) → x.t < (m':Int):=by
  induction suf generalizing pre m l N with
  | nil =>
    refine ⟨m,Nat.le_refl _,h,fun x hx hf=>hb x hx ?_⟩
    by_cases hq:x.f < i
    · exact .inl hq
    · right
      have:x ∈ outE a i:=outE_mem.2 ⟨hx,by omega⟩
      rw [hrow] at this
      simpa using this
  | cons x r ih =>
    have hx:x ∈ outE a i:=by rw [hrow];simp
    obtain ⟨hxe,hxf⟩:=outE_mem.1 hx
    have hev:=hn.wf.ev_rng hxe
    obtain ⟨j,hj⟩:=List.getElem?_of_mem hxe
    have hpre:∀ (k:Nat) (y:Ed),k < j → a.ed[k]? = some y → y.t < (m:Int):=fun k y hk hy=>by
      refine hb y (List.mem_of_getElem? hy) ?_
      obtain ⟨a1,a2⟩:=List.getElem?_eq_some_iff.1 hy
      obtain ⟨b1,b2⟩:=List.getElem?_eq_some_iff.1 hj
      have hlt:=List.pairwise_iff_getElem.1 hn.wf.einc k j a1 b1 hk
      rw [a2,b2] at hlt
      unfold edLt at hlt
      rcases hlt with h1 | ⟨h1,h2⟩
      · left;omega
      · right
        have hy2:y ∈ outE a i:=outE_mem.2 ⟨List.mem_of_getElem? hy,by omega⟩
        rw [hrow] at hy2
        rcases List.mem_append.1 hy2 with h3 | h3
        · exact h3
        · exfalso
          have hpw:(outE a i).Pairwise edLt:=hn.wf.einc.filter _
          rw [hrow] at hpw
          have hpw2:=(List.pairwise_append.1 hpw).2.1
          rcases List.mem_cons.1 h3 with h4 | h4
          · rw [h4] at h2;omega
          · have:=(List.pairwise_cons.1 hpw2).1 y h4
            unfold edLt at this
            omega
    have hrow':outE a i = (pre ++ [x]) ++ r:=by rw [hrow];simp
    unfold rowS
    by_cases hlt:x.t < (m:Int)
    · rw [if_neg (by rw [h.fl x.t (by omega) (by omega),decide_eq_true hlt];simp)]
      refine ih (pre ++ [x]) hi hrow' h fun y hy hc=>?_
      rcases hc with hc | hc
      · exact hb y hy (.inl hc)
      · rcases List.mem_append.1 hc with hc | hc
        · exact hb y hy (.inr hc)
        · obtain rfl:=List.mem_singleton.1 hc;exact hlt
    · have hm:x.t = (m:Int):=by
        by_cases hq:(m:Int) < x.t
        · obtain ⟨k,y,g1,g2,g3⟩:=hn.ord.2 j x m hj (by have:=h.pos;omega) hq
          have:=hpre k y g1 g2
          omega
        · omega
      rw [if_pos ⟨by rw [h.fl x.t (by omega) (by omega),decide_eq_false hlt],hp x⟩]
      have hfirst:idxP (toB m) a.ed = j:=idxP_at hj (by unfold toB;rw [hm];simp) fun k y hk hy=>by
        have:=hpre k y hk hy
        unfold toB
        rw [beq_eq_false_iff_ne]
        omega
      have h':PtI a (m + 1) (l ++ [⟨x.t,i,x.e⟩]) (fset N x.t):=by
        refine ⟨by simp [h.len],by rw [fset_len];exact h.nl,by omega,Nat.succ_pos _,by rw [List.getElem?_append_left (by rw [h.len];exact h.pos)];exact h.zero,fun k h0 hk=>?_,fun s h0 hs=>?_⟩
        · by_cases hkm:k < m
          · obtain ⟨j',x',g1,g2⟩:=h.at_ k h0 hkm
            exact ⟨j',x',by rw [List.getElem?_append_left (by rw [h.len];exact hkm)];exact g1,g2⟩
          · obtain rfl:k = m:=by omega
            refine ⟨j,x,?_,hfirst,hj,hm,by omega,by omega⟩
            rw [List.getElem?_append_right (by rw [h.len];omega),h.len,Nat.sub_self,hm,← hxf]
            rfl
        · rw [fl_set (by rw [h.nl];omega) h0,h.fl s h0 hs,Bool.eq_iff_iff]
          simp
          omega
      obtain ⟨m',g1,g2,g3⟩:=ih (m:=m + 1) (pre ++ [x]) (by omega) hrow' h' fun y hy hc=>by
        rcases hc with hc | hc
        · have:=hb y hy (.inl hc);omega
        · rcases List.mem_append.1 hc with hc | hc
          · have:=hb y hy (.inr hc);omega
          · obtain rfl:=List.mem_singleton.1 hc;omega
      exact ⟨m',by omega,g2,g3⟩
end
end Go.Proofs.Ytdnmpndnpfklcaa
/- Plain: what a supervisor refuses, forces and must not refuse in the states of the closed loop (chapter 45). -/
namespace Go.Proofs.Ytdnmpndnpfklcaa
end Go.Proofs.Ytdnmpndnpfklcaa
/- A function that holds a range over a function in a loop leaves with many marks: each is taken off. No program in sight. -/
namespace Go.Proofs.Ytdnmpndnpfklcaa
open Go.RowKit Go
def marks (ds:List Nat):List Deferred:=ds.map fun D=>{ target:=.collected D,args:=#[] }
end Go.Proofs.Ytdnmpndnpfklcaa
/- A frame of which thirteen slots are known. No program in sight. -/
namespace Go.Proofs.Ytdnmpndnpfklcaa
open Go.RowKit Go
theorem cons_len {n:Nat} {ys:List Value} (h:ys.length = n + 1):∃ y zs,ys = y :: zs∧zs.length = n:=by
  cases ys with
  | nil=>simp at h
  | cons y zs=>exact ⟨y,zs,rfl,by simpa using h⟩
def Frm (k:List Value) (ds:List Nat) (a:Act):Prop:=a.tmps.toList.take 13 = k∧a.tmps.size = 95∧a.defers = marks ds
theorem Frm.opened {k:List Value} {ds:List Nat} {a:Act} (h:Frm k ds a):∃ y13 y14 y15 y16 y17 y18 y19 y20 y21 y22 y23 y24 y25 y26 y27 y28 y29 y30 y31 y32 y33 y34 y35 y36 y37 y38 y39 y40 y41 y42 y43 y44 y45 y46 y47 y48 y49 y50 y51 y52 y53 y54 y55 y56 y57 y58 y59 y60 y61 y62 y63 y64 y65 y66 y67 y68 y69 y70 y71 y72 y73 y74 y75 y76 y77 y78 y79 y80 y81 y82 y83 y84 y85 y86 y87 y88 y89 y90 y91 y92 y93 y94:Value,a = { tmps:=(k ++ [y13,y14,y15,y16,y17,y18,y19,y20,y21,y22,y23,y24,y25,y26,y27,y28,y29,y30,y31,y32,y33,y34,y35,y36,y37,y38,y39,y40,y41,y42,y43,y44,y45,y46,y47,y48,y49,y50,y51,y52,y53,y54,y55,y56,y57,y58,y59,y60,y61,y62,y63,y64,y65,y66,y67,y68,y69,y70,y71,y72,y73,y74,y75,y76,y77,y78,y79,y80,y81,y82,y83,y84,y85,y86,y87,y88,y89,y90,y91,y92,y93,y94]).toArray,defers:=marks ds }:=by
  obtain ⟨T,D⟩:=a
  obtain ⟨h1,h2,h3⟩:=h
  dsimp only at h1 h2 h3
  have hT:T.toList = k ++ T.toList.drop 13:=by rw [← h1,List.take_append_drop]
  have hl:(T.toList.drop 13).length = 82:=by rw [List.length_drop,Array.length_toList,h2]
  generalize T.toList.drop 13 = z at hT hl
  obtain ⟨y13,z13,rfl,g13⟩:=cons_len hl
  obtain ⟨y14,z14,rfl,g14⟩:=cons_len g13
  obtain ⟨y15,z15,rfl,g15⟩:=cons_len g14
  obtain ⟨y16,z16,rfl,g16⟩:=cons_len g15
  obtain ⟨y17,z17,rfl,g17⟩:=cons_len g16
  obtain ⟨y18,z18,rfl,g18⟩:=cons_len g17
  obtain ⟨y19,z19,rfl,g19⟩:=cons_len g18
  obtain ⟨y20,z20,rfl,g20⟩:=cons_len g19
  obtain ⟨y21,z21,rfl,g21⟩:=cons_len g20
  obtain ⟨y22,z22,rfl,g22⟩:=cons_len g21
  obtain ⟨y23,z23,rfl,g23⟩:=cons_len g22
  obtain ⟨y24,z24,rfl,g24⟩:=cons_len g23
  obtain ⟨y25,z25,rfl,g25⟩:=cons_len g24
  obtain ⟨y26,z26,rfl,g26⟩:=cons_len g25
  obtain ⟨y27,z27,rfl,g27⟩:=cons_len g26
  obtain ⟨y28,z28,rfl,g28⟩:=cons_len g27
  obtain ⟨y29,z29,rfl,g29⟩:=cons_len g28
  obtain ⟨y30,z30,rfl,g30⟩:=cons_len g29
  obtain ⟨y31,z31,rfl,g31⟩:=cons_len g30
  obtain ⟨y32,z32,rfl,g32⟩:=cons_len g31
  obtain ⟨y33,z33,rfl,g33⟩:=cons_len g32
  obtain ⟨y34,z34,rfl,g34⟩:=cons_len g33
  obtain ⟨y35,z35,rfl,g35⟩:=cons_len g34
  obtain ⟨y36,z36,rfl,g36⟩:=cons_len g35
  obtain ⟨y37,z37,rfl,g37⟩:=cons_len g36
  obtain ⟨y38,z38,rfl,g38⟩:=cons_len g37
  obtain ⟨y39,z39,rfl,g39⟩:=cons_len g38
  obtain ⟨y40,z40,rfl,g40⟩:=cons_len g39
  obtain ⟨y41,z41,rfl,g41⟩:=cons_len g40
  obtain ⟨y42,z42,rfl,g42⟩:=cons_len g41
  obtain ⟨y43,z43,rfl,g43⟩:=cons_len g42
  obtain ⟨y44,z44,rfl,g44⟩:=cons_len g43
  obtain ⟨y45,z45,rfl,g45⟩:=cons_len g44
  obtain ⟨y46,z46,rfl,g46⟩:=cons_len g45
  obtain ⟨y47,z47,rfl,g47⟩:=cons_len g46
  obtain ⟨y48,z48,rfl,g48⟩:=cons_len g47
  obtain ⟨y49,z49,rfl,g49⟩:=cons_len g48
  obtain ⟨y50,z50,rfl,g50⟩:=cons_len g49
  obtain ⟨y51,z51,rfl,g51⟩:=cons_len g50
  obtain ⟨y52,z52,rfl,g52⟩:=cons_len g51
  obtain ⟨y53,z53,rfl,g53⟩:=cons_len g52
  obtain ⟨y54,z54,rfl,g54⟩:=cons_len g53
  obtain ⟨y55,z55,rfl,g55⟩:=cons_len g54
  obtain ⟨y56,z56,rfl,g56⟩:=cons_len g55
  obtain ⟨y57,z57,rfl,g57⟩:=cons_len g56
  obtain ⟨y58,z58,rfl,g58⟩:=cons_len g57
  obtain ⟨y59,z59,rfl,g59⟩:=cons_len g58
  obtain ⟨y60,z60,rfl,g60⟩:=cons_len g59
  obtain ⟨y61,z61,rfl,g61⟩:=cons_len g60
  obtain ⟨y62,z62,rfl,g62⟩:=cons_len g61
  obtain ⟨y63,z63,rfl,g63⟩:=cons_len g62
  obtain ⟨y64,z64,rfl,g64⟩:=cons_len g63
  obtain ⟨y65,z65,rfl,g65⟩:=cons_len g64
  obtain ⟨y66,z66,rfl,g66⟩:=cons_len g65
  obtain ⟨y67,z67,rfl,g67⟩:=cons_len g66
  obtain ⟨y68,z68,rfl,g68⟩:=cons_len g67
  obtain ⟨y69,z69,rfl,g69⟩:=cons_len g68
  obtain ⟨y70,z70,rfl,g70⟩:=cons_len g69
  obtain ⟨y71,z71,rfl,g71⟩:=cons_len g70
  obtain ⟨y72,z72,rfl,g72⟩:=cons_len g71
  obtain ⟨y73,z73,rfl,g73⟩:=cons_len g72
  obtain ⟨y74,z74,rfl,g74⟩:=cons_len g73
  obtain ⟨y75,z75,rfl,g75⟩:=cons_len g74
  obtain ⟨y76,z76,rfl,g76⟩:=cons_len g75
  obtain ⟨y77,z77,rfl,g77⟩:=cons_len g76
  obtain ⟨y78,z78,rfl,g78⟩:=cons_len g77
  obtain ⟨y79,z79,rfl,g79⟩:=cons_len g78
  obtain ⟨y80,z80,rfl,g80⟩:=cons_len g79
  obtain ⟨y81,z81,rfl,g81⟩:=cons_len g80
  obtain ⟨y82,z82,rfl,g82⟩:=cons_len g81
  obtain ⟨y83,z83,rfl,g83⟩:=cons_len g82
  obtain ⟨y84,z84,rfl,g84⟩:=cons_len g83
  obtain ⟨y85,z85,rfl,g85⟩:=cons_len g84
  obtain ⟨y86,z86,rfl,g86⟩:=cons_len g85
  obtain ⟨y87,z87,rfl,g87⟩:=cons_len g86
  obtain ⟨y88,z88,rfl,g88⟩:=cons_len g87
  obtain ⟨y89,z89,rfl,g89⟩:=cons_len g88
  obtain ⟨y90,z90,rfl,g90⟩:=cons_len g89
  obtain ⟨y91,z91,rfl,g91⟩:=cons_len g90
  obtain ⟨y92,z92,rfl,g92⟩:=cons_len g91
  obtain ⟨y93,z93,rfl,g93⟩:=cons_len g92
  obtain ⟨y94,z94,rfl,g94⟩:=cons_len g93
  obtain rfl:=List.eq_nil_of_length_eq_zero g94
  exact ⟨y13,y14,y15,y16,y17,y18,y19,y20,y21,y22,y23,y24,y25,y26,y27,y28,y29,y30,y31,y32,y33,y34,y35,y36,y37,y38,y39,y40,y41,y42,y43,y44,y45,y46,y47,y48,y49,y50,y51,y52,y53,y54,y55,y56,y57,y58,y59,y60,y61,y62,y63,y64,y65,y66,y67,y68,y69,y70,y71,y72,y73,y74,y75,y76,y77,y78,y79,y80,y81,y82,y83,y84,y85,y86,y87,y88,y89,y90,y91,y92,y93,y94,by rw [h3,show T = T.toList.toArray from rfl,hT]⟩
theorem Frm.elim {k:List Value} {ds:List Nat} {Q:Act → Prop} (hq:∀ y13 y14 y15 y16 y17 y18 y19 y20 y21 y22 y23 y24 y25 y26 y27 y28 y29 y30 y31 y32 y33 y34 y35 y36 y37 y38 y39 y40 y41 y42 y43 y44 y45 y46 y47 y48 y49 y50 y51 y52 y53 y54 y55 y56 y57 y58 y59 y60 y61 y62 y63 y64 y65 y66 y67 y68 y69 y70 y71 y72 y73 y74 y75 y76 y77 y78 y79 y80 y81 y82 y83 y84 y85 y86 y87 y88 y89 y90 y91 y92 y93 y94:Value,Q { tmps:=(k ++ [y13,y14,y15,y16,y17,y18,y19,y20,y21,y22,y23,y24,y25,y26,y27,y28,y29,y30,y31,y32,y33,y34,y35,y36,y37,y38,y39,y40,y41,y42,y43,y44,y45,y46,y47,y48,y49,y50,y51,y52,y53,y54,y55,y56,y57,y58,y59,y60,y61,y62,y63,y64,y65,y66,y67,y68,y69,y70,y71,y72,y73,y74,y75,y76,y77,y78,y79,y80,y81,y82,y83,y84,y85,y86,y87,y88,y89,y90,y91,y92,y93,y94]).toArray,defers:=marks ds }):∀ a,Frm k ds a → Q a:=fun a h=>by
  obtain ⟨y13,y14,y15,y16,y17,y18,y19,y20,y21,y22,y23,y24,y25,y26,y27,y28,y29,y30,y31,y32,y33,y34,y35,y36,y37,y38,y39,y40,y41,y42,y43,y44,y45,y46,y47,y48,y49,y50,y51,y52,y53,y54,y55,y56,y57,y58,y59,y60,y61,y62,y63,y64,y65,y66,y67,y68,y69,y70,y71,y72,y73,y74,y75,y76,y77,y78,y79,y80,y81,y82,y83,y84,y85,y86,y87,y88,y89,y90,y91,y92,y93,y94,rfl⟩:=h.opened
  exact hq y13 y14 y15 y16 y17 y18 y19 y20 y21 y22 y23 y24 y25 y26 y27 y28 y29 y30 y31 y32 y33 y34 y35 y36 y37 y38 y39 y40 y41 y42 y43 y44 y45 y46 y47 y48 y49 y50 y51 y52 y53 y54 y55 y56 y57 y58 y59 y60 y61 y62 y63 y64 y65 y66 y67 y68 y69 y70 y71 y72 y73 y74 y75 y76 y77 y78 y79 y80 y81 y82 y83 y84 y85 y86 y87 y88 y89 y90 y91 y92 y93 y94
end Go.Proofs.Ytdnmpndnpfklcaa
