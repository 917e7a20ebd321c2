/- Plain: the removals that lead to a cause, and the ranks (chapter 28). -/
import Derived.Test.YtdnmpndnpfklcaaIf

namespace Go.Proofs.Ytdnmpndnpfklcaa
open Go
section
variable {p:Mx} {c:Ce}
def rmOf (c:Ce) (s:Int):Option Rm:=c.rm.find? fun r=>decide (r.s = s)
theorem rmOf_none {s:Int}:rmOf c s = none ↔ ¬ ∃ r ∈ c.rm,r.s = s:=by
 unfold rmOf
 rw [List.find?_eq_none]
 constructor
 ·rintro h ⟨r,hr,e⟩;exact h r hr (by simp [e])
 ·intro h r hr e;exact h ⟨r,hr,by simpa using e⟩
theorem incR_one {l:List Rm} (h:IncR l) {x y:Rm} (hx:x ∈ l) (hy:y ∈ l) (e:x.s = y.s):x = y:=by
 obtain ⟨i,hi,hxi⟩:=List.getElem_of_mem hx
 obtain ⟨j,hj,hyj⟩:=List.getElem_of_mem hy
 have hp:=List.pairwise_iff_getElem.1 h
 rcases Nat.lt_trichotomy i j with h1 | h1 | h1
 ·have:=hp i j hi hj h1;rw [hxi,hyj] at this;omega
 ·subst h1;rw [← hxi,← hyj]
 ·have:=hp j i hj hi h1;rw [hxi,hyj] at this;omega
theorem rmOf_some (hf:FOk p.a.st c) {s:Int} {r:Rm}:rmOf c s = some r ↔ r ∈ c.rm∧r.s = s:=by
 constructor
 ·intro h
  have h1:=List.find?_some h
  exact ⟨List.mem_of_find?_eq_some h,by simpa using h1⟩
 ·rintro ⟨h1,h2⟩
  cases hq:rmOf c s with
  | none=>exact absurd ⟨r,h1,h2⟩ (rmOf_none.1 hq)
  | some t =>
   have h3:=List.find?_some hq
   rw [incR_one hf.rinc (List.mem_of_find?_eq_some hq) h1 (by rw [h2];simpa using h3)]
inductive Exp (p:Mx) (c:Ce):Int → List Rm → Prop
 | fin {s:Int} {r:Rm}:rmOf c s = some r → r.r ≠ 2 → Exp p c s [r]
 | go {s:Int} {r:Rm} {l:List Rm}:rmOf c s = some r → r.r = 2 → Exp p c (nxt p.a s r.e) l → Exp p c s (r :: l)
theorem VOk.next (h:VOk p c) (hf:FOk p.a.st c) (hw:WF p.a) {s:Int} {r:Rm} (hr:rmOf c s = some r) (h2:r.r = 2):∃ y,rmOf c (nxt p.a s r.e) = some y∧y.k < r.k∧∃ x ∈ p.a.ed,x.f = s∧x.e = r.e∧x.t = nxt p.a s r.e:=by
 obtain ⟨hrm,hrs⟩:=(rmOf_some hf).1 hr
 obtain ⟨x,hx,hxf,hxe,_,y,hy,hys,hyk⟩:=(h.rmv r hrm).un h2
 have hn:nxt p.a s r.e = x.t:=nxtE_of hw.einc hx (hxf.trans hrs) hxe
 exact ⟨y,(rmOf_some hf).2 ⟨hy,by rw [hn];exact hys⟩,hyk,x,hx,hxf.trans hrs,hxe,hn.symm⟩
theorem Exp.unique {s:Int} {l m:List Rm} (h:Exp p c s l) (k:Exp p c s m):l = m:=by
 induction h generalizing m with
 | fin hr h2 =>
  cases k with
  | fin hr' _=>rw [hr] at hr';injection hr' with e;rw [e]
  | go hr' h2' _=>rw [hr] at hr';injection hr' with e;rw [e] at h2;exact absurd h2' h2
 | go hr h2 _ ih =>
  cases k with
  | fin hr' h2'=>rw [hr] at hr';injection hr' with e;rw [e] at h2;exact absurd h2 h2'
  | go hr' h2' hk =>
   rw [hr] at hr'
   injection hr' with e
   subst e
   rw [ih hk]
end
end Go.Proofs.Ytdnmpndnpfklcaa
/- Plain: the supervisor of a certificate reaches marked states from all of its states (chapter 28). -/
namespace Go.Proofs.Ytdnmpndnpfklcaa
open Go
def kpE (K:List Int) (x:Ed):Bool:=hasB K x.f && hasB K x.t
def kpA (a:Aut) (K:List Int):Aut:=⟨a.al,a.st,a.ma.filter (fun s=>hasB K s),a.ed.filter (kpE K)⟩
def rsA (a:Aut) (K:List Int):Aut:=if hasB K 0 = true then canA (kpA a K) else ⟨a.al,0,[],[]⟩
theorem kpA_wf {a:Aut} {K:List Int} (h:WF a):WF (kpA a K) :=
 ⟨h.inc,h.rng,h.st0,h.st1,List.Pairwise.filter _ h.minc,fun x hx=>h.mrng x (List.mem_filter.1 hx).1,List.Pairwise.filter _ h.einc,fun x hx=>h.erng x (List.mem_filter.1 hx).1⟩
def bwS (a:Aut) (tg:List Int):List Int:=(dsS a.ed (List.replicate a.st.toNat true) tg).1
def coS (a:Aut):List Int:=(rngI a.st).filter fun s=>decide (0 ≤ gI (bwS a a.ma) s)
theorem bwS_ok {a:Aut} (hw:WF a) {tg:List Int} (ht:Inc tg) (hr:∀ s ∈ tg,0 ≤ s∧s < a.st):(bwS a tg).length = a.st.toNat∧∀ s,0 ≤ s → s < a.st → DisOk a.ed (List.replicate a.st.toNat true) tg s (gI (bwS a tg) s):=by
 have h0:=hw.st0
 have:=dsS_spec (es:=a.ed) (N:=List.replicate a.st.toNat true) (ma:=tg) (fun x hx=>by
  have:=hw.ev_rng hx
  rw [List.length_replicate]
  omega) (fun m hm=>by have:=hr m hm;rw [List.length_replicate];omega) (ht.imp fun {a b} hab=>by omega)
 rw [List.length_replicate] at this
 exact ⟨this.1,fun s h1 h2=>this.2 s h1 (by omega)⟩
theorem kpA_nxt {a:Aut} (hw:WF a) {K:List Int} {x:Ed} (hx:x ∈ a.ed) (h1:x.f ∈ K) (h2:x.t ∈ K):stA (kpA a K) x.f x.e = some x.t:=by
 have hm:x ∈ (kpA a K).ed:=List.mem_filter.2 ⟨hx,by unfold kpE;rw [hasB_mem.2 h1,hasB_mem.2 h2];rfl⟩
 have hn:nxt (kpA a K) x.f x.e = x.t:=nxtE_of (kpA_wf hw).einc hm rfl rfl
 have hg:=hw.ev_rng hx
 unfold stA
 rw [hn,if_neg (by omega)]
end Go.Proofs.Ytdnmpndnpfklcaa

/- Plain: the search through the pairs of states of two automata (chapter 28: Permits). -/
namespace Go.Proofs.Ytdnmpndnpfklcaa
open Go
end Go.Proofs.Ytdnmpndnpfklcaa

/- Plain: the described automata and problems of chapter 28. -/
namespace Go.Proofs.Ytdnmpndnpfklcaa
open Go
structure Sm4 where
 st:Int
 mb:Int
 tg:List Int
structure Sm4.ok (g:Sm4):Prop where
 st:0 ≤ g.st∧g.st ≤ 255
 mb:0 ≤ g.mb∧g.mb ≤ 255
 len:g.tg.length = 24
 tg:∀ x ∈ g.tg,0 ≤ x∧x ≤ 255
section
variable {g:Sm4}
def Sm4.n (g:Sm4):Nat:=1 + g.st.toNat % 6
theorem Sm4.n_le (g:Sm4):1 ≤ g.n∧g.n ≤ 6:=by unfold Sm4.n;omega
def Sm4.too (g:Sm4) (i k:Nat):Int:=g.tg.getD (i * 4 + k) 0 % 7 - 1
def row4 (g:Sm4) (i:Nat):Nat → List Ed
 | 0=>[]
 | k + 1=>row4 g i k ++ (if 0 ≤ g.too i k∧g.too i k < g.n then [⟨i,k,g.too i k⟩] else [])
def eds4 (g:Sm4):Nat → List Ed
 | 0=>[]
 | i + 1=>eds4 g i ++ row4 g i 4
def aut4 (g:Sm4):Aut:=⟨[0,1,2,3],g.n,setB g.mb g.n,eds4 g g.n⟩
theorem row4_yes {i k:Nat} (h:0 ≤ g.too i k∧g.too i k < g.n):row4 g i (k + 1) = row4 g i k ++ [⟨i,k,g.too i k⟩]:=by rw [row4,if_pos h]
theorem row4_no {i k:Nat} (h:¬ (0 ≤ g.too i k∧g.too i k < g.n)):row4 g i (k + 1) = row4 g i k:=by rw [row4,if_neg h,List.append_nil]
theorem row4_mem {i:Nat} {x:Ed}:∀ {k:Nat},x ∈ row4 g i k → ∃ j:Nat,j < k∧x.e = j∧x.f = i∧0 ≤ x.t∧x.t < g.n
 | 0,h=>by simp [row4] at h
 | k + 1,h=>by
  unfold row4 at h
  rcases List.mem_append.1 h with h | h
  ·obtain ⟨j,h1,h2⟩:=row4_mem h
   exact ⟨j,by omega,h2⟩
  ·split at h
   ·rename_i ht
    rw [List.mem_singleton.1 h]
    exact ⟨k,by omega,rfl,rfl,ht⟩
   ·cases h
theorem eds4_mem {x:Ed}:∀ {i:Nat},x ∈ eds4 g i → ∃ j k:Nat,j < i∧k < 4∧x.e = k∧x.f = j∧0 ≤ x.t∧x.t < g.n
 | 0,h=>by simp [eds4] at h
 | i + 1,h=>by
  unfold eds4 at h
  rcases List.mem_append.1 h with h | h
  ·obtain ⟨j,k,h1,h2⟩:=eds4_mem h
   exact ⟨j,k,by omega,h2⟩
  ·obtain ⟨k,h1,h2,h3,h4⟩:=row4_mem h
   exact ⟨i,k,by omega,h1,h2,h3,h4⟩
theorem row4_inc (g:Sm4) (i:Nat):∀ k,(row4 g i k).Pairwise edLt
 | 0=>List.Pairwise.nil
 | k + 1=>by
  unfold row4
  rw [List.pairwise_append]
  refine ⟨row4_inc g i k,?_,fun a ha b hb=>?_⟩
  ·split <;> simp
  ·obtain ⟨j,h1,h2,h3,_⟩:=row4_mem ha
   split at hb
   ·rw [List.mem_singleton.1 hb]
    right
    refine ⟨h3,?_⟩
    show a.e < (k:Int)
    omega
   ·cases hb
theorem eds4_inc (g:Sm4):∀ i,(eds4 g i).Pairwise edLt
 | 0=>List.Pairwise.nil
 | i + 1=>by
  unfold eds4
  rw [List.pairwise_append]
  refine ⟨eds4_inc g i,row4_inc g i _,fun a ha b hb=>?_⟩
  obtain ⟨j,k,h1,_,_,h2,_⟩:=eds4_mem ha
  obtain ⟨m,_,_,h3,_⟩:=row4_mem hb
  left;omega
theorem aut4_wf (g:Sm4):WF (aut4 g):=by
 have hn:=g.n_le
 refine ⟨(show List.Pairwise (· < ·) ([0,1,2,3]:List Int) by decide),(by decide:∀ x ∈ ([0,1,2,3]:List Int),0 ≤ x∧x < 32),by show (0:Int) ≤ (g.n:Int);omega,by show (g.n:Int) ≤ 4096;omega,setB_inc _ _,fun x hx=>?_,eds4_inc g _,fun x hx=>?_⟩
 ·obtain ⟨i,h1,h2,_⟩:=setB_mem.1 hx
  show (0:Int) ≤ x∧x < (g.n:Int)
  omega
 ·obtain ⟨j,k,h1,h2,h3,h4,h5⟩:=eds4_mem hx
  refine ⟨?_,hasB_mem.2 ?_⟩
  ·unfold edOut
   show ¬ (x.f < 0 ∨ (g.n:Int) ≤ x.f ∨ x.t < 0 ∨ (g.n:Int) ≤ x.t)
   omega
  ·show x.e ∈ ([0,1,2,3]:List Int)
   rw [h3]
   match k,h2 with
   | 0,_=>decide
   | 1,_=>decide
   | 2,_=>decide
   | 3,_=>decide
def prb4 (g:Sm4) (u f:Int):Mx:=⟨aut4 g,setB u 6,setB f g.n⟩
theorem prb4_ok (g:Sm4) (u f:Int):(prb4 g u f).ok:=by
 have hn:=g.n_le
 refine ⟨aut4_wf g,setB_inc _ _,fun x hx=>?_,setB_inc _ _,fun x hx=>?_⟩
 ·obtain ⟨i,h1,h2,_⟩:=setB_mem.1 hx
  omega
 ·obtain ⟨i,h1,h2,_⟩:=setB_mem.1 hx
  show (0:Int) ≤ x∧x < (g.n:Int)
  omega
end
end Go.Proofs.Ytdnmpndnpfklcaa

/- Plain: what Verify's two tables say is what the rules say (chapter 28). -/
namespace Go.Proofs.Ytdnmpndnpfklcaa
open Go
def gR (R:List Rm) (s:Int):Rm:=R.getD s.toNat ⟨0,0,0,0⟩
structure Tb (p:Mx) (c:Ce) (K:List Bool) (D:List Int) (R:List Rm):Prop where
 kf:∀ s,0 ≤ s → s < p.a.st → (fl K s = true ↔ s ∈ c.kp)
 dt:∀ (i:Nat) (s d:Int),c.kp[i]? = some s → c.ds[i]? = some d → gI D s = d
 rt:∀ r ∈ c.rm,gR R r.s = r
structure KeP (p:Mx) (K:List Bool) (D:List Int):Prop where
 ed:∀ x ∈ p.a.ed,fl K x.f = true → fl K x.t = false → hasB p.u x.e = false
 st:∀ s,0 ≤ s → s < p.a.st → fl K s = true → s ∉ p.f∧0 ≤ gI D s∧(gI D s = 0 → s ∈ p.a.ma)∧(0 < gI D s → ∃ x ∈ p.a.ed,x.f = s∧fl K x.t = true∧gI D x.t < gI D s)
structure ReP (p:Mx) (K:List Bool) (R:List Rm):Prop where
 ed:∀ x ∈ p.a.ed,fl K x.f = false → (gR R x.f).r = 3 → fl K x.t = false∧(gR R x.t).k ≤ (gR R x.f).k∧((gR R x.t).k = (gR R x.f).k → (gR R x.t).r = 3)
 st:∀ s,0 ≤ s → s < p.a.st → fl K s = false → (1 ≤ (gR R s).k∧(gR R s).k ≤ 4097)∧((gR R s).r = 1 → (gR R s).e = -1∧s ∈ p.f) ∧
  ((gR R s).r = 2 → ∃ x ∈ p.a.ed,x.f = s∧x.e = (gR R s).e∧hasB p.u x.e = true∧fl K x.t = false∧(gR R x.t).k < (gR R s).k)∧((gR R s).r = 3 → (gR R s).e = -1∧s ∉ p.a.ma)
section
variable {p:Mx} {c:Ce} {K:List Bool} {D:List Int} {R:List Rm}
theorem fl_no {N:List Bool} {s:Int}:fl N s = false ↔ ¬ fl N s = true:=by cases fl N s <;> simp
theorem part_iff (hf:FOk p.a.st c) (h0:0 ≤ p.a.st):(((c.kp.length + c.rm.length:Nat):Int) = p.a.st∧∀ r ∈ c.rm,r.s ∉ c.kp) ↔ ∀ s,0 ≤ s → s < p.a.st → (s ∈ c.kp ↔ ¬ ∃ r ∈ c.rm,r.s = s):=by
 have hk:c.kp.Nodup:=hf.kinc.imp fun {a b} hab=>by omega
 have hr:(c.rm.map (·.s)).Nodup:=by
  unfold List.Nodup
  rw [List.pairwise_map]
  exact hf.rinc.imp fun {a b} hab=>by omega
 have hin:∀ x ∈ c.kp ++ c.rm.map (·.s),x ∈ rngI p.a.st:=fun x hx=>by
  rcases List.mem_append.1 hx with hx | hx
  ·exact rngI_mem.2 (hf.krng x hx)
  ·obtain ⟨r,hr,rfl⟩:=List.mem_map.1 hx
   exact rngI_mem.2 (hf.rrng r hr)
 have hlen:(c.kp ++ c.rm.map (·.s)).length = c.kp.length + c.rm.length:=by rw [List.length_append,List.length_map]
 have hrn:(rngI p.a.st).Nodup:=(rng_inc _).imp fun {a b} hab=>by omega
 constructor
 ·rintro ⟨hc,hd⟩ s h1 h2
  have hnd:(c.kp ++ c.rm.map (·.s)).Nodup:=List.nodup_append.2 ⟨hk,hr,fun a ha b hb e=>by
   obtain ⟨r,hrm,rfl⟩:=List.mem_map.1 hb
   exact hd r hrm (e ▸ ha)⟩
  have hmem:s ∈ c.kp ++ c.rm.map (·.s):=by
   apply Classical.byContradiction
   intro hn
   have:=nodup_le (List.nodup_cons.2 ⟨hn,hnd⟩) (m:=rngI p.a.st) fun x hx=>by
    rcases List.mem_cons.1 hx with rfl | hx
    ·exact rngI_mem.2 ⟨h1,h2⟩
    ·exact hin x hx
   rw [List.length_cons,hlen,rngI_len] at this
   omega
  constructor
  ·rintro hs ⟨r,hrm,e⟩;exact hd r hrm (e ▸ hs)
  ·intro hno
   rcases List.mem_append.1 hmem with h | h
   ·exact h
   ·obtain ⟨r,hrm,e⟩:=List.mem_map.1 h
    exact absurd ⟨r,hrm,e⟩ hno
 ·intro hp
  have hd:∀ r ∈ c.rm,r.s ∉ c.kp:=fun r hrm hk=>by
   have:=hf.rrng r hrm
   exact (hp r.s this.1 this.2).1 hk ⟨r,hrm,rfl⟩
  have hnd:(c.kp ++ c.rm.map (·.s)).Nodup:=List.nodup_append.2 ⟨hk,hr,fun a ha b hb e=>by
   obtain ⟨r,hrm,rfl⟩:=List.mem_map.1 hb
   exact hd r hrm (e ▸ ha)⟩
  refine ⟨?_,hd⟩
  have h1:=nodup_le hnd hin
  have h2:=nodup_le hrn (m:=c.kp ++ c.rm.map (·.s)) fun x hx=>by
   have hg:=rngI_mem.1 hx
   by_cases hkx:x ∈ c.kp
   ·exact List.mem_append_left _ hkx
   ·have:∃ r ∈ c.rm,r.s = x:=by
     apply Classical.byContradiction
     intro hn
     exact hkx ((hp x hg.1 hg.2).2 hn)
    obtain ⟨r,hrm,e⟩:=this
    exact List.mem_append_right _ (List.mem_map.2 ⟨r,hrm,e⟩)
  rw [hlen,rngI_len] at h1 h2
  omega
theorem tab_iff (hw:WF p.a) (hf:FOk p.a.st c) (hp:∀ s,0 ≤ s → s < p.a.st → (s ∈ c.kp ↔ ¬ ∃ r ∈ c.rm,r.s = s)) (ht:Tb p c K D R):(KeP p K D∧ReP p K R) ↔ VOk p c:=by
 have hat:∀ s,s ∈ c.kp → ∃ (i:Nat) (d:Int),c.kp[i]? = some s∧c.ds[i]? = some d∧gI D s = d:=fun s hs=>by
  obtain ⟨i,hi⟩:=List.getElem?_of_mem hs
  have hil:i < c.ds.length:=by rw [hf.dlen];exact (List.getElem?_eq_some_iff.1 hi).1
  exact ⟨i,_,hi,List.getElem?_eq_getElem hil,ht.dt i s _ hi (List.getElem?_eq_getElem hil)⟩
 have hrm:∀ s,0 ≤ s → s < p.a.st → fl K s = false → ∃ r ∈ c.rm,r.s = s∧gR R s = r:=fun s h0 h1 hs=>by
  have hnk:s ∉ c.kp:=fun hk=>by rw [(ht.kf s h0 h1).2 hk] at hs;cases hs
  have:∃ r ∈ c.rm,r.s = s:=by
   apply Classical.byContradiction
   intro hn
   exact hnk ((hp s h0 h1).2 hn)
  obtain ⟨r,hr,e⟩:=this
  exact ⟨r,hr,e,by rw [← e];exact ht.rt r hr⟩
 have hno:∀ r ∈ c.rm,fl K r.s = false:=fun r hr=>by
  have hg:=hf.rrng r hr
  rw [fl_no,ht.kf r.s hg.1 hg.2,hp r.s hg.1 hg.2]
  exact fun h=>h ⟨r,hr,rfl⟩
 constructor
 ·rintro ⟨hk,hr⟩
  refine ⟨hp,fun i s d h1 h2=>?_,fun r hrr=>?_⟩
  ·have hs:=List.mem_of_getElem? h1
   have hg:=hf.krng s hs
   have hfl:=(ht.kf s hg.1 hg.2).2 hs
   have hd:=ht.dt i s d h1 h2
   obtain ⟨a1,a2,a3,a4⟩:=hk.st s hg.1 hg.2 hfl
   rw [hd] at a2 a3 a4
   refine ⟨a1,fun x hx hxf hu=>?_,a2,a3,fun hne=>?_⟩
   ·have hgx:=hw.ev_rng hx
    rw [← ht.kf x.t hgx.2.2.1 hgx.2.2.2.1]
    apply Classical.byContradiction
    intro hn
    have:=hk.ed x hx (by rw [hxf];exact hfl) (fl_no.2 hn)
    rw [hu] at this
    cases this
   ·obtain ⟨x,hx,hxf,hxk,hlt⟩:=a4 (by omega)
    have hgx:=hw.ev_rng hx
    obtain ⟨j,e,h3,h4,h5⟩:=hat x.t ((ht.kf x.t hgx.2.2.1 hgx.2.2.2.1).1 hxk)
    exact ⟨x,hx,hxf,j,e,h3,h4,by omega⟩
  ·have hg:=hf.rrng r hrr
   have hfl:=hno r hrr
   have hrt:=ht.rt r hrr
   obtain ⟨a1,a2,a3,a4⟩:=hr.st r.s hg.1 hg.2 hfl
   rw [hrt] at a1 a2 a3 a4
   refine ⟨a1,a2,fun h2=>?_,fun h3=>⟨(a4 h3).1,(a4 h3).2,fun x hx hxf=>?_⟩⟩
   ·obtain ⟨x,hx,hxf,hxe,hu,hxk,hlt⟩:=a3 h2
    have hgx:=hw.ev_rng hx
    obtain ⟨y,hy,hys,hyr⟩:=hrm x.t hgx.2.2.1 hgx.2.2.2.1 hxk
    rw [hyr] at hlt
    exact ⟨x,hx,hxf,hxe,hu,y,hy,hys,hlt⟩
   ·have hgx:=hw.ev_rng hx
    obtain ⟨b1,b2,b3⟩:=hr.ed x hx (by rw [hxf];exact hfl) (by rw [hxf,hrt];exact h3)
    obtain ⟨y,hy,hys,hyr⟩:=hrm x.t hgx.2.2.1 hgx.2.2.2.1 b1
    rw [hyr,hxf,hrt] at b2 b3
    refine ⟨y,hy,hys,?_⟩
    rcases Int.lt_or_eq_of_le b2 with h | h
    ·exact .inl h
    ·exact .inr ⟨h,b3 h⟩
 ·intro hv
  refine ⟨⟨fun x hx hxf hxt=>?_,fun s h0 h1 hs=>?_⟩,⟨fun x hx hxf h3=>?_,fun s h0 h1 hs=>?_⟩⟩
  ·have hgx:=hw.ev_rng hx
   obtain ⟨i,d,h3,h4,_⟩:=hat x.f ((ht.kf x.f hgx.1 hgx.2.1).1 hxf)
   cases hu:hasB p.u x.e with
   | false=>rfl
   | true =>
    have:=(hv.kpt i x.f d h3 h4).un x hx rfl hu
    rw [(ht.kf x.t hgx.2.2.1 hgx.2.2.2.1).2 this] at hxt
    cases hxt
  ·obtain ⟨i,d,h3,h4,hd⟩:=hat s ((ht.kf s h0 h1).1 hs)
   have o:=hv.kpt i s d h3 h4
   rw [hd]
   refine ⟨o.fo,o.pos,o.zero,fun hpos=>?_⟩
   obtain ⟨x,hx,hxf,j,e,h5,h6,h7⟩:=o.down (by omega)
   have hgx:=hw.ev_rng hx
   exact ⟨x,hx,hxf,(ht.kf x.t hgx.2.2.1 hgx.2.2.2.1).2 (List.mem_of_getElem? h5),by rw [ht.dt j x.t e h5 h6];exact h7⟩
  ·have hgx:=hw.ev_rng hx
   obtain ⟨r,hr,hrs,hrr⟩:=hrm x.f hgx.1 hgx.2.1 hxf
   rw [hrr] at h3 ⊢
   obtain ⟨y,hy,hys,hyk⟩:=((hv.rmv r hr).bl h3).2.2 x hx hrs.symm
   have hyt:=ht.rt y hy
   rw [hys] at hyt
   rw [hyt,← hys]
   refine ⟨hno y hy,?_,fun e=>?_⟩
   ·rcases hyk with h | ⟨h,_⟩ <;> omega
   ·rcases hyk with h | ⟨_,h⟩
    ·omega
    ·exact h
  ·obtain ⟨r,hr,hrs,hrr⟩:=hrm s h0 h1 hs
   have o:=hv.rmv r hr
   rw [hrr]
   refine ⟨o.rk,fun h=>?_,fun h2=>?_,fun h3=>?_⟩
   ·have:=o.fo h;rw [hrs] at this;exact this
   ·obtain ⟨x,hx,hxf,hxe,hu,y,hy,hys,hyk⟩:=o.un h2
    have hyt:=ht.rt y hy
    rw [hys] at hyt
    exact ⟨x,hx,hxf.trans hrs,hxe,hu,by rw [← hys];exact hno y hy,by rw [hyt];exact hyk⟩
   ·have:=o.bl h3;rw [hrs] at this;exact ⟨this.1,this.2.1⟩
end
end Go.Proofs.Ytdnmpndnpfklcaa
