/- Plain: the search by which Restrict numbers its states is that of the canonical form (chapter 28). -/
import Derived.Test.YtdnmpndnpfklcaaIv
namespace Go.Proofs.Ytdnmpndnpfklcaa
open Go
section
variable {a:Aut} {K:List Int} {C i:Nat} {t:Int}
def rsE (K:List Int) (i:Nat) (s:Bs Int) (x:Ed):Bs Int :=
 if hasB K x.t = true then (if idx s.ts x.t < 0 then ⟨s.ts ++ [x.t],s.es ++ [⟨i,x.e,s.ts.length⟩]⟩ else ⟨s.ts,s.es ++ [⟨i,x.e,idx s.ts x.t⟩]⟩) else s
theorem out_kpA (ht:t ∈ K):outE (kpA a K) t = (outE a t).filter fun x=>hasB K x.t:=by
 unfold outE kpA kpE
 rw [List.filter_filter,List.filter_filter]
 refine List.filter_congr fun x _=>?_
 by_cases h:x.f = t
 ·rw [decide_eq_true h,h,hasB_mem.2 ht];simp
 ·rw [decide_eq_false h];simp
theorem foldl_filter {α β:Type} {q:α → Bool} {f:β → α → β} (h:∀ b x,q x = false → f b x = b):∀ (l:List α) (b:β),(l.filter q).foldl f b = l.foldl f b
 | [],_=>rfl
 | x :: l,b=>by
  cases hq:q x with
  | true=>rw [List.filter_cons_of_pos hq,List.foldl_cons,List.foldl_cons];exact foldl_filter h l _
  | false=>rw [List.filter_cons_of_neg (by simp [hq]),List.foldl_cons,h b x hq];exact foldl_filter h l b
theorem bsF_edges (hw:WF a) (ht:t ∈ K):∀ (L:List Ed) (s s':Bs Int),(∀ x ∈ L,x ∈ outE (kpA a K) t) → bsF C (stA (kpA a K)) i t (L.map Ed.e) s = some s' → s' = L.foldl (rsE K i) s
 | [],s,s',_,h=>by injection h with h;exact h.symm
 | x :: L,s,s',hL,h=>by
  have hx:=hL x List.mem_cons_self
  rw [out_kpA ht,List.mem_filter,outE_mem] at hx
  have hst:stA (kpA a K) t x.e = some x.t:=by
   have:=kpA_nxt hw hx.1.1 (by rw [hx.1.2];exact ht) (hasB_mem.1 hx.2)
   rw [hx.1.2] at this
   exact this
  rw [List.map_cons,bsF] at h
  have hE:∀ s1,bsE C (stA (kpA a K)) i t s x.e = some s1 → s1 = rsE K i s x:=fun s1 h1=>by
   unfold bsE at h1
   rw [hst] at h1
   simp only at h1
   unfold rsE
   rw [if_pos hx.2]
   by_cases hi:idx s.ts x.t < 0
   ·rw [if_pos hi] at h1 ⊢
    split at h1
    ·cases h1
    ·injection h1 with h1;exact h1.symm
   ·rw [if_neg hi] at h1 ⊢
    injection h1 with h1
    exact h1.symm
  cases hq:bsE C (stA (kpA a K)) i t s x.e with
  | none=>rw [hq] at h;cases h
  | some s1 =>
   rw [hq] at h
   simp only at h
   rw [List.foldl_cons,← hE s1 hq]
   exact bsF_edges hw ht L s1 s' (fun y hy=>hL y (List.mem_cons_of_mem _ hy)) h
theorem rs_row (hw:WF a) (ht:t ∈ K) {s s':Bs Int} (h:bsF C (stA (kpA a K)) i t a.al s = some s'):s' = (outE a t).foldl (rsE K i) s:=by
 rw [bsF_filter,show a.al = (kpA a K).al from rfl,out_evs (kpA_wf hw) t] at h
 rw [bsF_edges hw ht _ s s' (fun _ hx=>hx) h,out_kpA ht]
 refine foldl_filter (fun b x hq=>?_) _ _
 unfold rsE
 rw [hq,if_neg (by simp)]
theorem rs_run (hw:WF a) (h0:hasB K 0 = true) (hK:∀ s ∈ K,0 ≤ s∧s < a.st):∃ s,canS (kpA a K) = some s∧BInv 4096 (stA (kpA a K)) a.al 0 s.ts.length s∧rsA a K = autOf a.al (mkA (kpA a K)) s:=by
 have hst:(kpA a K).st ≠ 0:=by
  have:=hK 0 (hasB_mem.1 h0)
  show a.st ≠ 0
  omega
 obtain ⟨s,e,hs⟩:=canS_some (kpA_wf (K:=K) hw) hst
 refine ⟨s,e,hs,?_⟩
 unfold rsA canA
 rw [if_pos h0,if_neg hst,e]
 rfl
theorem rs_round (hw:WF a) (h0:hasB K 0 = true) (hK:∀ s ∈ K,0 ≤ s∧s < a.st) {s:Bs Int} (h:BInv 4096 (stA (kpA a K)) a.al 0 i s) (ht:s.ts[i]? = some t):BInv 4096 (stA (kpA a K)) a.al 0 (i + 1) ((outE a t).foldl (rsE K i) s)∧t ∈ K∧bsF 4096 (stA (kpA a K)) i t a.al s = some ((outE a t).foldl (rsE K i) s):=by
 have hin:∀ t,Rch (stA (kpA a K)) a.al 0 t → t ∈ K:=fun t ht=>by
  cases ht with
  | start=>exact hasB_mem.1 h0
  | step _ _ hst =>
   unfold stA at hst
   split at hst
   ·cases hst
   ·rename_i hn
    injection hst with hst
    have hne:nxt (kpA a K) _ _ ≠ -1:=fun e=>hn (by rw [e];omega)
    obtain ⟨x,hx,_,_,hxt⟩:=nxtE_mem hne
    have hx2:=(List.mem_filter.1 hx).2
    unfold kpE at hx2
    rw [Bool.and_eq_true] at hx2
    rw [← hst]
    have:=hasB_mem.1 hx2.2
    rw [hxt] at this
    exact this
 have htK:=hin t (h.rch t (List.mem_of_getElem? ht))
 rcases h.round ht with ⟨s1,h1,h2,_⟩ | ⟨_,l,l1,l2,l3⟩
 ·have:=rs_row hw htK h1
  subst this
  exact ⟨h2,htK,h1⟩
 ·have:=nodup_le l1 (m:=rngI a.st) fun x hx=>rngI_mem.2 (hK x (hin x (l3 x hx)))
  rw [l2,rngI_len] at this
  have:=hw.st1
  omega
end
end Go.Proofs.Ytdnmpndnpfklcaa
