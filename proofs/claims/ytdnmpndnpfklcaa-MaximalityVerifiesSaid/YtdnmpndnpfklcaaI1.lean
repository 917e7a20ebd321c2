/- Plain: the law's rounds are Prove's (chapter 28). -/
import Derived.Test.YtdnmpndnpfklcaaBp
import Derived.Test.YtdnmpndnpfklcaaIu
import Derived.Test.YtdnmpndnpfklcaaTu
import Derived.Test.YtdnmpndnpfklcaaIv

namespace Go.Proofs.Ytdnmpndnpfklcaa
open Go
section
variable {p:Mx} {N:List Bool} {n:Nat} {l:List Int} {R:List Rm} {rk:Int}
theorem inF_onF (h:N.length = n):inF n (onF N) = N:=by
 apply List.ext_getElem?
 intro i
 by_cases hi:i < n
 ·have hs:∀ s ∈ onF N,0 ≤ s∧s < (n:Int):=fun s hs=>by have:=(onF_mem.1 hs).1;omega
  obtain ⟨q,hq⟩:∃ q,fl (inF n (onF N)) (i:Int) = q:=⟨_,rfl⟩
  obtain ⟨q2,hq2⟩:∃ q,fl N (i:Int) = q:=⟨_,rfl⟩
  have h1:=fl_get hq (by omega) (by rw [inF_len];omega)
  have h2:=fl_get hq2 (by omega) (by omega)
  rw [Int.toNat_natCast] at h1 h2
  rw [h1,h2]
  congr 1
  have h3:=inF_fl hs (t:=(i:Int)) (by omega)
  rw [hq,onF_mem,hq2] at h3
  rw [Bool.eq_iff_iff,h3]
  exact ⟨fun h=>h.2,fun h=>⟨by omega,h⟩⟩
 ·rw [List.getElem?_eq_none (by rw [inF_len];omega),List.getElem?_eq_none (by omega)]
theorem find_congr {α:Type} {f g:α → Bool}:∀ (l:List α),(∀ x ∈ l,f x = g x) → l.find? f = l.find? g
 | [],_=>rfl
 | x :: l,h=>by
  rw [List.find?_cons,List.find?_cons,h x List.mem_cons_self]
  cases g x with
  | true=>rfl
  | false=>exact find_congr l fun y hy=>h y (List.mem_cons_of_mem _ hy)
theorem hasB_onF {s:Int} (h0:0 ≤ s) (h1:s < (N.length:Int)):hasB (onF N) s = fl N s:=by
 rw [Bool.eq_iff_iff,hasB_mem,onF_mem]
 exact ⟨fun h=>h.2,fun h=>⟨⟨h0,h1⟩,h⟩⟩
theorem rndW_eq (hw:WF p.a) (hN:N.length = n) (hn:p.a.st = (n:Int)) (hk:rk ≠ 1):rndW p n (onF N) rk = rndS p N rk:=by
 have h1:(onF N).filterMap (ldX p (onF N) rk) = ldL p N rk:=by
  unfold ldL
  refine fm_congr fun s _=>?_
  unfold ldX ldR ldEL ldE
  rw [find_congr (f:=ldPL p (onF N) s) (g:=ldP p N s) p.a.ed fun y hy=>by
   unfold ldPL ldP
   have hg:=hw.ev_rng hy
   rw [hasB_onF (by omega) (by omega)]]
 have h2:(onF N).filterMap (blX p n (onF N) rk) = blL p N rk:=by
  unfold blL
  refine fm_congr fun s _=>?_
  unfold blX blR
  rw [inF_onF hN]
 unfold rndW rndS
 rw [if_neg hk,h1,h2]
theorem rndW_one (hn:p.a.st = (n:Int)):rndW p n (rngI (n:Int)) 1 = foL p:=by
 unfold rndW foL
 rw [if_pos rfl,hn]
def kpW (R:List Rm) (s:Int):Bool:=!(R.any fun r=>r.s == s)
theorem next_eq (hr:∀ r ∈ R,0 ≤ r.s∧r.s < (N.length:Int)):(onF N).filter (kpW R) = onF (rmv N R):=by
 unfold onF
 rw [rmv_len,List.filter_filter]
 refine List.filter_congr fun s hs=>?_
 have hg:=rngI_mem.1 hs
 rw [Bool.eq_iff_iff,fl_rmv hg.1 R N hr]
 unfold kpW
 simp only [Bool.and_eq_true,Bool.not_eq_true',List.any_eq_false,beq_iff_eq]
 exact ⟨fun h=>⟨h.2,h.1⟩,fun h=>⟨h.2,h.1⟩⟩
theorem onF_true (n:Nat):onF (List.replicate n true) = rngI (n:Int):=by
 unfold onF
 rw [List.length_replicate,List.filter_eq_self]
 intro s hs
 have hg:=rngI_mem.1 hs
 exact fl_all hg.1 hg.2
def PvS (p:Mx) (n:Nat) (rk:Int) (l:List Int) (R:List Rm):Prop:=(rk = 1∧l = rngI (n:Int)∧R = []) ∨ ∃ (N:List Bool) (g:Nat),2 ≤ rk∧N.length = n∧l = onF N∧PrI p rk N R∧prvG p g rk N R = prvS p∧p.a.st + 1 ≤ (g:Int) + R.length∧rk ≤ 2 + R.length
theorem PvS.facts (h:PvS p n rk l R) (hp:p.ok) (hn:p.a.st = (n:Int)):1 ≤ rk∧rk ≤ (n:Int) + 2∧Inc l∧(∀ s ∈ l,0 ≤ s∧s < (n:Int))∧R.length ≤ n:=by
 rcases h with ⟨h1,h2,h3⟩ | ⟨N,g,h1,h2,h3,h4,h5,h6,h7⟩
 ·subst h1 h2 h3
  exact ⟨Int.le_refl _,by omega,rng_inc _,fun s hs=>rngI_mem.1 hs,Nat.zero_le _⟩
 ·have h8:=h4.few hp
  subst h3
  exact ⟨by omega,by omega,onF_inc N,fun s hs=>by have:=(onF_mem.1 hs).1;omega,by omega⟩
theorem PvS.end_ (h:PvS p n rk l R) (hp:p.ok) (hn:p.a.st = (n:Int)) (hk:1 < rk) (he:rndW p n l rk = []):l = onF (prvS p).1∧R = (prvS p).2:=by
 rcases h with ⟨h1,h2,h3⟩ | ⟨N,g,h1,h2,h3,h4,h5,h6,h7⟩
 ·omega
 ·subst h3
  rw [rndW_eq hp.wf h2 hn (by omega)] at he
  have h8:=h4.few hp
  obtain ⟨g,rfl⟩:∃ k,g = k + 1:=⟨g - 1,by omega⟩
  rw [prvG,if_pos he] at h5
  rw [← h5]
  exact ⟨rfl,rfl⟩
theorem PvS.next (h:PvS p n rk l R) (hp:p.ok) (hn:p.a.st = (n:Int)) (he:¬ (1 < rk∧rndW p n l rk = [])):PvS p n (rk + 1) (l.filter (kpW (rndW p n l rk))) (R ++ rndW p n l rk):=by
 rcases h with ⟨h1,h2,h3⟩ | ⟨N,g,h1,h2,h3,h4,h5,h6,h7⟩
 ·subst h1 h2 h3
  have h9:p.a.st.toNat = n:=by omega
  rw [rndW_one hn,List.nil_append]
  refine .inr ⟨rmv (List.replicate n true) (foL p),n + 1,by omega,by rw [rmv_len,List.length_replicate],?_,?_,?_,by omega,by omega⟩
  ·rw [← onF_true,next_eq fun r hr=>by rw [List.length_replicate];have:=(foL_mem.1 hr).1;omega]
  ·have:=PrI.start hp
   rw [h9] at this
   exact this
  ·unfold prvS;rw [h9];rfl
 ·subst h3
  rw [rndW_eq hp.wf h2 hn (by omega)] at he ⊢
  have hne:rndS p N rk ≠ []:=fun h=>he ⟨by omega,h⟩
  have h8:=h4.few hp
  have h9:1 ≤ (rndS p N rk).length:=by
   cases hq:rndS p N rk with
   | nil=>exact absurd hq hne
   | cons a b=>simp
  obtain ⟨g,rfl⟩:∃ k,g = k + 1:=⟨g - 1,by omega⟩
  rw [prvG,if_neg hne] at h5
  refine .inr ⟨rmv N (rndS p N rk),g,by omega,by rw [rmv_len];exact h2,next_eq fun r hr=>(rndS_in hr).1.1,h4.round hp hne,h5,?_,?_⟩
  ·rw [List.length_append];omega
  ·rw [List.length_append];omega
def cerL (p:Mx) (n:Nat) (l:List Int) (R:List Rm):Ce:=⟨l,l.map (dstF p.a (inF n l)),srtR p.a.st R⟩
theorem cerL_eq (hp:p.ok) (hn:p.a.st = (n:Int)) (hl:l = onF (prvS p).1) (hR:R = (prvS p).2):cerL p n l R = prvC p:=by
 obtain ⟨k,o,_⟩:=prvS_spec hp
 subst hl hR
 unfold cerL prvC
 rw [inF_onF (by have:=o.len;omega)]
end
end Go.Proofs.Ytdnmpndnpfklcaa
/- The U-law where q waits for a read through others. No program in sight. -/
namespace Go.Proofs.Ytdnmpndnpfklcaa
open Go
section
variable {P:Program} {ops:Array Oper} {md:Region.Mode} {Q:Exit → Act → World → Prop} {A B:World → Prop} {q:Nat}
def clP (md:Region.Mode) (ops:Array Oper) (L:Array Bool):Prop:=∀ k o,ops[k]? = some o → L.getD k false = true → ∀ e ∈ o.after,Region.binds md e = true → L.getD e.on false = true
def clB (md:Region.Mode) (ops:Array Oper) (L:Array Bool):Bool:=(List.range ops.size).all fun k=>!L.getD k false || (match ops[k]? with
 | none=>true
 | some o=>o.after.all fun e=>!Region.binds md e || L.getD e.on false)
theorem clB_spec {L:Array Bool} (h:clB md ops L = true):clP md ops L:=fun k o ho hk e he hb=>by
 have hlt:=(Array.getElem?_eq_some_iff.1 ho).1
 have h1:=List.all_eq_true.1 h k (List.mem_range.2 hlt)
 rw [hk,ho] at h1
 simp only [Bool.not_true,Bool.false_or] at h1
 have h2:=Array.all_eq_true'.1 h1 e he
 rw [hb] at h2
 simpa using h2
theorem clP_step {L:Array Bool} {j:Nat} (h:clP md ops L) (hj:j ∈ Region.ready md ops L):clP md ops (L.setIfInBounds j true):=fun k o ho hk e he hb=>by
 refine getD_set_true ?_
 by_cases hkj:j = k
 ·subst hkj
  obtain ⟨_,o',ho',hall⟩:=mem_ready.1 hj
  obtain rfl:o' = o:=Option.some.inj (ho'.symm.trans ho)
  exact hall e he hb
 ·rw [getD_set_ne false hkj] at hk
  exact h k o ho hk e he hb
def wtB (md:Region.Mode) (ops:Array Oper):Nat → Nat → Nat → Bool
 | 0,_,_=>false
 | f + 1,q,i=>match ops[q]? with
  | none=>false
  | some o=>o.after.any fun e=>Region.binds md e && (e.on == i || wtB md ops f e.on i)
theorem not_ready {L:Array Bool} (h:clP md ops L) {i:Nat} (hi:L.getD i false = false):∀ (f q:Nat),wtB md ops f q i = true → L.getD q false = false∧q ∉ Region.ready md ops L
 | 0,_,hw=>by cases hw
 | f + 1,q,hw=>by
  unfold wtB at hw
  cases hq:ops[q]? with
  | none=>rw [hq] at hw;cases hw
  | some o =>
   rw [hq] at hw
   simp only at hw
   obtain ⟨e,he,hb⟩:=Array.any_eq_true'.1 hw
   simp only [Bool.and_eq_true,Bool.or_eq_true,beq_iff_eq] at hb
   have hoff:L.getD e.on false = false:=by
    rcases hb.2 with hb2 | hb2
    ·rw [hb2];exact hi
    ·exact (not_ready h hi f e.on hb2).1
   refine ⟨?_,fun hr=>?_⟩
   ·cases hl:L.getD q false with
    | false=>rfl
    | true=>rw [h q o hq hl e he hb.1] at hoff;cases hoff
   ·obtain ⟨_,o',ho',hall⟩:=mem_ready.1 hr
    obtain rfl:o' = o:=Option.some.inj (ho'.symm.trans hq)
    rw [hall e he hb.1] at hoff
    cases hoff
theorem anyU_firstT {i:Nat} {oi:Oper} {v:Value} (hi:ops[i]? = some oi) (hsel:∀ (j:Nat) (o:Oper) cs b,ops[j]? = some o → o.op ≠ .select cs b)
  (hQ:∀ c a w,Q (.panic c) (a.put oi.dst v) w → Q (.panic c) a w) (hiq:i ≠ q) {fu:Nat} (hwt:wtB md ops fu q i = true) :
  ∀ (f:Nat) (listed:Array Bool) (a:Act) (w:World),
   (∀ j oj,ops[j]? = some oj → j ≠ i → listed.getD j true = false → (∀ e ∈ oj.after,Region.binds md e = true → e.on ≠ i) → oi.apart ops oj = true) →
   i ∈ Region.ready md ops listed → clP md ops listed → YieldsIf P ops (fun w=>A w∧B w) oi v a → heldU A B q listed w → listed.getD q true = false →
   anyU P md ops Q A B q f (listed.setIfInBounds i true) (a.put oi.dst v) w → anyU P md ops Q A B q (f + 1) listed a w
 | f,listed,a,w,hfree,hr,hcl,hy,hS,hu,H=>by
  have hsame:∀ (L:Array Bool) (W:World),heldU A B q (L.setIfInBounds i true) W ↔ heldU A B q L W:=fun L W=>by unfold heldU;rw [getD_set_ne true hiq]
  have hrun:∀ {K:Act → World → Prop},K (a.put oi.dst v) w → wpOp P ops Q i K a w:=fun hK=>hy.wpOp hi ⟨hS.1,hS.2 hu⟩ hK
  refine ⟨fun h=>(by rw [h] at hr;cases hr),fun j hj=>?_⟩
  by_cases hji:j = i
  ·subst hji;exact hrun ⟨(hsame _ _).2 hS,H⟩
  match f,H with
  | 0,H =>
   have:=ready_mono hj hji
   rw [H.1] at this
   cases this
  | f + 1,H =>
   have h1:=H.2 j (ready_mono hj hji)
   obtain ⟨hjun,oj,hoj,hall⟩:=mem_ready.1 hj
   have hun:=(mem_ready.1 hr).1
   have hnot:∀ e ∈ oj.after,Region.binds md e = true → e.on ≠ i:=fun e he hb heq=>by
    have h1:=hall e he hb
    rw [heq,getD_both hun] at h1
    cases h1
   have h2:=wpOp_putIf hoj (hfree j oj hoj hji hjun hnot) (fun cs b=>hsel i oi cs b hi) (fun cs b=>hsel j oj cs b hoj) hQ hy h1
   have hfree':∀ k ok,ops[k]? = some ok → k ≠ i → (listed.setIfInBounds j true).getD k true = false → (∀ e ∈ ok.after,Region.binds md e = true → e.on ≠ i) → oi.apart ops ok = true:=fun k ok hk hki hun hno=>by
    refine hfree k ok hk hki ?_ hno
    by_cases hjk:j = k
    ·subst hjk;exact hjun
    ·rw [getD_set_ne true hjk] at hun;exact hun
   have hjq:j ≠ q:=by
    rintro rfl
    exact (not_ready hcl (getD_both hun) fu j hwt).2 hj
   have hu':(listed.setIfInBounds j true).getD q true = false:=by rw [getD_set_ne true hjq];exact hu
   refine wpOp_mono (fun a' w' h3=>?_) h2
   have hS':heldU A B q (listed.setIfInBounds j true) w':=by
    have:=h3.2.1
    rw [Array.setIfInBounds_comm _ _ (Ne.symm hji)] at this
    exact (hsame _ _).1 this
   refine ⟨hS',anyU_firstT hi hsel hQ hiq hwt f (listed.setIfInBounds j true) a' w' hfree' (ready_mono hr (Ne.symm hji)) (clP_step hcl hj) h3.1 hS' hu' ?_⟩
   rw [Array.setIfInBounds_comm _ _ hji]
   exact h3.2.2
theorem uBT {l:List Oper} (i:Nat) {oi:Oper} {r:List Oper} (v:Value) {f:Nat} {listed:Array Bool} {a:Act} {w:World} (hi:l.drop i = oi :: r) (hA0:A w) (hB0:B w) (hy:∀ W,A W → B W → (execOp a.eval oi).run P W = .ok (.value v) W)
  (h:anyU P md l.toArray Q A B q f (listed.setIfInBounds i true) (a.put oi.dst v) w) (hB:takeB md l.toArray q i listed = true:=by kernel_rfl) (hW:wtB md l.toArray 12 q i = true:=by kernel_rfl) (hc:clB md l.toArray listed = true:=by kernel_rfl) (hq:listed.getD q true = false:=by kernel_rfl)
  (hQ:∀ c a w,Q (.panic c) (a.put oi.dst v) w → Q (.panic c) a w:=by exact fun _ _ _ h=>h) (hw:Region.wanted oi (yielded l.toArray a.tmps) = true:=by rfl):anyU P md l.toArray Q A B q (f + 1) listed a w:=by
 simp only [takeB,Bool.and_eq_true,Bool.or_eq_true,Bool.not_eq_true',decide_eq_true_eq] at hB
 obtain ⟨⟨⟨⟨h1,h2⟩,h3⟩,h4⟩,_⟩:=hB
 exact anyU_firstT (at_drop hi) (Region.noSelect_spec h1) hQ h4 hW f listed a w (Region.free_spec (at_drop hi) h2) (by simpa using h3) (clB_spec hc) (.inl ⟨hw,fun W hW=>hy W hW.1 hW.2⟩) ⟨hA0,fun _=>hB0⟩ hq h
end
end Go.Proofs.Ytdnmpndnpfklcaa

/- Plain: the search by which Restrict numbers its states is that of the canonical form (chapter 28). -/
namespace Go.Proofs.Ytdnmpndnpfklcaa
open Go
section
variable {a:Aut} {K:List Int} {C i:Nat} {t:Int}
def rsE (K:List Int) (i:Nat) (s:Bs Int) (x:Ed):Bs Int :=
 if hasB K x.t = true then (if idx s.ts x.t < 0 then ⟨s.ts ++ [x.t],s.es ++ [⟨i,x.e,s.ts.length⟩]⟩ else ⟨s.ts,s.es ++ [⟨i,x.e,idx s.ts x.t⟩]⟩) else s
theorem out_kpA (ht:t ∈ K):outE (kpA a K) t = (outE a t).filter fun x=>hasB K x.t:=by
 unfold outE kpA kpE
 rw [List.filter_filter,List.filter_filter]
 refine List.filter_congr fun x _=>?_
 by_cases h:x.f = t
 ·rw [decide_eq_true h,h,hasB_mem.2 ht];simp
 ·rw [decide_eq_false h];simp
theorem foldl_filter {α β:Type} {q:α → Bool} {f:β → α → β} (h:∀ b x,q x = false → f b x = b):∀ (l:List α) (b:β),(l.filter q).foldl f b = l.foldl f b
 | [],_=>rfl
 | x :: l,b=>by
  cases hq:q x with
  | true=>rw [List.filter_cons_of_pos hq,List.foldl_cons,List.foldl_cons];exact foldl_filter h l _
  | false=>rw [List.filter_cons_of_neg (by simp [hq]),List.foldl_cons,h b x hq];exact foldl_filter h l b
theorem bsF_edges (hw:WF a) (ht:t ∈ K):∀ (L:List Ed) (s s':Bs Int),(∀ x ∈ L,x ∈ outE (kpA a K) t) → bsF C (stA (kpA a K)) i t (L.map Ed.e) s = some s' → s' = L.foldl (rsE K i) s
 | [],s,s',_,h=>by injection h with h;exact h.symm
 | x :: L,s,s',hL,h=>by
  have hx:=hL x List.mem_cons_self
  rw [out_kpA ht,List.mem_filter,outE_mem] at hx
  have hst:stA (kpA a K) t x.e = some x.t:=by
   have:=kpA_nxt hw hx.1.1 (by rw [hx.1.2];exact ht) (hasB_mem.1 hx.2)
   rw [hx.1.2] at this
   exact this
  rw [List.map_cons,bsF] at h
  have hE:∀ s1,bsE C (stA (kpA a K)) i t s x.e = some s1 → s1 = rsE K i s x:=fun s1 h1=>by
   unfold bsE at h1
   rw [hst] at h1
   simp only at h1
   unfold rsE
   rw [if_pos hx.2]
   by_cases hi:idx s.ts x.t < 0
   ·rw [if_pos hi] at h1 ⊢
    split at h1
    ·cases h1
    ·injection h1 with h1;exact h1.symm
   ·rw [if_neg hi] at h1 ⊢
    injection h1 with h1
    exact h1.symm
  cases hq:bsE C (stA (kpA a K)) i t s x.e with
  | none=>rw [hq] at h;cases h
  | some s1 =>
   rw [hq] at h
   simp only at h
   rw [List.foldl_cons,← hE s1 hq]
   exact bsF_edges hw ht L s1 s' (fun y hy=>hL y (List.mem_cons_of_mem _ hy)) h
theorem rs_row (hw:WF a) (ht:t ∈ K) {s s':Bs Int} (h:bsF C (stA (kpA a K)) i t a.al s = some s'):s' = (outE a t).foldl (rsE K i) s:=by
 rw [bsF_filter,show a.al = (kpA a K).al from rfl,out_evs (kpA_wf hw) t] at h
 rw [bsF_edges hw ht _ s s' (fun _ hx=>hx) h,out_kpA ht]
 refine foldl_filter (fun b x hq=>?_) _ _
 unfold rsE
 rw [hq,if_neg (by simp)]
theorem rs_run (hw:WF a) (h0:hasB K 0 = true) (hK:∀ s ∈ K,0 ≤ s∧s < a.st):∃ s,canS (kpA a K) = some s∧BInv 4096 (stA (kpA a K)) a.al 0 s.ts.length s∧rsA a K = autOf a.al (mkA (kpA a K)) s:=by
 have hst:(kpA a K).st ≠ 0:=by
  have:=hK 0 (hasB_mem.1 h0)
  show a.st ≠ 0
  omega
 obtain ⟨s,e,hs⟩:=canS_some (kpA_wf (K:=K) hw) hst
 refine ⟨s,e,hs,?_⟩
 unfold rsA canA
 rw [if_pos h0,if_neg hst,e]
 rfl
theorem rs_round (hw:WF a) (h0:hasB K 0 = true) (hK:∀ s ∈ K,0 ≤ s∧s < a.st) {s:Bs Int} (h:BInv 4096 (stA (kpA a K)) a.al 0 i s) (ht:s.ts[i]? = some t):BInv 4096 (stA (kpA a K)) a.al 0 (i + 1) ((outE a t).foldl (rsE K i) s)∧t ∈ K∧bsF 4096 (stA (kpA a K)) i t a.al s = some ((outE a t).foldl (rsE K i) s):=by
 have hin:∀ t,Rch (stA (kpA a K)) a.al 0 t → t ∈ K:=fun t ht=>by
  cases ht with
  | start=>exact hasB_mem.1 h0
  | step _ _ hst =>
   unfold stA at hst
   split at hst
   ·cases hst
   ·rename_i hn
    injection hst with hst
    have hne:nxt (kpA a K) _ _ ≠ -1:=fun e=>hn (by rw [e];omega)
    obtain ⟨x,hx,_,_,hxt⟩:=nxtE_mem hne
    have hx2:=(List.mem_filter.1 hx).2
    unfold kpE at hx2
    rw [Bool.and_eq_true] at hx2
    rw [← hst]
    have:=hasB_mem.1 hx2.2
    rw [hxt] at this
    exact this
 have htK:=hin t (h.rch t (List.mem_of_getElem? ht))
 rcases h.round ht with ⟨s1,h1,h2,_⟩ | ⟨_,l,l1,l2,l3⟩
 ·have:=rs_row hw htK h1
  subst this
  exact ⟨h2,htK,h1⟩
 ·have:=nodup_le l1 (m:=rngI a.st) fun x hx=>rngI_mem.2 (hK x (hin x (l3 x hx)))
  rw [l2,rngI_len] at this
  have:=hw.st1
  omega
end
end Go.Proofs.Ytdnmpndnpfklcaa
