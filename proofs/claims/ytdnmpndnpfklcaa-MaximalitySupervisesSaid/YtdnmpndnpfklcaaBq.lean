/- Plain: the law's rounds are Prove's (chapter 28). -/
import Derived.Test.YtdnmpndnpfklcaaBp
import Derived.Test.YtdnmpndnpfklcaaIf
namespace Go.Proofs.Ytdnmpndnpfklcaa
open Go
section
variable {p:Mx} {N:List Bool} {n:Nat} {l:List Int} {R:List Rm} {rk:Int}
theorem inF_onF (h:N.length = n):inF n (onF N) = N:=by
 apply List.ext_getElem?
 intro i
 by_cases hi:i < n
 ·have hs:∀ s ∈ onF N,0 ≤ s∧s < (n:Int):=fun s hs=>by have:=(onF_mem.1 hs).1;omega
  obtain ⟨q,hq⟩:∃ q,fl (inF n (onF N)) (i:Int) = q:=⟨_,rfl⟩
  obtain ⟨q2,hq2⟩:∃ q,fl N (i:Int) = q:=⟨_,rfl⟩
  have h1:=fl_get hq (by omega) (by rw [inF_len];omega)
  have h2:=fl_get hq2 (by omega) (by omega)
  rw [Int.toNat_natCast] at h1 h2
  rw [h1,h2]
  congr 1
  have h3:=inF_fl hs (t:=(i:Int)) (by omega)
  rw [hq,onF_mem,hq2] at h3
  rw [Bool.eq_iff_iff,h3]
  exact ⟨fun h=>h.2,fun h=>⟨by omega,h⟩⟩
 ·rw [List.getElem?_eq_none (by rw [inF_len];omega),List.getElem?_eq_none (by omega)]
theorem find_congr {α:Type} {f g:α → Bool}:∀ (l:List α),(∀ x ∈ l,f x = g x) → l.find? f = l.find? g
 | [],_=>rfl
 | x :: l,h=>by
  rw [List.find?_cons,List.find?_cons,h x List.mem_cons_self]
  cases g x with
  | true=>rfl
  | false=>exact find_congr l fun y hy=>h y (List.mem_cons_of_mem _ hy)
theorem hasB_onF {s:Int} (h0:0 ≤ s) (h1:s < (N.length:Int)):hasB (onF N) s = fl N s:=by
 rw [Bool.eq_iff_iff,hasB_mem,onF_mem]
 exact ⟨fun h=>h.2,fun h=>⟨⟨h0,h1⟩,h⟩⟩
theorem rndW_eq (hw:WF p.a) (hN:N.length = n) (hn:p.a.st = (n:Int)) (hk:rk ≠ 1):rndW p n (onF N) rk = rndS p N rk:=by
 have h1:(onF N).filterMap (ldX p (onF N) rk) = ldL p N rk:=by
  unfold ldL
  refine fm_congr fun s _=>?_
  unfold ldX ldR ldEL ldE
  rw [find_congr (f:=ldPL p (onF N) s) (g:=ldP p N s) p.a.ed fun y hy=>by
   unfold ldPL ldP
   have hg:=hw.ev_rng hy
   rw [hasB_onF (by omega) (by omega)]]
 have h2:(onF N).filterMap (blX p n (onF N) rk) = blL p N rk:=by
  unfold blL
  refine fm_congr fun s _=>?_
  unfold blX blR
  rw [inF_onF hN]
 unfold rndW rndS
 rw [if_neg hk,h1,h2]
theorem rndW_one (hn:p.a.st = (n:Int)):rndW p n (rngI (n:Int)) 1 = foL p:=by
 unfold rndW foL
 rw [if_pos rfl,hn]
def kpW (R:List Rm) (s:Int):Bool:=!(R.any fun r=>r.s == s)
theorem next_eq (hr:∀ r ∈ R,0 ≤ r.s∧r.s < (N.length:Int)):(onF N).filter (kpW R) = onF (rmv N R):=by
 unfold onF
 rw [rmv_len,List.filter_filter]
 refine List.filter_congr fun s hs=>?_
 have hg:=rngI_mem.1 hs
 rw [Bool.eq_iff_iff,fl_rmv hg.1 R N hr]
 unfold kpW
 simp only [Bool.and_eq_true,Bool.not_eq_true',List.any_eq_false,beq_iff_eq]
 exact ⟨fun h=>⟨h.2,h.1⟩,fun h=>⟨h.2,h.1⟩⟩
theorem onF_true (n:Nat):onF (List.replicate n true) = rngI (n:Int):=by
 unfold onF
 rw [List.length_replicate,List.filter_eq_self]
 intro s hs
 have hg:=rngI_mem.1 hs
 exact fl_all hg.1 hg.2
def PvS (p:Mx) (n:Nat) (rk:Int) (l:List Int) (R:List Rm):Prop:=(rk = 1∧l = rngI (n:Int)∧R = []) ∨ ∃ (N:List Bool) (g:Nat),2 ≤ rk∧N.length = n∧l = onF N∧PrI p rk N R∧prvG p g rk N R = prvS p∧p.a.st + 1 ≤ (g:Int) + R.length∧rk ≤ 2 + R.length
theorem PvS.facts (h:PvS p n rk l R) (hp:p.ok) (hn:p.a.st = (n:Int)):1 ≤ rk∧rk ≤ (n:Int) + 2∧Inc l∧(∀ s ∈ l,0 ≤ s∧s < (n:Int))∧R.length ≤ n:=by
 rcases h with ⟨h1,h2,h3⟩ | ⟨N,g,h1,h2,h3,h4,h5,h6,h7⟩
 ·subst h1 h2 h3
  exact ⟨Int.le_refl _,by omega,rng_inc _,fun s hs=>rngI_mem.1 hs,Nat.zero_le _⟩
 ·have h8:=h4.few hp
  subst h3
  exact ⟨by omega,by omega,onF_inc N,fun s hs=>by have:=(onF_mem.1 hs).1;omega,by omega⟩
theorem PvS.end_ (h:PvS p n rk l R) (hp:p.ok) (hn:p.a.st = (n:Int)) (hk:1 < rk) (he:rndW p n l rk = []):l = onF (prvS p).1∧R = (prvS p).2:=by
 rcases h with ⟨h1,h2,h3⟩ | ⟨N,g,h1,h2,h3,h4,h5,h6,h7⟩
 ·omega
 ·subst h3
  rw [rndW_eq hp.wf h2 hn (by omega)] at he
  have h8:=h4.few hp
  obtain ⟨g,rfl⟩:∃ k,g = k + 1:=⟨g - 1,by omega⟩
  rw [prvG,if_pos he] at h5
  rw [← h5]
  exact ⟨rfl,rfl⟩
theorem PvS.next (h:PvS p n rk l R) (hp:p.ok) (hn:p.a.st = (n:Int)) (he:¬ (1 < rk∧rndW p n l rk = [])):PvS p n (rk + 1) (l.filter (kpW (rndW p n l rk))) (R ++ rndW p n l rk):=by
 rcases h with ⟨h1,h2,h3⟩ | ⟨N,g,h1,h2,h3,h4,h5,h6,h7⟩
 ·subst h1 h2 h3
  have h9:p.a.st.toNat = n:=by omega
  rw [rndW_one hn,List.nil_append]
  refine .inr ⟨rmv (List.replicate n true) (foL p),n + 1,by omega,by rw [rmv_len,List.length_replicate],?_,?_,?_,by omega,by omega⟩
  ·rw [← onF_true,next_eq fun r hr=>by rw [List.length_replicate];have:=(foL_mem.1 hr).1;omega]
  ·have:=PrI.start hp
   rw [h9] at this
   exact this
  ·unfold prvS;rw [h9];rfl
 ·subst h3
  rw [rndW_eq hp.wf h2 hn (by omega)] at he ⊢
  have hne:rndS p N rk ≠ []:=fun h=>he ⟨by omega,h⟩
  have h8:=h4.few hp
  have h9:1 ≤ (rndS p N rk).length:=by
   cases hq:rndS p N rk with
   | nil=>exact absurd hq hne
   | cons a b=>simp
  obtain ⟨g,rfl⟩:∃ k,g = k + 1:=⟨g - 1,by omega⟩
  rw [prvG,if_neg hne] at h5
  refine .inr ⟨rmv N (rndS p N rk),g,by omega,by rw [rmv_len];exact h2,next_eq fun r hr=>(rndS_in hr).1.1,h4.round hp hne,h5,?_,?_⟩
  ·rw [List.length_append];omega
  ·rw [List.length_append];omega
def cerL (p:Mx) (n:Nat) (l:List Int) (R:List Rm):Ce:=⟨l,l.map (dstF p.a (inF n l)),srtR p.a.st R⟩
theorem cerL_eq (hp:p.ok) (hn:p.a.st = (n:Int)) (hl:l = onF (prvS p).1) (hR:R = (prvS p).2):cerL p n l R = prvC p:=by
 obtain ⟨k,o,_⟩:=prvS_spec hp
 subst hl hR
 unfold cerL prvC
 rw [inF_onF (by have:=o.len;omega)]
end
end Go.Proofs.Ytdnmpndnpfklcaa
