/- Plain: the rounds, their certificate and what holds for it (chapter 28). -/
import Derived.Test.YtdnmpndnpfklcaaId

namespace Go.Proofs.Ytdnmpndnpfklcaa
open Go
section
variable {p:Mx} {N:List Bool} {rk:Int} {R:List Rm}
def rmv (N:List Bool) (l:List Rm):List Bool:=l.foldl (fun N r=>N.set r.s.toNat false) N
theorem rmv_len:∀ (l:List Rm) (N:List Bool),(rmv N l).length = N.length
 | [],_=>rfl
 | r :: l,N=>by
  show (rmv (N.set r.s.toNat false) l).length = _
  rw [rmv_len l,List.length_set]
theorem fl_clr {s t:Int} (hs:0 ≤ s∧s < (N.length:Int)) (ht:0 ≤ t):fl (N.set s.toNat false) t = (!decide (t = s) && fl N t):=by
 unfold fl
 rw [List.getD_eq_getElem?_getD,List.getD_eq_getElem?_getD,List.getElem?_set]
 by_cases h:t = s
 ·subst h
  rw [if_pos rfl,if_pos (by omega)]
  simp
 ·rw [if_neg (by omega),decide_eq_false h]
  rfl
theorem fl_rmv {t:Int} (ht:0 ≤ t):∀ (l:List Rm) (N:List Bool),(∀ r ∈ l,0 ≤ r.s∧r.s < (N.length:Int)) → (fl (rmv N l) t = true ↔ fl N t = true∧∀ r ∈ l,r.s ≠ t)
 | [],N,_=>by simp [rmv]
 | r :: l,N,h=>by
  show fl (rmv (N.set r.s.toNat false) l) t = true ↔ _
  rw [fl_rmv ht l _ (fun q hq=>by rw [List.length_set];exact h q (List.mem_cons_of_mem _ hq)),fl_clr (h r List.mem_cons_self) ht]
  simp only [Bool.and_eq_true,Bool.not_eq_true',decide_eq_false_iff_not,List.mem_cons,forall_eq_or_imp]
  constructor
  ·rintro ⟨⟨a,b⟩,c⟩;exact ⟨b,fun e=>a e.symm,c⟩
  ·rintro ⟨a,b,c⟩;exact ⟨⟨fun e=>b e.symm,a⟩,c⟩
def rndS (p:Mx) (N:List Bool) (rk:Int):List Rm:=if ldL p N rk = [] then blL p N rk else ldL p N rk
def prvG (p:Mx):Nat → Int → List Bool → List Rm → List Bool × List Rm
 | 0,_,N,R=>(N,R)
 | g + 1,rk,N,R=>if rndS p N rk = [] then (N,R) else prvG p g (rk + 1) (rmv N (rndS p N rk)) (R ++ rndS p N rk)
def prvS (p:Mx):List Bool × List Rm:=prvG p (p.a.st.toNat + 1) 2 (rmv (List.replicate p.a.st.toNat true) (foL p)) (foL p)
def srtR (n:Int) (R:List Rm):List Rm:=(rngI n).flatMap fun s=>R.filter fun r=>decide (r.s = s)
def prvC (p:Mx):Ce:=⟨onF (prvS p).1,(onF (prvS p).1).map (dstF p.a (prvS p).1),srtR p.a.st (prvS p).2⟩
theorem blL_mem {r:Rm}:r ∈ blL p N rk ↔ ((0 ≤ r.s∧r.s < (N.length:Int))∧fl N r.s = true)∧r.k = rk∧r.r = 3∧r.e = -1∧dstF p.a N r.s < 0:=by
 unfold blL blR
 rw [List.mem_filterMap]
 constructor
 ·rintro ⟨s,hs,hr⟩
  split at hr
  ·rename_i hd
   injection hr with hr
   subst hr
   exact ⟨onF_mem.1 hs,rfl,rfl,rfl,hd⟩
  ·cases hr
 ·rintro ⟨h1,h2,h3,h4,h5⟩
  exact ⟨r.s,onF_mem.2 h1,by rw [if_pos h5];simp [Rm.eq_iff,h2,h3,h4]⟩
theorem foL_mem {r:Rm}:r ∈ foL p ↔ (0 ≤ r.s∧r.s < p.a.st)∧r.k = 1∧r.r = 1∧r.e = -1∧r.s ∈ p.f:=by
 unfold foL foR
 rw [List.mem_filterMap]
 constructor
 ·rintro ⟨s,hs,hr⟩
  split at hr
  ·rename_i hd
   injection hr with hr
   subst hr
   exact ⟨rngI_mem.1 hs,rfl,rfl,rfl,hasB_mem.1 hd⟩
  ·cases hr
 ·rintro ⟨h1,h2,h3,h4,h5⟩
  exact ⟨r.s,rngI_mem.2 h1,by rw [if_pos (hasB_mem.2 h5)];simp [Rm.eq_iff,h2,h3,h4]⟩
theorem rndS_in {r:Rm} (h:r ∈ rndS p N rk):((0 ≤ r.s∧r.s < (N.length:Int))∧fl N r.s = true)∧r.k = rk∧(r.r = 2 ∨ r.r = 3):=by
 unfold rndS at h
 split at h
 ·have:=blL_mem.1 h;exact ⟨this.1,this.2.1,.inr this.2.2.1⟩
 ·have:=ldL_mem.1 h;exact ⟨this.1,this.2.1,.inl this.2.2.1⟩
theorem rndS_inc:IncR (rndS p N rk):=by
 unfold rndS
 split
 ·exact blL_inc
 ·exact ldL_inc
structure PrI (p:Mx) (rk:Int) (N:List Bool) (R:List Rm):Prop where
 len:(N.length:Int) = p.a.st
 out:∀ s,0 ≤ s → s < p.a.st → (fl N s = false ↔ ∃ r ∈ R,r.s = s)
 uni:R.Pairwise fun x y=>x.s ≠ y.s
 rng:∀ r ∈ R,0 ≤ r.s∧r.s < p.a.st
 rks:∀ r ∈ R,1 ≤ r.k∧r.k < rk
 knd:∀ r ∈ R,r.r = 1 ∨ r.r = 2 ∨ r.r = 3
 fo:∀ r ∈ R,r.r = 1 → r.e = -1∧r.s ∈ p.f
 un:∀ r ∈ R,r.r = 2 → ∃ x ∈ p.a.ed,x.f = r.s∧x.e = r.e∧hasB p.u x.e = true∧∃ y ∈ R,y.s = x.t∧y.k < r.k
 bl:∀ r ∈ R,r.r = 3 → r.e = -1∧r.s ∉ p.a.ma∧∀ x ∈ p.a.ed,x.f = r.s → ∃ y ∈ R,y.s = x.t∧(y.k < r.k ∨ (y.k = r.k∧y.r = 3))
 frb:∀ s ∈ p.f,fl N s = false
 num:rk ≤ (R.length:Int) + 2∧2 ≤ rk
theorem PrI.start (h:p.ok):PrI p 2 (rmv (List.replicate p.a.st.toNat true) (foL p)) (foL p):=by
 have h0:=h.wf.st0
 have hrep:∀ s:Int,0 ≤ s → s < p.a.st → fl (List.replicate p.a.st.toNat true) s = true:=fun s h1 h2=>by
  unfold fl
  rw [List.getD_eq_getElem?_getD,List.getElem?_replicate,if_pos (by omega)]
  rfl
 have hr:∀ r ∈ foL p,0 ≤ r.s∧r.s < ((List.replicate p.a.st.toNat true).length:Int):=fun r hr=>by
  have:=(foL_mem.1 hr).1
  rw [List.length_replicate]
  omega
 have hout:∀ s,0 ≤ s → s < p.a.st → (fl (rmv (List.replicate p.a.st.toNat true) (foL p)) s = false ↔ ∃ r ∈ foL p,r.s = s):=fun s h1 h2=>by
  have:=fl_rmv h1 (foL p) _ hr
  rw [hrep s h1 h2] at this
  constructor
  ·intro hf
   rw [hf] at this
   apply Classical.byContradiction
   intro hno
   exact absurd (this.2 ⟨rfl,fun r hr e=>hno ⟨r,hr,e⟩⟩) (by simp)
  ·rintro ⟨r,hr,e⟩
   cases hf:fl (rmv (List.replicate p.a.st.toNat true) (foL p)) s with
   | false=>rfl
   | true=>exact absurd e ((this.1 hf).2 r hr)
 refine ⟨by rw [rmv_len,List.length_replicate];omega,hout,foL_inc.imp fun {a b} hab=>by omega,fun r hr=>(foL_mem.1 hr).1,fun r hr=>by have:=(foL_mem.1 hr).2.1;omega,fun r hr=>.inl (foL_mem.1 hr).2.2.1,fun r hr _=>⟨(foL_mem.1 hr).2.2.2.1,(foL_mem.1 hr).2.2.2.2⟩,fun r hr h2=>?_,fun r hr h2=>?_,fun s hs=>?_,by omega⟩
 ·have:=(foL_mem.1 hr).2.2.1;omega
 ·have:=(foL_mem.1 hr).2.2.1;omega
 ·have hg:=h.frng s hs
  exact (hout s hg.1 hg.2).2 ⟨⟨s,1,1,-1⟩,foL_mem.2 ⟨hg,rfl,rfl,rfl,hs⟩,rfl⟩
theorem dst_neg (hw:WF p.a) {s:Int} (h0:0 ≤ s) (h1:s < p.a.st) (hs:fl N s = true) (hd:dstF p.a N s < 0):∀ d,¬ Dp p.a.ed N p.a.ma s d:=by
 rcases dstF_ok hw h0 h1 hs with ⟨_,h⟩ | ⟨d,hv,_,_⟩
 ·exact h
 ·omega
theorem dst_of_none (hw:WF p.a) {s:Int} (h0:0 ≤ s) (h1:s < p.a.st) (hs:fl N s = true) (hd:∀ d,¬ Dp p.a.ed N p.a.ma s d):dstF p.a N s < 0:=by
 rcases dstF_ok hw h0 h1 hs with ⟨hv,_⟩ | ⟨d,_,h,_⟩
 ·omega
 ·exact absurd h (hd d)
theorem PrI.round (h:p.ok) (o:PrI p rk N R) (hne:rndS p N rk ≠ []):PrI p (rk + 1) (rmv N (rndS p N rk)) (R ++ rndS p N rk):=by
 have hr:∀ r ∈ rndS p N rk,0 ≤ r.s∧r.s < (N.length:Int):=fun r hr=>(rndS_in hr).1.1
 have hlen:0 < (rndS p N rk).length:=List.length_pos_iff.2 hne
 have hgo:∀ s,0 ≤ s → s < p.a.st → (fl (rmv N (rndS p N rk)) s = false ↔ ∃ r ∈ R ++ rndS p N rk,r.s = s):=fun s h1 h2=>by
  have ht:=fl_rmv h1 (rndS p N rk) N hr
  constructor
  ·intro hf
   rw [hf] at ht
   cases hN:fl N s with
   | false =>
    obtain ⟨r,hr,e⟩:=(o.out s h1 h2).1 hN
    exact ⟨r,List.mem_append_left _ hr,e⟩
   | true =>
    apply Classical.byContradiction
    intro hno
    exact absurd (ht.2 ⟨hN,fun r hr e=>hno ⟨r,List.mem_append_right _ hr,e⟩⟩) (by simp)
  ·rintro ⟨r,hr,e⟩
   cases hf:fl (rmv N (rndS p N rk)) s with
   | false=>rfl
   | true =>
    have:=ht.1 hf
    rcases List.mem_append.1 hr with hr | hr
    ·rw [(o.out s h1 h2).2 ⟨r,hr,e⟩] at this
     exact absurd this.1 (by simp)
    ·exact absurd e (this.2 r hr)
 have hgone:∀ t,0 ≤ t → t < p.a.st → fl N t = false → ∃ y ∈ R ++ rndS p N rk,y.s = t∧y.k < rk:=fun t h1 h2 hf=>by
  obtain ⟨y,hy,e⟩:=(o.out t h1 h2).1 hf
  exact ⟨y,List.mem_append_left _ hy,e,(o.rks y hy).2⟩
 refine ⟨by rw [rmv_len];exact o.len,hgo,?_,fun r hr2=>?_,fun r hr2=>?_,fun r hr2=>?_,fun r hr2 h1=>?_,fun r hr2 h1=>?_,fun r hr2 h1=>?_,fun s hs=>?_,by rw [List.length_append];have:=o.num;omega⟩
 ·rw [List.pairwise_append]
  refine ⟨o.uni,rndS_inc.imp fun {a b} hab=>by omega,fun r hr1 t ht e=>?_⟩
  have h1:=o.rng r hr1
  have:=(o.out r.s h1.1 h1.2).2 ⟨r,hr1,rfl⟩
  rw [e,(rndS_in ht).1.2] at this
  cases this
 ·rcases List.mem_append.1 hr2 with hr2 | hr2
  ·exact o.rng r hr2
  ·have:=hr r hr2;rw [o.len] at this;exact this
 ·rcases List.mem_append.1 hr2 with hr2 | hr2
  ·have:=o.rks r hr2;omega
  ·have:=(rndS_in hr2).2.1;have:=o.num;omega
 ·rcases List.mem_append.1 hr2 with hr2 | hr2
  ·exact o.knd r hr2
  ·exact .inr (rndS_in hr2).2.2
 ·rcases List.mem_append.1 hr2 with hr2 | hr2
  ·exact o.fo r hr2 h1
  ·have:=(rndS_in hr2).2.2;omega
 ·rcases List.mem_append.1 hr2 with hr2 | hr2
  ·obtain ⟨x,hx,a,b,c,y,hy,d⟩:=o.un r hr2 h1
   exact ⟨x,hx,a,b,c,y,List.mem_append_left _ hy,d⟩
  ·have hk:=(rndS_in hr2).2.1
   unfold rndS at hr2
   split at hr2
   ·have:=(blL_mem.1 hr2).2.2.1;omega
   ·obtain ⟨_,_,_,x,hx,hxe⟩:=ldL_mem.1 hr2
    have h2:=List.find?_some hx
    have hxm:=List.mem_of_find?_eq_some hx
    unfold ldP at h2
    simp only [Bool.and_eq_true,decide_eq_true_eq,Bool.not_eq_true'] at h2
    have hg:=h.wf.ev_rng hxm
    obtain ⟨y,hy,e,hyk⟩:=hgone x.t hg.2.2.1 hg.2.2.2.1 h2.2
    exact ⟨x,hxm,h2.1.1,hxe,h2.1.2,y,hy,e,by omega⟩
 ·rcases List.mem_append.1 hr2 with hr2 | hr2
  ·obtain ⟨a,b,c⟩:=o.bl r hr2 h1
   refine ⟨a,b,fun x hx hxf=>?_⟩
   obtain ⟨y,hy,d⟩:=c x hx hxf
   exact ⟨y,List.mem_append_left _ hy,d⟩
  ·have hin:=rndS_in hr2
   have hbl:r ∈ blL p N rk∧rndS p N rk = blL p N rk:=by
    unfold rndS at hr2 ⊢
    split at hr2
    ·rename_i hq
     rw [if_pos hq]
     exact ⟨hr2,rfl⟩
    ·have:=(ldL_mem.1 hr2).2.2.1;omega
   have hb:=blL_mem.1 hbl.1
   have hno:=dst_neg h.wf hin.1.1.1 (by have:=o.len;omega) hin.1.2 hb.2.2.2.2
   refine ⟨hb.2.2.2.1,fun hm=>hno 0 (.mk hin.1.2 hm),fun x hx hxf=>?_⟩
   have hg:=h.wf.ev_rng hx
   cases hf:fl N x.t with
   | false =>
    obtain ⟨y,hy,e,hyk⟩:=hgone x.t hg.2.2.1 hg.2.2.2.1 hf
    exact ⟨y,hy,e,.inl (by omega)⟩
   | true =>
    have hd:=dst_of_none (N:=N) h.wf hg.2.2.1 hg.2.2.2.1 hf fun d hd=>hno (d + 1) (by rw [← hxf];exact .st hx (by rw [hxf];exact hin.1.2) hd)
    refine ⟨⟨x.t,rk,3,-1⟩,List.mem_append_right _ ?_,rfl,.inr ⟨hin.2.1.symm,rfl⟩⟩
    rw [hbl.2]
    exact blL_mem.2 ⟨⟨⟨hg.2.2.1,by have:=o.len;show x.t < _;omega⟩,hf⟩,rfl,rfl,rfl,hd⟩
 ·have hg:=h.frng s hs
  have:=(o.out s hg.1 hg.2).1 (o.frb s hs)
  obtain ⟨r,hr,e⟩:=this
  exact (hgo s hg.1 hg.2).2 ⟨r,List.mem_append_left _ hr,e⟩
theorem PrI.few (h:p.ok) (o:PrI p rk N R):(R.length:Int) ≤ p.a.st:=by
 have h1:(R.map (·.s)).Nodup:=by
  unfold List.Nodup
  rw [List.pairwise_map]
  exact o.uni
 have:=nodup_le (m:=rngI p.a.st) h1 (fun s hs=>by
  obtain ⟨r,hr,rfl⟩:=List.mem_map.1 hs
  exact rngI_mem.2 (o.rng r hr))
 rw [List.length_map,rngI_len] at this
 have:=h.wf.st0
 omega
theorem prvG_spec (h:p.ok):∀ (g:Nat) (rk:Int) (N:List Bool) (R:List Rm),PrI p rk N R → p.a.st + 1 ≤ (g:Int) + R.length → ∃ k,PrI p k (prvG p g rk N R).1 (prvG p g rk N R).2∧rndS p (prvG p g rk N R).1 k = []
 | 0,rk,N,R,o,hg=>by have:=o.few h;omega
 | g + 1,rk,N,R,o,hg=>by
  unfold prvG
  by_cases hq:rndS p N rk = []
  ·rw [if_pos hq];exact ⟨rk,o,hq⟩
  ·rw [if_neg hq]
   have hlen:0 < (rndS p N rk).length:=List.length_pos_iff.2 hq
   exact prvG_spec h g _ _ _ (o.round h hq) (by rw [List.length_append];omega)
theorem prvS_spec (h:p.ok):∃ k,PrI p k (prvS p).1 (prvS p).2∧rndS p (prvS p).1 k = []:=prvG_spec h _ _ _ _ (PrI.start h) (by have:=h.wf.st0;omega)
theorem srtR_mem {n:Int} {r:Rm}:r ∈ srtR n R ↔ r ∈ R∧0 ≤ r.s∧r.s < n:=by
 unfold srtR
 rw [List.mem_flatMap]
 constructor
 ·rintro ⟨s,hs,hr⟩
  rw [List.mem_filter,decide_eq_true_eq] at hr
  exact ⟨hr.1,by rw [hr.2];exact rngI_mem.1 hs⟩
 ·rintro ⟨h1,h2⟩
  exact ⟨r.s,rngI_mem.2 h2,List.mem_filter.2 ⟨h1,by simp⟩⟩
theorem uni_filter (h:R.Pairwise fun x y=>x.s ≠ y.s) (s:Int):IncR (R.filter fun r=>decide (r.s = s)):=by
 have h1:=h.filter fun r=>decide (r.s = s)
 refine h1.imp_of_mem fun {a b} ha hb hab=>?_
 rw [List.mem_filter,decide_eq_true_eq] at ha hb
 exact absurd (ha.2.trans hb.2.symm) hab
theorem srtR_inc {n:Int} (h:R.Pairwise fun x y=>x.s ≠ y.s):IncR (srtR n R):=by
 unfold srtR IncR
 rw [List.pairwise_flatMap]
 refine ⟨fun s _=>uni_filter h s,(rng_inc _).imp fun {a b} hab x hx y hy=>?_⟩
 rw [List.mem_filter,decide_eq_true_eq] at hx hy
 rw [hx.2,hy.2]
 exact hab
theorem srtR_eq {l:List Rm} (h:R.Pairwise fun x y=>x.s ≠ y.s) (hr:∀ r ∈ R,0 ≤ r.s∧r.s < p.a.st) (hl:IncR l) (hm:∀ r,r ∈ l ↔ r ∈ R):l = srtR p.a.st R :=
 incR_ext hl (srtR_inc h) fun r=>by rw [hm r,srtR_mem];exact ⟨fun k=>⟨k,hr r k⟩,fun k=>k.1⟩
end
end Go.Proofs.Ytdnmpndnpfklcaa
/- Plain: what Verify says, and the greatest set (chapter 28). -/
namespace Go.Proofs.Ytdnmpndnpfklcaa
open Go
def rmErrG (n:Int):Option Int → List Rm → Int
 | _,[]=>0
 | q,r :: l=>if r.s < 0 ∨ n ≤ r.s then 2 else if q.any (fun v=>decide (r.s ≤ v)) = true then 5 else if r.r ≠ 1∧r.r ≠ 2∧r.r ≠ 3 then 11 else rmErrG n (some r.s) l
def rmErr (n:Int) (l:List Rm):Int:=rmErrG n none l
theorem rmErrG_ok {n:Int}:∀ {l:List Rm} {q:Option Int},rmErrG n q l = 0 → (∀ v,q = some v → ∀ r ∈ l,v < r.s)∧IncR l∧∀ r ∈ l,(0 ≤ r.s∧r.s < n)∧(r.r = 1 ∨ r.r = 2 ∨ r.r = 3)
 | [],_,_=>⟨fun _ _ r hr=>(by cases hr),List.Pairwise.nil,fun r hr=>(by cases hr)⟩
 | r :: l,q,h=>by
  unfold rmErrG at h
  split at h
  ·omega
  rename_i h1
  split at h
  ·omega
  rename_i h2
  split at h
  ·omega
  rename_i h3
  obtain ⟨a,b,c⟩:=rmErrG_ok h
  have a:=a r.s rfl
  refine ⟨fun v hv t ht=>?_,List.pairwise_cons.2 ⟨a,b⟩,fun t ht=>?_⟩
  ·rw [hv] at h2
   simp only [Option.any_some,decide_eq_true_eq] at h2
   rcases List.mem_cons.1 ht with rfl | ht
   ·omega
   ·have:=a t ht;omega
  ·rcases List.mem_cons.1 ht with rfl | ht
   ·exact ⟨by omega,by omega⟩
   ·exact c t ht
theorem rmErr_ok {n:Int} {l:List Rm} (h:rmErr n l = 0):IncR l∧∀ r ∈ l,(0 ≤ r.s∧r.s < n)∧(r.r = 1 ∨ r.r = 2 ∨ r.r = 3):=(rmErrG_ok h).2
theorem rmErrG_of {n:Int}:∀ {l:List Rm} {q:Option Int},(∀ v,q = some v → ∀ r ∈ l,v < r.s) → IncR l → (∀ r ∈ l,(0 ≤ r.s∧r.s < n)∧(r.r = 1 ∨ r.r = 2 ∨ r.r = 3)) → rmErrG n q l = 0
 | [],_,_,_,_=>rfl
 | r :: l,q,h1,h2,h3=>by
  rw [IncR,List.pairwise_cons] at h2
  have h:=h3 r List.mem_cons_self
  unfold rmErrG
  rw [if_neg (by omega),if_neg,if_neg (by omega)]
  ·exact rmErrG_of (fun v hv t ht=>by injection hv with hv;rw [← hv];exact h2.1 t ht) h2.2 fun t ht=>h3 t (List.mem_cons_of_mem _ ht)
  ·cases q with
   | none=>simp
   | some v =>
    have:=h1 v rfl r List.mem_cons_self
    simp only [Option.any_some,decide_eq_true_eq]
    omega
theorem setErrG_fit {n:Int}:∀ {l:List Int} {q:Option Int},(∀ v,q = some v → ∀ x ∈ l,v < x) → Inc l → (∀ x ∈ l,0 ≤ x∧x < n) → setErrG n q l = 0
 | [],_,_,_,_=>by unfold setErrG;rfl
 | x :: l,q,h1,h2,h3=>by
  rw [Inc,List.pairwise_cons] at h2
  have h:=h3 x List.mem_cons_self
  have ih:=setErrG_fit (n:=n) (l:=l) (q:=some x) (fun v hv t ht=>by injection hv with hv;rw [← hv];exact h2.1 t ht) h2.2 fun t ht=>h3 t (List.mem_cons_of_mem _ ht)
  cases q with
  | none =>
   have e:=setErrG_first (l:=x :: l) (k:=0) (n:=n) (x:=x) rfl (by omega)
   rw [List.drop_zero] at e
   rw [e]
   exact ih
  | some v =>
   have e:=setErrG_next (l:=x :: l) (k:=0) (n:=n) (x:=x) (q:=v) rfl (by omega) (by have:=h1 v rfl x List.mem_cons_self;omega)
   rw [List.drop_zero] at e
   rw [e]
   exact ih
theorem setErr_fit {n:Int} {l:List Int} (h1:Inc l) (h2:∀ x ∈ l,0 ≤ x∧x < n):setErr l n = 0:=setErrG_fit (fun v hv=>by cases hv) h1 h2
def frmE (n:Int) (c:Ce):Int:=if setErr c.kp n ≠ 0 then setErr c.kp n else if c.ds.length ≠ c.kp.length then 4 else rmErr n c.rm
structure FOk (n:Int) (c:Ce):Prop where
 kinc:Inc c.kp
 krng:∀ s ∈ c.kp,0 ≤ s∧s < n
 dlen:c.ds.length = c.kp.length
 rinc:IncR c.rm
 rrng:∀ r ∈ c.rm,0 ≤ r.s∧r.s < n
 rknd:∀ r ∈ c.rm,r.r = 1 ∨ r.r = 2 ∨ r.r = 3
theorem frmE_ok {n:Int} {c:Ce} (h:frmE n c = 0):FOk n c:=by
 unfold frmE at h
 split at h
 ·rename_i h1;exact absurd h h1
 rename_i h1
 split at h
 ·omega
 rename_i h2
 have a:=setErr_inc (Classical.byContradiction h1)
 have b:=rmErr_ok h
 exact ⟨a.1,a.2,by omega,b.1,fun r hr=>(b.2 r hr).1,fun r hr=>(b.2 r hr).2⟩
theorem FOk.err {n:Int} {c:Ce} (h:FOk n c):frmE n c = 0:=by
 unfold frmE
 rw [if_neg (by rw [setErr_fit h.kinc h.krng];simp),if_neg (by have:=h.dlen;omega)]
 exact rmErrG_of (fun v hv=>by cases hv) h.rinc fun r hr=>⟨h.rrng r hr,h.rknd r hr⟩
structure KOk (p:Mx) (c:Ce) (s d:Int):Prop where
 fo:s ∉ p.f
 un:∀ x ∈ p.a.ed,x.f = s → hasB p.u x.e = true → x.t ∈ c.kp
 pos:0 ≤ d
 zero:d = 0 → s ∈ p.a.ma
 down:d ≠ 0 → ∃ x ∈ p.a.ed,x.f = s∧∃ (j:Nat) (e:Int),c.kp[j]? = some x.t∧c.ds[j]? = some e∧e < d
structure ROk (p:Mx) (c:Ce) (r:Rm):Prop where
 rk:1 ≤ r.k∧r.k ≤ 4097
 fo:r.r = 1 → r.e = -1∧r.s ∈ p.f
 un:r.r = 2 → ∃ x ∈ p.a.ed,x.f = r.s∧x.e = r.e∧hasB p.u x.e = true∧∃ y ∈ c.rm,y.s = x.t∧y.k < r.k
 bl:r.r = 3 → r.e = -1∧r.s ∉ p.a.ma∧∀ x ∈ p.a.ed,x.f = r.s → ∃ y ∈ c.rm,y.s = x.t∧(y.k < r.k ∨ (y.k = r.k∧y.r = 3))
structure VOk (p:Mx) (c:Ce):Prop where
 part:∀ s,0 ≤ s → s < p.a.st → (s ∈ c.kp ↔ ¬ ∃ r ∈ c.rm,r.s = s)
 kpt:∀ (i:Nat) (s d:Int),c.kp[i]? = some s → c.ds[i]? = some d → KOk p c s d
 rmv:∀ r ∈ c.rm,ROk p c r
def VerIs (p:Mx) (c:Ce) (v:Int):Prop:=(frmE p.a.st c ≠ 0∧v = frmE p.a.st c) ∨ (frmE p.a.st c = 0∧((VOk p c∧v = 0) ∨ (¬ VOk p c∧v = 24)))
theorem VerIs.unique {p:Mx} {c:Ce} {v u:Int} (h:VerIs p c v) (k:VerIs p c u):v = u:=by
 rcases h with ⟨h1,h2⟩ | ⟨h1,h2⟩ <;> rcases k with ⟨k1,k2⟩ | ⟨k1,k2⟩
 ·rw [h2,k2]
 ·exact absurd k1 h1
 ·exact absurd h1 k1
 ·rcases h2 with ⟨h2,h3⟩ | ⟨h2,h3⟩ <;> rcases k2 with ⟨k2,k3⟩ | ⟨k2,k3⟩
  ·rw [h3,k3]
  ·exact absurd h2 k2
  ·exact absurd k2 h2
  ·rw [h3,k3]
theorem VerIs.of {p:Mx} {c:Ce} (h:FOk p.a.st c) (k:VOk p c):VerIs p c 0:=.inr ⟨h.err,.inl ⟨k,rfl⟩⟩
section
variable {p:Mx} {c:Ce}
theorem prvC_ok (h:p.ok):FOk p.a.st (prvC p)∧VOk p (prvC p):=by
 obtain ⟨k,o,hq⟩:=prvS_spec h
 have hbl:blL p (prvS p).1 k = []∧ldL p (prvS p).1 k = []:=by
  unfold rndS at hq
  split at hq
  ·rename_i h1;exact ⟨hq,h1⟩
  ·rename_i h1;exact absurd hq h1
 have ekp:(prvC p).kp = onF (prvS p).1:=by unfold prvC;rfl
 have eds:(prvC p).ds = (onF (prvS p).1).map (dstF p.a (prvS p).1):=by unfold prvC;rfl
 have hkm:∀ s,s ∈ (prvC p).kp ↔ (0 ≤ s∧s < p.a.st)∧fl (prvS p).1 s = true:=fun s=>by
  show s ∈ onF _ ↔ _
  rw [onF_mem,o.len]
 have hrm:∀ r,r ∈ (prvC p).rm ↔ r ∈ (prvS p).2:=fun r=>by
  show r ∈ srtR _ _ ↔ _
  rw [srtR_mem]
  exact ⟨fun h=>h.1,fun h=>⟨h,o.rng r h⟩⟩
 have hfl:∀ s,0 ≤ s → s < p.a.st → fl (prvS p).1 s = true → 0 ≤ dstF p.a (prvS p).1 s:=fun s h0 h1 hs=>by
  apply Classical.byContradiction
  intro hn
  have:(⟨s,k,3,-1⟩:Rm) ∈ blL p (prvS p).1 k:=blL_mem.2 ⟨⟨⟨h0,by rw [o.len];exact h1⟩,hs⟩,rfl,rfl,rfl,by show dstF _ _ s < 0;omega⟩
  rw [hbl.1] at this
  cases this
 have hds:∀ (i:Nat) (s d:Int),(prvC p).kp[i]? = some s → (prvC p).ds[i]? = some d → d = dstF p.a (prvS p).1 s:=fun i s d h1 h2=>by
  rw [ekp] at h1
  rw [eds] at h2
  rw [List.getElem?_map,h1] at h2
  injection h2 with h2
  exact h2.symm
 refine ⟨⟨onF_inc _,fun s hs=>((hkm s).1 hs).1,by rw [eds,ekp,List.length_map],srtR_inc o.uni,fun r hr=>o.rng r ((hrm r).1 hr),fun r hr=>o.knd r ((hrm r).1 hr)⟩,⟨fun s h0 h1=>?_,fun i s d h1 h2=>?_,fun r hr=>?_⟩⟩
 ·rw [hkm s]
  constructor
  ·rintro ⟨_,hs⟩ ⟨r,hr,e⟩
   rw [(o.out s h0 h1).2 ⟨r,(hrm r).1 hr,e⟩] at hs
   cases hs
  ·intro hno
   refine ⟨⟨h0,h1⟩,?_⟩
   cases hs:fl (prvS p).1 s with
   | true=>rfl
   | false =>
    obtain ⟨r,hr,e⟩:=(o.out s h0 h1).1 hs
    exact absurd ⟨r,(hrm r).2 hr,e⟩ hno
 ·have hm:=(hkm s).1 (List.mem_of_getElem? h1)
  have hd:=hds i s d h1 h2
  have hok:=dstF_ok h.wf hm.1.1 hm.1.2 hm.2
  rw [← hd] at hok
  have hpos:=hfl s hm.1.1 hm.1.2 hm.2
  rw [← hd] at hpos
  refine ⟨fun hf=>?_,fun x hx hxf hu=>?_,hpos,fun hz=>?_,fun hz=>?_⟩
  ·rw [o.frb s hf] at hm
   exact absurd hm.2 (by simp)
  ·have hg:=h.wf.ev_rng hx
   refine (hkm _).2 ⟨⟨hg.2.2.1,hg.2.2.2.1⟩,?_⟩
   cases hs:fl (prvS p).1 x.t with
   | true=>rfl
   | false =>
    have hl:ldP p (prvS p).1 s x = true:=by unfold ldP;rw [hu,hs,decide_eq_true hxf];rfl
    cases hq:p.a.ed.find? (ldP p (prvS p).1 s) with
    | none=>exact absurd hl (by simpa using List.find?_eq_none.1 hq x hx)
    | some y =>
     have:(⟨s,k,2,y.e⟩:Rm) ∈ ldL p (prvS p).1 k:=ldL_mem.2 ⟨⟨⟨hm.1.1,by rw [o.len];exact hm.1.2⟩,hm.2⟩,rfl,rfl,y,hq,rfl⟩
     rw [hbl.2] at this
     cases this
  ·rcases hok with ⟨hv,_⟩ | ⟨e,hv,hdp,_⟩
   ·omega
   ·obtain rfl:e = 0:=by omega
    cases hdp with
    | mk _ hma=>exact hma
  ·rcases hok with ⟨hv,_⟩ | ⟨e,hv,hdp,hle⟩
   ·omega
   ·cases hdp with
    | mk _ hma=>exact absurd hv (by omega)
    | st hx hf hdp =>
     rename_i x e
     have hg:=h.wf.ev_rng hx
     have hxk:=(hkm x.t).2 ⟨⟨hg.2.2.1,hg.2.2.2.1⟩,hdp.in_⟩
     obtain ⟨j,hj⟩:=List.getElem?_of_mem hxk
     refine ⟨x,hx,rfl,j,dstF p.a (prvS p).1 x.t,hj,?_,?_⟩
     ·rw [ekp] at hj
      rw [eds,List.getElem?_map,hj]
      rfl
     ·rcases dstF_ok h.wf hg.2.2.1 hg.2.2.2.1 hdp.in_ with ⟨hv2,_⟩ | ⟨m,hv2,_,hm2⟩
      ·omega
      ·have:=hm2 e hdp
       omega
 ·have hr:=(hrm r).1 hr
  have hk:=o.rks r hr
  have hlen:=o.few h
  have hst:=h.wf.st1
  refine ⟨⟨hk.1,by have:=o.num;omega⟩,o.fo r hr,fun h2=>?_,fun h3=>?_⟩
  ·obtain ⟨x,hx,a,b,c,y,hy,d⟩:=o.un r hr h2
   exact ⟨x,hx,a,b,c,y,(hrm y).2 hy,d⟩
  ·obtain ⟨a,b,c⟩:=o.bl r hr h3
   refine ⟨a,b,fun x hx hxf=>?_⟩
   obtain ⟨y,hy,d⟩:=c x hx hxf
   exact ⟨y,(hrm y).2 hy,d⟩
end
end Go.Proofs.Ytdnmpndnpfklcaa
