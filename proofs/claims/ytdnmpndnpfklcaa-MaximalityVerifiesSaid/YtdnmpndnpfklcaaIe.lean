/- Plain: problems, certificates and the rounds that prove the greatest set (chapter 28). -/
import Derived.Test.YtdnmpndnpfklcaaIc

namespace Go.Proofs.Ytdnmpndnpfklcaa
open Go
structure Mx where
 a:Aut
 u:List Int
 f:List Int
structure Mx.ok (p:Mx):Prop where
 wf:WF p.a
 uinc:Inc p.u
 urng:∀ x ∈ p.u,0 ≤ x∧x < 32
 finc:Inc p.f
 frng:∀ x ∈ p.f,0 ≤ x∧x < p.a.st
structure Rm where
 s:Int
 k:Int
 r:Int
 e:Int
theorem Rm.eq_iff {x y:Rm}:x = y ↔ x.s = y.s∧x.k = y.k∧x.r = y.r∧x.e = y.e:=by
 cases x;cases y;simp
instance:DecidableEq Rm:=fun _ _=>decidable_of_iff _ Rm.eq_iff.symm
structure Ce where
 kp:List Int
 ds:List Int
 rm:List Rm
theorem Ce.eq_iff {x y:Ce}:x = y ↔ x.kp = y.kp∧x.ds = y.ds∧x.rm = y.rm:=by
 cases x;cases y;simp
theorem srt_ext {α:Type} {lt:α → α → Prop} (irr:∀ x,¬ lt x x) (asy:∀ x y,lt x y → ¬ lt y x):∀ {l m:List α},l.Pairwise lt → m.Pairwise lt → (∀ x,x ∈ l ↔ x ∈ m) → l = m
 | [],[],_,_,_=>rfl
 | [],y :: m,_,_,h=>by have:=(h y).2 List.mem_cons_self;cases this
 | x :: l,[],_,_,h=>by have:=(h x).1 List.mem_cons_self;cases this
 | x :: l,y :: m,hl,hm,h=>by
  rw [List.pairwise_cons] at hl hm
  have hxy:x = y:=by
   rcases List.mem_cons.1 ((h x).1 List.mem_cons_self) with h1 | h1
   ·exact h1
   ·rcases List.mem_cons.1 ((h y).2 List.mem_cons_self) with h2 | h2
    ·exact h2.symm
    ·exact absurd (hl.1 y h2) (asy y x (hm.1 x h1))
  subst hxy
  congr 1
  refine srt_ext irr asy hl.2 hm.2 fun z=>⟨fun hz=>?_,fun hz=>?_⟩
  ·rcases List.mem_cons.1 ((h z).1 (List.mem_cons_of_mem _ hz)) with h1 | h1
   ·exact absurd (h1 ▸ hl.1 z hz) (irr _)
   ·exact h1
  ·rcases List.mem_cons.1 ((h z).2 (List.mem_cons_of_mem _ hz)) with h1 | h1
   ·exact absurd (h1 ▸ hm.1 z hz) (irr _)
   ·exact h1
abbrev IncR (l:List Rm):Prop:=l.Pairwise fun x y=>x.s < y.s
theorem incR_ext {l m:List Rm} (hl:IncR l) (hm:IncR m) (h:∀ x,x ∈ l ↔ x ∈ m):l = m:=srt_ext (fun x=>by omega) (fun x y=>by omega) hl hm h
theorem incR_fm {g:Int → Option Rm} (hg:∀ s r,g s = some r → r.s = s) {l:List Int} (h:Inc l):IncR (l.filterMap g):=by
 unfold IncR
 rw [List.pairwise_filterMap]
 exact h.imp fun {a b} hab r hr t ht=>by rw [hg a r hr,hg b t ht];exact hab
theorem fm_filter {α β:Type} (q:α → Bool) (g:α → Option β):∀ l:List α,(l.filter q).filterMap g = l.filterMap fun s=>if q s = true then g s else none
 | []=>rfl
 | x :: l=>by
  by_cases h:q x = true
  ·rw [List.filter_cons_of_pos h,List.filterMap_cons,List.filterMap_cons,fm_filter q g l,if_pos h]
  ·rw [List.filter_cons_of_neg h,List.filterMap_cons,fm_filter q g l,if_neg h]
section
variable {p:Mx} {N:List Bool} {rk:Int}
def ldP (p:Mx) (N:List Bool) (s:Int) (y:Ed):Bool:=decide (y.f = s) && hasB p.u y.e && !fl N y.t
def ldE (p:Mx) (N:List Bool) (s:Int):Option Int:=(p.a.ed.find? (ldP p N s)).map (·.e)
def ldR (p:Mx) (N:List Bool) (rk s:Int):Option Rm:=(ldE p N s).map fun e=>⟨s,rk,2,e⟩
def ldL (p:Mx) (N:List Bool) (rk:Int):List Rm:=(onF N).filterMap (ldR p N rk)
def blR (p:Mx) (N:List Bool) (rk s:Int):Option Rm:=if dstF p.a N s < 0 then some ⟨s,rk,3,-1⟩ else none
def blL (p:Mx) (N:List Bool) (rk:Int):List Rm:=(onF N).filterMap (blR p N rk)
def foR (p:Mx) (s:Int):Option Rm:=if hasB p.f s = true then some ⟨s,1,1,-1⟩ else none
def foL (p:Mx):List Rm:=(rngI p.a.st).filterMap (foR p)
theorem ldR_s {s:Int} {r:Rm} (h:ldR p N rk s = some r):r.s = s:=by
 unfold ldR at h
 cases hq:ldE p N s with
 | none=>rw [hq] at h;cases h
 | some e=>rw [hq] at h;injection h with h;rw [← h]
theorem blR_s {s:Int} {r:Rm} (h:blR p N rk s = some r):r.s = s:=by
 unfold blR at h
 split at h
 ·injection h with h;rw [← h]
 ·cases h
theorem foR_s {s:Int} {r:Rm} (h:foR p s = some r):r.s = s:=by
 unfold foR at h
 split at h
 ·injection h with h;rw [← h]
 ·cases h
theorem ldL_inc:IncR (ldL p N rk):=incR_fm (fun _ _ h=>ldR_s h) (onF_inc N)
theorem blL_inc:IncR (blL p N rk):=incR_fm (fun _ _ h=>blR_s h) (onF_inc N)
theorem foL_inc:IncR (foL p):=incR_fm (fun _ _ h=>foR_s h) (rng_inc _)
theorem foL_eq (h:p.ok):foL p = p.f.map fun s=>⟨s,1,1,-1⟩:=by
 refine incR_ext foL_inc ?_ fun r=>?_
 ·unfold IncR
  rw [List.pairwise_map]
  exact h.finc.imp fun {a b} hab=>hab
 ·unfold foL foR
  rw [List.mem_filterMap,List.mem_map]
  constructor
  ·rintro ⟨s,_,hs⟩
   split at hs
   ·rename_i hf
    injection hs with hs
    exact ⟨s,hasB_mem.1 hf,hs⟩
   ·cases hs
  ·rintro ⟨s,hs,rfl⟩
   exact ⟨s,rngI_mem.2 (h.frng s hs),by rw [if_pos (hasB_mem.2 hs)]⟩
def uncX (p:Mx) (N:List Bool) (rk:Int) (l:List Rm) (x:Ed):List Rm :=
 if fl N x.f = false ∨ fl N x.t = true ∨ hasB p.u x.e = false then l else if l.getLast?.map (·.s) = some x.f then l else l ++ [⟨x.f,rk,2,x.e⟩]
def uncL (p:Mx) (N:List Bool) (rk:Int):List Rm:=p.a.ed.foldl (uncX p N rk) []
structure UncI (p:Mx) (N:List Bool) (rk:Int) (pre:List Ed) (l:List Rm):Prop where
 inc:IncR l
 mem:∀ r,r ∈ l ↔ fl N r.s = true∧r.k = rk∧r.r = 2∧∃ x,pre.find? (ldP p N r.s) = some x∧x.e = r.e
theorem inc_last {l:List Rm} (h:IncR l) {y:Rm} (hy:l.getLast? = some y):∀ r ∈ l,r = y ∨ r.s < y.s:=by
 obtain ⟨m,rfl⟩:=List.getLast?_eq_some_iff.1 hy
 intro r hr
 rcases List.mem_append.1 hr with h1 | h1
 ·rw [IncR,List.pairwise_append] at h
  exact .inr (h.2.2 r h1 y (List.mem_singleton.2 rfl))
 ·exact .inl (List.mem_singleton.1 h1)
theorem UncI.step {pre:List Ed} {l:List Rm} (h:UncI p N rk pre l) {x:Ed} (hp:∀ y ∈ pre,y.f ≤ x.f):UncI p N rk (pre ++ [x]) (uncX p N rk l x):=by
 have hfa:∀ s,(pre ++ [x]).find? (ldP p N s) = (pre.find? (ldP p N s)).or (if ldP p N s x = true then some x else none):=fun s=>by
  rw [List.find?_append]
  congr 1
  rw [List.find?_cons]
  by_cases hq:ldP p N s x = true
  ·rw [hq];rfl
  ·rw [if_neg hq]
   cases hq2:ldP p N s x with
   | true=>exact absurd hq2 hq
   | false=>rfl
 have hle:∀ r ∈ l,r.s ≤ x.f:=fun r hr=>by
  obtain ⟨_,_,_,y,hy,_⟩:=(h.mem r).1 hr
  have h1:=List.find?_some hy
  unfold ldP at h1
  simp only [Bool.and_eq_true,decide_eq_true_eq] at h1
  have:=hp y (List.mem_of_find?_eq_some hy)
  omega
 unfold uncX
 by_cases hc:fl N x.f = false ∨ fl N x.t = true ∨ hasB p.u x.e = false
 ·rw [if_pos hc]
  refine ⟨h.inc,fun r=>?_⟩
  rw [h.mem r,hfa]
  by_cases hq:ldP p N r.s x = true
  ·unfold ldP at hq
   simp only [Bool.and_eq_true,decide_eq_true_eq,Bool.not_eq_true'] at hq
   rcases hc with hc | hc | hc
   ·rw [hq.1.1] at hc
    simp [hc]
   ·rw [hc] at hq;exact absurd hq.2 (by simp)
   ·rw [hc] at hq;exact absurd hq.1.2 (by simp)
  ·rw [if_neg hq,Option.or_none]
 ·rw [if_neg hc]
  have hN:fl N x.f = true:=by
   cases hq:fl N x.f with
   | true=>rfl
   | false=>exact absurd (.inl hq) hc
  have hl:ldP p N x.f x = true:=by
   unfold ldP
   cases hq:fl N x.t with
   | true=>exact absurd (.inr (.inl hq)) hc
   | false =>
    cases hq2:hasB p.u x.e with
    | false=>exact absurd (.inr (.inr hq2)) hc
    | true=>simp
  have hne:∀ s,s ≠ x.f → ldP p N s x = false:=fun s hs=>by
   unfold ldP
   rw [decide_eq_false (fun e=>hs e.symm)]
   rfl
  by_cases hlast:l.getLast?.map (·.s) = some x.f
  ·rw [if_pos hlast]
   refine ⟨h.inc,fun r=>?_⟩
   rw [h.mem r,hfa]
   by_cases hs:r.s = x.f
   ·obtain ⟨y,hy,hys⟩:=Option.map_eq_some_iff.1 hlast
    obtain ⟨_,_,_,z,hz,_⟩:=(h.mem y).1 (List.mem_of_getLast? hy)
    rw [hys,← hs] at hz
    rw [hz]
    rfl
   ·rw [hne _ hs]
    simp
  ·rw [if_neg hlast]
   have hlt:∀ r ∈ l,r.s < x.f:=fun r hr=>by
    have h1:=hle r hr
    rcases Int.lt_or_eq_of_le h1 with h1 | h1
    ·exact h1
    ·cases hg:l.getLast? with
     | none=>rw [List.getLast?_eq_none_iff] at hg;rw [hg] at hr;cases hr
     | some y =>
      rw [hg] at hlast
      rcases inc_last h.inc hg r hr with h2 | h2
      ·exact absurd (by rw [← h2,← h1];rfl) hlast
      ·have:=hle y (List.mem_of_getLast? hg)
       omega
   refine ⟨?_,fun r=>?_⟩
   ·rw [IncR,List.pairwise_append]
    exact ⟨h.inc,by simp,fun r hr t ht=>by rw [List.mem_singleton.1 ht];exact hlt r hr⟩
   ·rw [List.mem_append,h.mem r,hfa,List.mem_singleton]
    by_cases hs:r.s = x.f
    ·have hno:pre.find? (ldP p N r.s) = none:=by
      cases hq:pre.find? (ldP p N r.s) with
      | none=>rfl
      | some y =>
       have:=hlt ⟨r.s,rk,2,y.e⟩ ((h.mem _).2 ⟨by rw [← hs] at hN;exact hN,rfl,rfl,y,hq,rfl⟩)
       exact absurd this (by rw [← hs];exact Int.lt_irrefl _)
     rw [hno,hs,hl,if_pos rfl,Rm.eq_iff]
     simp [hN,hs,eq_comm]
    ·rw [hne _ hs,Rm.eq_iff]
     simp [hs]
theorem uncF_spec (hs:∀ (i j:Nat) (x y:Ed),i ≤ j → p.a.ed[i]? = some x → p.a.ed[j]? = some y → x.f ≤ y.f):∀ (r pre:List Ed) (l:List Rm),pre ++ r = p.a.ed → UncI p N rk pre l → UncI p N rk p.a.ed (r.foldl (uncX p N rk) l)
 | [],pre,l,e,h=>by rw [List.append_nil] at e;rw [← e];exact h
 | x :: r,pre,l,e,h=>by
  refine uncF_spec hs r (pre ++ [x]) _ (by rw [← e];simp) (h.step fun y hy=>?_)
  obtain ⟨i,hi⟩:=List.getElem?_of_mem hy
  have hil:=(List.getElem?_eq_some_iff.1 hi).1
  refine hs i pre.length y x (by omega) ?_ ?_
  ·rw [← e,List.getElem?_append_left hil];exact hi
  ·rw [← e,List.getElem?_append_right (Nat.le_refl _),Nat.sub_self];rfl
theorem ed_le (hw:WF p.a) (i j:Nat) (x y:Ed) (hij:i ≤ j) (hx:p.a.ed[i]? = some x) (hy:p.a.ed[j]? = some y):x.f ≤ y.f:=by
 rcases Nat.lt_or_ge i j with h | h
 ·have:=(List.pairwise_iff_getElem.1 hw.einc) i j (List.getElem?_eq_some_iff.1 hx).1 (List.getElem?_eq_some_iff.1 hy).1 h
  rw [(List.getElem?_eq_some_iff.1 hx).2,(List.getElem?_eq_some_iff.1 hy).2] at this
  unfold edLt at this
  omega
 ·obtain rfl:i = j:=by omega
  rw [hx] at hy
  injection hy with hy
  rw [hy]
  exact Int.le_refl _
theorem ldL_mem {r:Rm}:r ∈ ldL p N rk ↔ ((0 ≤ r.s∧r.s < (N.length:Int))∧fl N r.s = true)∧r.k = rk∧r.r = 2∧∃ x,p.a.ed.find? (ldP p N r.s) = some x∧x.e = r.e:=by
 unfold ldL ldR ldE
 rw [List.mem_filterMap]
 constructor
 ·rintro ⟨s,hs,hr⟩
  rw [Option.map_map,Option.map_eq_some_iff] at hr
  obtain ⟨x,hx,rfl⟩:=hr
  exact ⟨onF_mem.1 hs,rfl,rfl,x,hx,rfl⟩
 ·rintro ⟨h1,h2,h3,x,hx,h4⟩
  refine ⟨r.s,onF_mem.2 h1,?_⟩
  rw [hx]
  simp [Rm.eq_iff,h3,h2,h4]
theorem uncL_eq (hw:WF p.a) (hn:(N.length:Int) = p.a.st):uncL p N rk = ldL p N rk:=by
 have h:=uncF_spec (N:=N) (rk:=rk) (ed_le hw) p.a.ed [] [] rfl ⟨List.Pairwise.nil,fun r=>by simp⟩
 refine incR_ext h.inc ldL_inc fun r=>?_
 have h1:=h.mem r
 unfold uncL
 rw [h1,ldL_mem]
 constructor
 ·rintro ⟨a,b,c,x,hx,hxe⟩
  refine ⟨⟨?_,a⟩,b,c,x,hx,hxe⟩
  have h2:=List.find?_some hx
  unfold ldP at h2
  simp only [Bool.and_eq_true,decide_eq_true_eq] at h2
  have h3:=hw.ev_rng (List.mem_of_find?_eq_some hx)
  omega
 ·rintro ⟨⟨_,a⟩,b⟩
  exact ⟨a,b⟩
theorem fm_congr {α β:Type} {f g:α → Option β}:∀ {l:List α},(∀ x ∈ l,f x = g x) → l.filterMap f = l.filterMap g
 | [],_=>rfl
 | x :: l,h=>by rw [List.filterMap_cons,List.filterMap_cons,h x List.mem_cons_self,fm_congr fun y hy=>h y (List.mem_cons_of_mem _ hy)]
def blkR (D:List Int) (N:List Bool) (rk s:Int):Option Rm:=if fl N s = true∧gI D s < 0 then some ⟨s,rk,3,-1⟩ else none
def blkL (p:Mx) (N:List Bool) (rk:Int):List Rm:=(rngI N.length).filterMap (blkR (dsS p.a.ed N p.a.ma).1 N rk)
theorem blkL_eq (hw:WF p.a) (hn:(N.length:Int) = p.a.st):blkL p N rk = blL p N rk:=by
 unfold blkL blL onF
 rw [fm_filter]
 refine fm_congr fun s hs=>?_
 have hg:=rngI_mem.1 hs
 unfold blkR blR
 by_cases hf:fl N s = true
 ·rw [if_pos hf,dsS_dst hw hn hg.1 (by omega) hf]
  simp [hf]
 ·rw [if_neg hf,if_neg (fun h=>hf h.1)]
end
end Go.Proofs.Ytdnmpndnpfklcaa
/- Plain: the rounds, their certificate and what holds for it (chapter 28). -/
namespace Go.Proofs.Ytdnmpndnpfklcaa
open Go
section
variable {p:Mx} {N:List Bool} {rk:Int} {R:List Rm}
def rmv (N:List Bool) (l:List Rm):List Bool:=l.foldl (fun N r=>N.set r.s.toNat false) N
theorem rmv_len:∀ (l:List Rm) (N:List Bool),(rmv N l).length = N.length
 | [],_=>rfl
 | r :: l,N=>by
  show (rmv (N.set r.s.toNat false) l).length = _
  rw [rmv_len l,List.length_set]
theorem fl_clr {s t:Int} (hs:0 ≤ s∧s < (N.length:Int)) (ht:0 ≤ t):fl (N.set s.toNat false) t = (!decide (t = s) && fl N t):=by
 unfold fl
 rw [List.getD_eq_getElem?_getD,List.getD_eq_getElem?_getD,List.getElem?_set]
 by_cases h:t = s
 ·subst h
  rw [if_pos rfl,if_pos (by omega)]
  simp
 ·rw [if_neg (by omega),decide_eq_false h]
  rfl
theorem fl_rmv {t:Int} (ht:0 ≤ t):∀ (l:List Rm) (N:List Bool),(∀ r ∈ l,0 ≤ r.s∧r.s < (N.length:Int)) → (fl (rmv N l) t = true ↔ fl N t = true∧∀ r ∈ l,r.s ≠ t)
 | [],N,_=>by simp [rmv]
 | r :: l,N,h=>by
  show fl (rmv (N.set r.s.toNat false) l) t = true ↔ _
  rw [fl_rmv ht l _ (fun q hq=>by rw [List.length_set];exact h q (List.mem_cons_of_mem _ hq)),fl_clr (h r List.mem_cons_self) ht]
  simp only [Bool.and_eq_true,Bool.not_eq_true',decide_eq_false_iff_not,List.mem_cons,forall_eq_or_imp]
  constructor
  ·rintro ⟨⟨a,b⟩,c⟩;exact ⟨b,fun e=>a e.symm,c⟩
  ·rintro ⟨a,b,c⟩;exact ⟨⟨fun e=>b e.symm,a⟩,c⟩
def rndS (p:Mx) (N:List Bool) (rk:Int):List Rm:=if ldL p N rk = [] then blL p N rk else ldL p N rk
def prvG (p:Mx):Nat → Int → List Bool → List Rm → List Bool × List Rm
 | 0,_,N,R=>(N,R)
 | g + 1,rk,N,R=>if rndS p N rk = [] then (N,R) else prvG p g (rk + 1) (rmv N (rndS p N rk)) (R ++ rndS p N rk)
def prvS (p:Mx):List Bool × List Rm:=prvG p (p.a.st.toNat + 1) 2 (rmv (List.replicate p.a.st.toNat true) (foL p)) (foL p)
def srtR (n:Int) (R:List Rm):List Rm:=(rngI n).flatMap fun s=>R.filter fun r=>decide (r.s = s)
def prvC (p:Mx):Ce:=⟨onF (prvS p).1,(onF (prvS p).1).map (dstF p.a (prvS p).1),srtR p.a.st (prvS p).2⟩
theorem blL_mem {r:Rm}:r ∈ blL p N rk ↔ ((0 ≤ r.s∧r.s < (N.length:Int))∧fl N r.s = true)∧r.k = rk∧r.r = 3∧r.e = -1∧dstF p.a N r.s < 0:=by
 unfold blL blR
 rw [List.mem_filterMap]
 constructor
 ·rintro ⟨s,hs,hr⟩
  split at hr
  ·rename_i hd
   injection hr with hr
   subst hr
   exact ⟨onF_mem.1 hs,rfl,rfl,rfl,hd⟩
  ·cases hr
 ·rintro ⟨h1,h2,h3,h4,h5⟩
  exact ⟨r.s,onF_mem.2 h1,by rw [if_pos h5];simp [Rm.eq_iff,h2,h3,h4]⟩
theorem foL_mem {r:Rm}:r ∈ foL p ↔ (0 ≤ r.s∧r.s < p.a.st)∧r.k = 1∧r.r = 1∧r.e = -1∧r.s ∈ p.f:=by
 unfold foL foR
 rw [List.mem_filterMap]
 constructor
 ·rintro ⟨s,hs,hr⟩
  split at hr
  ·rename_i hd
   injection hr with hr
   subst hr
   exact ⟨rngI_mem.1 hs,rfl,rfl,rfl,hasB_mem.1 hd⟩
  ·cases hr
 ·rintro ⟨h1,h2,h3,h4,h5⟩
  exact ⟨r.s,rngI_mem.2 h1,by rw [if_pos (hasB_mem.2 h5)];simp [Rm.eq_iff,h2,h3,h4]⟩
theorem rndS_in {r:Rm} (h:r ∈ rndS p N rk):((0 ≤ r.s∧r.s < (N.length:Int))∧fl N r.s = true)∧r.k = rk∧(r.r = 2 ∨ r.r = 3):=by
 unfold rndS at h
 split at h
 ·have:=blL_mem.1 h;exact ⟨this.1,this.2.1,.inr this.2.2.1⟩
 ·have:=ldL_mem.1 h;exact ⟨this.1,this.2.1,.inl this.2.2.1⟩
theorem rndS_inc:IncR (rndS p N rk):=by
 unfold rndS
 split
 ·exact blL_inc
 ·exact ldL_inc
structure PrI (p:Mx) (rk:Int) (N:List Bool) (R:List Rm):Prop where
 len:(N.length:Int) = p.a.st
 out:∀ s,0 ≤ s → s < p.a.st → (fl N s = false ↔ ∃ r ∈ R,r.s = s)
 uni:R.Pairwise fun x y=>x.s ≠ y.s
 rng:∀ r ∈ R,0 ≤ r.s∧r.s < p.a.st
 rks:∀ r ∈ R,1 ≤ r.k∧r.k < rk
 knd:∀ r ∈ R,r.r = 1 ∨ r.r = 2 ∨ r.r = 3
 fo:∀ r ∈ R,r.r = 1 → r.e = -1∧r.s ∈ p.f
 un:∀ r ∈ R,r.r = 2 → ∃ x ∈ p.a.ed,x.f = r.s∧x.e = r.e∧hasB p.u x.e = true∧∃ y ∈ R,y.s = x.t∧y.k < r.k
 bl:∀ r ∈ R,r.r = 3 → r.e = -1∧r.s ∉ p.a.ma∧∀ x ∈ p.a.ed,x.f = r.s → ∃ y ∈ R,y.s = x.t∧(y.k < r.k ∨ (y.k = r.k∧y.r = 3))
 frb:∀ s ∈ p.f,fl N s = false
 num:rk ≤ (R.length:Int) + 2∧2 ≤ rk
theorem PrI.start (h:p.ok):PrI p 2 (rmv (List.replicate p.a.st.toNat true) (foL p)) (foL p):=by
 have h0:=h.wf.st0
 have hrep:∀ s:Int,0 ≤ s → s < p.a.st → fl (List.replicate p.a.st.toNat true) s = true:=fun s h1 h2=>by
  unfold fl
  rw [List.getD_eq_getElem?_getD,List.getElem?_replicate,if_pos (by omega)]
  rfl
 have hr:∀ r ∈ foL p,0 ≤ r.s∧r.s < ((List.replicate p.a.st.toNat true).length:Int):=fun r hr=>by
  have:=(foL_mem.1 hr).1
  rw [List.length_replicate]
  omega
 have hout:∀ s,0 ≤ s → s < p.a.st → (fl (rmv (List.replicate p.a.st.toNat true) (foL p)) s = false ↔ ∃ r ∈ foL p,r.s = s):=fun s h1 h2=>by
  have:=fl_rmv h1 (foL p) _ hr
  rw [hrep s h1 h2] at this
  constructor
  ·intro hf
   rw [hf] at this
   apply Classical.byContradiction
   intro hno
   exact absurd (this.2 ⟨rfl,fun r hr e=>hno ⟨r,hr,e⟩⟩) (by simp)
  ·rintro ⟨r,hr,e⟩
   cases hf:fl (rmv (List.replicate p.a.st.toNat true) (foL p)) s with
   | false=>rfl
   | true=>exact absurd e ((this.1 hf).2 r hr)
 refine ⟨by rw [rmv_len,List.length_replicate];omega,hout,foL_inc.imp fun {a b} hab=>by omega,fun r hr=>(foL_mem.1 hr).1,fun r hr=>by have:=(foL_mem.1 hr).2.1;omega,fun r hr=>.inl (foL_mem.1 hr).2.2.1,fun r hr _=>⟨(foL_mem.1 hr).2.2.2.1,(foL_mem.1 hr).2.2.2.2⟩,fun r hr h2=>?_,fun r hr h2=>?_,fun s hs=>?_,by omega⟩
 ·have:=(foL_mem.1 hr).2.2.1;omega
 ·have:=(foL_mem.1 hr).2.2.1;omega
 ·have hg:=h.frng s hs
  exact (hout s hg.1 hg.2).2 ⟨⟨s,1,1,-1⟩,foL_mem.2 ⟨hg,rfl,rfl,rfl,hs⟩,rfl⟩
theorem dst_neg (hw:WF p.a) {s:Int} (h0:0 ≤ s) (h1:s < p.a.st) (hs:fl N s = true) (hd:dstF p.a N s < 0):∀ d,¬ Dp p.a.ed N p.a.ma s d:=by
 rcases dstF_ok hw h0 h1 hs with ⟨_,h⟩ | ⟨d,hv,_,_⟩
 ·exact h
 ·omega
theorem dst_of_none (hw:WF p.a) {s:Int} (h0:0 ≤ s) (h1:s < p.a.st) (hs:fl N s = true) (hd:∀ d,¬ Dp p.a.ed N p.a.ma s d):dstF p.a N s < 0:=by
 rcases dstF_ok hw h0 h1 hs with ⟨hv,_⟩ | ⟨d,_,h,_⟩
 ·omega
 ·exact absurd h (hd d)
theorem PrI.round (h:p.ok) (o:PrI p rk N R) (hne:rndS p N rk ≠ []):PrI p (rk + 1) (rmv N (rndS p N rk)) (R ++ rndS p N rk):=by
 have hr:∀ r ∈ rndS p N rk,0 ≤ r.s∧r.s < (N.length:Int):=fun r hr=>(rndS_in hr).1.1
 have hlen:0 < (rndS p N rk).length:=List.length_pos_iff.2 hne
 have hgo:∀ s,0 ≤ s → s < p.a.st → (fl (rmv N (rndS p N rk)) s = false ↔ ∃ r ∈ R ++ rndS p N rk,r.s = s):=fun s h1 h2=>by
  have ht:=fl_rmv h1 (rndS p N rk) N hr
  constructor
  ·intro hf
   rw [hf] at ht
   cases hN:fl N s with
   | false =>
    obtain ⟨r,hr,e⟩:=(o.out s h1 h2).1 hN
    exact ⟨r,List.mem_append_left _ hr,e⟩
   | true =>
    apply Classical.byContradiction
    intro hno
    exact absurd (ht.2 ⟨hN,fun r hr e=>hno ⟨r,List.mem_append_right _ hr,e⟩⟩) (by simp)
  ·rintro ⟨r,hr,e⟩
   cases hf:fl (rmv N (rndS p N rk)) s with
   | false=>rfl
   | true =>
    have:=ht.1 hf
    rcases List.mem_append.1 hr with hr | hr
    ·rw [(o.out s h1 h2).2 ⟨r,hr,e⟩] at this
     exact absurd this.1 (by simp)
    ·exact absurd e (this.2 r hr)
 have hgone:∀ t,0 ≤ t → t < p.a.st → fl N t = false → ∃ y ∈ R ++ rndS p N rk,y.s = t∧y.k < rk:=fun t h1 h2 hf=>by
  obtain ⟨y,hy,e⟩:=(o.out t h1 h2).1 hf
  exact ⟨y,List.mem_append_left _ hy,e,(o.rks y hy).2⟩
 refine ⟨by rw [rmv_len];exact o.len,hgo,?_,fun r hr2=>?_,fun r hr2=>?_,fun r hr2=>?_,fun r hr2 h1=>?_,fun r hr2 h1=>?_,fun r hr2 h1=>?_,fun s hs=>?_,by rw [List.length_append];have:=o.num;omega⟩
 ·rw [List.pairwise_append]
  refine ⟨o.uni,rndS_inc.imp fun {a b} hab=>by omega,fun r hr1 t ht e=>?_⟩
  have h1:=o.rng r hr1
  have:=(o.out r.s h1.1 h1.2).2 ⟨r,hr1,rfl⟩
  rw [e,(rndS_in ht).1.2] at this
  cases this
 ·rcases List.mem_append.1 hr2 with hr2 | hr2
  ·exact o.rng r hr2
  ·have:=hr r hr2;rw [o.len] at this;exact this
 ·rcases List.mem_append.1 hr2 with hr2 | hr2
  ·have:=o.rks r hr2;omega
  ·have:=(rndS_in hr2).2.1;have:=o.num;omega
 ·rcases List.mem_append.1 hr2 with hr2 | hr2
  ·exact o.knd r hr2
  ·exact .inr (rndS_in hr2).2.2
 ·rcases List.mem_append.1 hr2 with hr2 | hr2
  ·exact o.fo r hr2 h1
  ·have:=(rndS_in hr2).2.2;omega
 ·rcases List.mem_append.1 hr2 with hr2 | hr2
  ·obtain ⟨x,hx,a,b,c,y,hy,d⟩:=o.un r hr2 h1
   exact ⟨x,hx,a,b,c,y,List.mem_append_left _ hy,d⟩
  ·have hk:=(rndS_in hr2).2.1
   unfold rndS at hr2
   split at hr2
   ·have:=(blL_mem.1 hr2).2.2.1;omega
   ·obtain ⟨_,_,_,x,hx,hxe⟩:=ldL_mem.1 hr2
    have h2:=List.find?_some hx
    have hxm:=List.mem_of_find?_eq_some hx
    unfold ldP at h2
    simp only [Bool.and_eq_true,decide_eq_true_eq,Bool.not_eq_true'] at h2
    have hg:=h.wf.ev_rng hxm
    obtain ⟨y,hy,e,hyk⟩:=hgone x.t hg.2.2.1 hg.2.2.2.1 h2.2
    exact ⟨x,hxm,h2.1.1,hxe,h2.1.2,y,hy,e,by omega⟩
 ·rcases List.mem_append.1 hr2 with hr2 | hr2
  ·obtain ⟨a,b,c⟩:=o.bl r hr2 h1
   refine ⟨a,b,fun x hx hxf=>?_⟩
   obtain ⟨y,hy,d⟩:=c x hx hxf
   exact ⟨y,List.mem_append_left _ hy,d⟩
  ·have hin:=rndS_in hr2
   have hbl:r ∈ blL p N rk∧rndS p N rk = blL p N rk:=by
    unfold rndS at hr2 ⊢
    split at hr2
    ·rename_i hq
     rw [if_pos hq]
     exact ⟨hr2,rfl⟩
    ·have:=(ldL_mem.1 hr2).2.2.1;omega
   have hb:=blL_mem.1 hbl.1
   have hno:=dst_neg h.wf hin.1.1.1 (by have:=o.len;omega) hin.1.2 hb.2.2.2.2
   refine ⟨hb.2.2.2.1,fun hm=>hno 0 (.mk hin.1.2 hm),fun x hx hxf=>?_⟩
   have hg:=h.wf.ev_rng hx
   cases hf:fl N x.t with
   | false =>
    obtain ⟨y,hy,e,hyk⟩:=hgone x.t hg.2.2.1 hg.2.2.2.1 hf
    exact ⟨y,hy,e,.inl (by omega)⟩
   | true =>
    have hd:=dst_of_none (N:=N) h.wf hg.2.2.1 hg.2.2.2.1 hf fun d hd=>hno (d + 1) (by rw [← hxf];exact .st hx (by rw [hxf];exact hin.1.2) hd)
    refine ⟨⟨x.t,rk,3,-1⟩,List.mem_append_right _ ?_,rfl,.inr ⟨hin.2.1.symm,rfl⟩⟩
    rw [hbl.2]
    exact blL_mem.2 ⟨⟨⟨hg.2.2.1,by have:=o.len;show x.t < _;omega⟩,hf⟩,rfl,rfl,rfl,hd⟩
 ·have hg:=h.frng s hs
  have:=(o.out s hg.1 hg.2).1 (o.frb s hs)
  obtain ⟨r,hr,e⟩:=this
  exact (hgo s hg.1 hg.2).2 ⟨r,List.mem_append_left _ hr,e⟩
theorem PrI.few (h:p.ok) (o:PrI p rk N R):(R.length:Int) ≤ p.a.st:=by
 have h1:(R.map (·.s)).Nodup:=by
  unfold List.Nodup
  rw [List.pairwise_map]
  exact o.uni
 have:=nodup_le (m:=rngI p.a.st) h1 (fun s hs=>by
  obtain ⟨r,hr,rfl⟩:=List.mem_map.1 hs
  exact rngI_mem.2 (o.rng r hr))
 rw [List.length_map,rngI_len] at this
 have:=h.wf.st0
 omega
theorem prvG_spec (h:p.ok):∀ (g:Nat) (rk:Int) (N:List Bool) (R:List Rm),PrI p rk N R → p.a.st + 1 ≤ (g:Int) + R.length → ∃ k,PrI p k (prvG p g rk N R).1 (prvG p g rk N R).2∧rndS p (prvG p g rk N R).1 k = []
 | 0,rk,N,R,o,hg=>by have:=o.few h;omega
 | g + 1,rk,N,R,o,hg=>by
  unfold prvG
  by_cases hq:rndS p N rk = []
  ·rw [if_pos hq];exact ⟨rk,o,hq⟩
  ·rw [if_neg hq]
   have hlen:0 < (rndS p N rk).length:=List.length_pos_iff.2 hq
   exact prvG_spec h g _ _ _ (o.round h hq) (by rw [List.length_append];omega)
theorem prvS_spec (h:p.ok):∃ k,PrI p k (prvS p).1 (prvS p).2∧rndS p (prvS p).1 k = []:=prvG_spec h _ _ _ _ (PrI.start h) (by have:=h.wf.st0;omega)
theorem srtR_mem {n:Int} {r:Rm}:r ∈ srtR n R ↔ r ∈ R∧0 ≤ r.s∧r.s < n:=by
 unfold srtR
 rw [List.mem_flatMap]
 constructor
 ·rintro ⟨s,hs,hr⟩
  rw [List.mem_filter,decide_eq_true_eq] at hr
  exact ⟨hr.1,by rw [hr.2];exact rngI_mem.1 hs⟩
 ·rintro ⟨h1,h2⟩
  exact ⟨r.s,rngI_mem.2 h2,List.mem_filter.2 ⟨h1,by simp⟩⟩
theorem uni_filter (h:R.Pairwise fun x y=>x.s ≠ y.s) (s:Int):IncR (R.filter fun r=>decide (r.s = s)):=by
 have h1:=h.filter fun r=>decide (r.s = s)
 refine h1.imp_of_mem fun {a b} ha hb hab=>?_
 rw [List.mem_filter,decide_eq_true_eq] at ha hb
 exact absurd (ha.2.trans hb.2.symm) hab
theorem srtR_inc {n:Int} (h:R.Pairwise fun x y=>x.s ≠ y.s):IncR (srtR n R):=by
 unfold srtR IncR
 rw [List.pairwise_flatMap]
 refine ⟨fun s _=>uni_filter h s,(rng_inc _).imp fun {a b} hab x hx y hy=>?_⟩
 rw [List.mem_filter,decide_eq_true_eq] at hx hy
 rw [hx.2,hy.2]
 exact hab
theorem srtR_eq {l:List Rm} (h:R.Pairwise fun x y=>x.s ≠ y.s) (hr:∀ r ∈ R,0 ≤ r.s∧r.s < p.a.st) (hl:IncR l) (hm:∀ r,r ∈ l ↔ r ∈ R):l = srtR p.a.st R :=
 incR_ext hl (srtR_inc h) fun r=>by rw [hm r,srtR_mem];exact ⟨fun k=>⟨k,hr r k⟩,fun k=>k.1⟩
end
end Go.Proofs.Ytdnmpndnpfklcaa
