/- Plain laws on lists and ints: no program in sight. -/
import Derived.Lib.ItoaNum
import Derived.KernelRfl
namespace Go.Proofs.Ytdnmpndnpfklcaa
theorem take_snoc' {α:Type} {l:List α} {k:Nat} {y:α} (h:l[k]? = some y):l.take (k + 1) = l.take k ++ [y]:=by
 obtain ⟨hk,he⟩:=List.getElem?_eq_some_iff.1 h
 rw [List.take_succ_eq_append_getElem hk,he]
theorem drop_cons' {α:Type} {l:List α} {k:Nat} {y:α} (h:l[k]? = some y):l.drop k = y :: l.drop (k + 1):=by
 obtain ⟨hk,he⟩:=List.getElem?_eq_some_iff.1 h
 rw [List.drop_eq_getElem_cons hk,he]
def setErrG (n:Int):Option Int → List Int → Int
 | _,[]=>0
 | p,x :: r=>if x < 0 ∨ n ≤ x then 2 else if p.any (fun q=>decide (x ≤ q)) then 5 else setErrG n (some x) r
def setErr (l:List Int) (n:Int):Int:=setErrG n none l
def hasB (l:List Int) (x:Int):Bool:=l.contains x
theorem hasB_mem {l:List Int} {x:Int}:hasB l x = true ↔ x ∈ l:=by simp [hasB]
theorem setErrG_range {l:List Int} {k:Nat} {n x:Int} {p:Option Int} (h:l[k]? = some x) (hr:x < 0 ∨ n ≤ x):setErrG n p (l.drop k) = 2:=by
 rw [drop_cons' h];simp [setErrG,hr]
theorem setErrG_order {l:List Int} {k:Nat} {n x q:Int} (h:l[k]? = some x) (hr:¬ (x < 0 ∨ n ≤ x)) (hq:x ≤ q):setErrG n (some q) (l.drop k) = 5:=by
 rw [drop_cons' h];simp [setErrG,hr,hq]
theorem setErrG_next {l:List Int} {k:Nat} {n x q:Int} (h:l[k]? = some x) (hr:¬ (x < 0 ∨ n ≤ x)) (hq:¬ x ≤ q):setErrG n (some q) (l.drop k) = setErrG n (some x) (l.drop (k + 1)):=by
 rw [drop_cons' h];simp [setErrG,hr,hq]
theorem setErrG_first {l:List Int} {k:Nat} {n x:Int} (h:l[k]? = some x) (hr:¬ (x < 0 ∨ n ≤ x)):setErrG n none (l.drop k) = setErrG n (some x) (l.drop (k + 1)):=by
 rw [drop_cons' h];simp [setErrG,hr]
theorem setErrG_end {l:List Int} {k:Nat} {n:Int} {p:Option Int} (h:¬ k < l.length):setErrG n p (l.drop k) = 0:=by
 rw [List.drop_of_length_le (by omega)];cases p <;> rfl
def Inc:List Int → Prop:=List.Pairwise (· < ·)
theorem setErrG_inc {n:Int}:∀ {l:List Int} {p:Option Int},setErrG n p l = 0 → (∀ q,p = some q → ∀ x ∈ l,q < x)∧Inc l∧∀ x ∈ l,0 ≤ x∧x < n
 | [],p,_=>⟨fun _ _ x hx=>by simp at hx,List.Pairwise.nil,fun x hx=>by simp at hx⟩
 | x :: r,p,h=>by
  unfold setErrG at h
  split at h
  ·cases h
  ·rename_i hr
   split at h
   ·cases h
   ·rename_i hq
    obtain ⟨h1,h2,h3⟩:=setErrG_inc h
    refine ⟨fun q hp y hy=>?_,List.Pairwise.cons (h1 x rfl) h2,fun y hy=>?_⟩
    ·subst hp
     simp at hq
     rcases List.mem_cons.1 hy with rfl | hy
     ·exact hq
     ·have:=h1 x rfl y hy;omega
    ·rcases List.mem_cons.1 hy with rfl | hy
     ·omega
     ·exact h3 y hy
theorem setErr_inc {l:List Int} {n:Int} (h:setErr l n = 0):Inc l∧∀ x ∈ l,0 ≤ x∧x < n:=⟨(setErrG_inc h).2.1,(setErrG_inc h).2.2⟩
def eqB (a b:List Int):Bool:=decide (a = b)
theorem eq_of_drop {a b:List Int} (hl:a.length = b.length) {k:Nat} (h:a.take k = b.take k) (hk:¬ k < a.length):a = b:=by
 rw [List.take_of_length_le (by omega),List.take_of_length_le (by omega)] at h;exact h
theorem take_eq_snoc {a b:List Int} {k:Nat} {x:Int} (ha:a[k]? = some x) (hb:b[k]? = some x) (h:a.take k = b.take k):a.take (k + 1) = b.take (k + 1):=by rw [take_snoc' ha,take_snoc' hb,h]
theorem ne_of_get {a b:List Int} {k:Nat} {x y:Int} (ha:a[k]? = some x) (hb:b[k]? = some y) (h:x ≠ y):eqB a b = false:=by
 unfold eqB;rw [decide_eq_false_iff_not];rintro rfl;rw [ha] at hb;exact h (by injection hb)
theorem ne_of_len {a b:List Int} (h:a.length ≠ b.length):eqB a b = false:=by
 unfold eqB;rw [decide_eq_false_iff_not];rintro rfl;exact h rfl
theorem eqB_of {a b:List Int} (h:a = b):eqB a b = true:=by unfold eqB;rw [decide_eq_true_iff];exact h
def bitB (x:Int) (i:Nat):Bool:=x / 2 ^ i % 2 == 1
def setB (x:Int):Nat → List Int
 | 0=>[]
 | k + 1=>if bitB x k then setB x k ++ [(k:Int)] else setB x k
theorem setB_yes {x:Int} {k:Nat} (h:bitB x k = true):setB x (k + 1) = setB x k ++ [(k:Int)]:=by rw [setB,if_pos h]
theorem setB_no {x:Int} {k:Nat} (h:bitB x k = false):setB x (k + 1) = setB x k:=by rw [setB,if_neg (by simp [h])]
theorem setB_mem {x y:Int}:∀ {k:Nat},y ∈ setB x k ↔ ∃ i:Nat,i < k∧y = i∧bitB x i = true
 | 0=>by simp [setB]
 | k + 1=>by
  have ih:=setB_mem (x:=x) (y:=y) (k:=k)
  rw [setB]
  split
  ·rename_i h
   rw [List.mem_append,ih,List.mem_singleton]
   constructor
   ·rintro (⟨i,h1,h2,h3⟩ | h1)
    ·exact ⟨i,by omega,h2,h3⟩
    ·exact ⟨k,by omega,h1,h⟩
   ·rintro ⟨i,h1,h2,h3⟩
    by_cases hik:i = k
    ·exact .inr (by rw [h2,hik])
    ·exact .inl ⟨i,by omega,h2,h3⟩
  ·rename_i h
   rw [ih]
   constructor
   ·rintro ⟨i,h1,h2,h3⟩
    exact ⟨i,by omega,h2,h3⟩
   ·rintro ⟨i,h1,h2,h3⟩
    by_cases hik:i = k
    ·rw [hik] at h3;exact absurd h3 h
    ·exact ⟨i,by omega,h2,h3⟩
theorem setB_inc (x:Int):∀ k,Inc (setB x k)
 | 0=>List.Pairwise.nil
 | k + 1=>by
  have ih:=setB_inc x k
  rw [setB];split
  ·refine List.pairwise_append.2 ⟨ih,List.pairwise_singleton _ _,fun a ha b hb=>?_⟩
   obtain ⟨i,h1,h2,_⟩:=setB_mem.1 ha
   simp at hb;omega
  ·exact ih
end Go.Proofs.Ytdnmpndnpfklcaa
/- Plain laws on automata: what Check says, the step by the edges. -/
namespace Go.Proofs.Ytdnmpndnpfklcaa
structure Ed where
 f:Int
 e:Int
 t:Int
structure Aut where
 al:List Int
 st:Int
 ma:List Int
 ed:List Ed
theorem Ed.eq_iff {x y:Ed}:x = y ↔ x.f = y.f∧x.e = y.e∧x.t = y.t:=by
 cases x;cases y;simp
instance:DecidableEq Ed:=fun _ _=>decidable_of_iff _ Ed.eq_iff.symm
theorem Aut.eq_iff {x y:Aut}:x = y ↔ x.al = y.al∧x.st = y.st∧x.ma = y.ma∧x.ed = y.ed:=by
 cases x;cases y;simp
instance:DecidableEq Aut:=fun _ _=>decidable_of_iff _ Aut.eq_iff.symm
def edOut (n:Int) (x:Ed):Prop:=x.f < 0 ∨ n ≤ x.f ∨ x.t < 0 ∨ n ≤ x.t
instance (n:Int) (x:Ed):Decidable (edOut n x):=by unfold edOut;infer_instance
def edLe (x y:Ed):Prop:=x.f < y.f ∨ (x.f = y.f∧x.e ≤ y.e)
instance (x y:Ed):Decidable (edLe x y):=by unfold edLe;infer_instance
def edG (n:Int) (al:List Int):Option Ed → List Ed → Int
 | _,[]=>0
 | p,x :: r=>if edOut n x then 2 else if hasB al x.e = false then 9 else
   match p with
   | none=>edG n al (some x) r
   | some y=>if edLe x y then 5 else edG n al (some x) r
def edErr (n:Int) (al:List Int) (l:List Ed):Int:=edG n al none l
section
variable {n:Int} {al:List Int} {l:List Ed} {k:Nat} {x y:Ed} {p:Option Ed}
theorem edG_out (h:l[k]? = some x) (ho:edOut n x):edG n al p (l.drop k) = 2:=by
 cases p <;> rw [drop_cons' h,edG,if_pos ho]
theorem edG_unknown (h:l[k]? = some x) (ho:¬ edOut n x) (hh:hasB al x.e = false):edG n al p (l.drop k) = 9:=by
 cases p <;> rw [drop_cons' h,edG,if_neg ho,if_pos hh]
theorem edG_order (h:l[k]? = some x) (ho:¬ edOut n x) (hh:hasB al x.e = true) (hl:edLe x y):edG n al (some y) (l.drop k) = 5:=by
 rw [drop_cons' h,edG,if_neg ho,if_neg (by simp [hh])];simp [hl]
theorem edG_next (h:l[k]? = some x) (ho:¬ edOut n x) (hh:hasB al x.e = true) (hl:¬ edLe x y):edG n al (some y) (l.drop k) = edG n al (some x) (l.drop (k + 1)):=by
 rw [drop_cons' h,edG,if_neg ho,if_neg (by simp [hh])];simp [hl]
theorem edG_first (h:l[k]? = some x) (ho:¬ edOut n x) (hh:hasB al x.e = true):edG n al none (l.drop k) = edG n al (some x) (l.drop (k + 1)):=by
 rw [drop_cons' h,edG,if_neg ho,if_neg (by simp [hh])]
theorem edG_end (h:¬ k < l.length):edG n al p (l.drop k) = 0:=by
 rw [List.drop_of_length_le (by omega)];rfl
end
def edLt (x y:Ed):Prop:=x.f < y.f ∨ (x.f = y.f∧x.e < y.e)
theorem edLt_of {x y:Ed} (h:¬ edLe y x):edLt x y:=by unfold edLe at h;unfold edLt;omega
theorem edLt_trans {x y z:Ed} (h:edLt x y) (k:edLt y z):edLt x z:=by unfold edLt at *;omega
theorem edG_zero {n:Int} {al:List Int}:∀ {l:List Ed} {p:Option Ed},edG n al p l = 0 → (∀ q,p = some q → ∀ x ∈ l,edLt q x)∧l.Pairwise edLt∧∀ x ∈ l,¬ edOut n x∧hasB al x.e = true
 | [],p,_=>⟨fun q _ x hx=>by simp at hx,List.Pairwise.nil,fun x hx=>by simp at hx⟩
 | x :: r,p,h=>by
  rw [edG.eq_def] at h
  simp only at h
  by_cases ho:edOut n x
  ·rw [if_pos ho] at h;cases h
  rw [if_neg ho] at h
  by_cases hh:hasB al x.e = false
  ·rw [if_pos hh] at h;cases h
  rw [if_neg hh] at h
  have hh':hasB al x.e = true:=by simpa using hh
  cases p with
  | none =>
   obtain ⟨i1,i2,i3⟩:=edG_zero h
   refine ⟨fun q hq=>by (cases hq),List.pairwise_cons.2 ⟨i1 x rfl,i2⟩,fun y hy=>?_⟩
   rcases List.mem_cons.1 hy with rfl | hy
   ·exact ⟨ho,hh'⟩
   ·exact i3 y hy
  | some y =>
   simp only at h
   by_cases hl:edLe x y
   ·rw [if_pos hl] at h;cases h
   rw [if_neg hl] at h
   obtain ⟨i1,i2,i3⟩:=edG_zero h
   refine ⟨fun q hq z hz=>?_,List.pairwise_cons.2 ⟨i1 x rfl,i2⟩,fun z hz=>?_⟩
   ·injection hq with hq
    subst hq
    have hyx:=edLt_of hl
    rcases List.mem_cons.1 hz with rfl | hz
    ·exact hyx
    ·exact edLt_trans hyx (i1 x rfl z hz)
   ·rcases List.mem_cons.1 hz with rfl | hz
    ·exact ⟨ho,hh'⟩
    ·exact i3 z hz
theorem edG_mk {n:Int} {al:List Int}:∀ {l:List Ed} {p:Option Ed},(∀ q,p = some q → ∀ x ∈ l,edLt q x) → l.Pairwise edLt → (∀ x ∈ l,¬ edOut n x∧hasB al x.e = true) → edG n al p l = 0
 | [],p,_,_,_=>rfl
 | x :: r,p,h1,h2,h3=>by
  obtain ⟨g1,g2⟩:=List.pairwise_cons.1 h2
  obtain ⟨a1,a2⟩:=h3 x (List.mem_cons_self ..)
  have ih:=edG_mk (p:=some x) (fun q hq y hy=>by injection hq with hq;subst hq;exact g1 y hy) g2 (fun y hy=>h3 y (List.mem_cons_of_mem _ hy))
  rw [edG.eq_def]
  simp only
  rw [if_neg a1,if_neg (by simp [a2])]
  cases p with
  | none=>exact ih
  | some y =>
   have hyx:=h1 y rfl x (List.mem_cons_self ..)
   have:¬ edLe x y:=by unfold edLt at hyx;unfold edLe;omega
   simp only
   rw [if_neg this];exact ih
def chkA (a:Aut):Int :=
 if setErr a.al 32 ≠ 0 then setErr a.al 32 else if a.st < 0 then 2 else if 4096 < a.st then 3 else if setErr a.ma a.st ≠ 0 then setErr a.ma a.st else edErr a.st a.al a.ed
section
variable {a:Aut}
theorem chkA_al (h:setErr a.al 32 ≠ 0):chkA a = setErr a.al 32:=if_pos h
theorem chkA_neg (h:setErr a.al 32 = 0) (h1:a.st < 0):chkA a = 2:=by unfold chkA;rw [if_neg (by simpa using h),if_pos h1]
theorem chkA_many (h:setErr a.al 32 = 0) (h1:¬ a.st < 0) (h2:4096 < a.st):chkA a = 3:=by unfold chkA;rw [if_neg (by simpa using h),if_neg h1,if_pos h2]
theorem chkA_mk (h:setErr a.al 32 = 0) (h1:¬ a.st < 0) (h2:¬ 4096 < a.st) (h3:setErr a.ma a.st ≠ 0):chkA a = setErr a.ma a.st:=by unfold chkA;rw [if_neg (by simpa using h),if_neg h1,if_neg h2,if_pos h3]
theorem chkA_ed (h:setErr a.al 32 = 0) (h1:¬ a.st < 0) (h2:¬ 4096 < a.st) (h3:setErr a.ma a.st = 0):chkA a = edErr a.st a.al a.ed:=by unfold chkA;rw [if_neg (by simpa using h),if_neg h1,if_neg h2,if_neg (by simpa using h3)]
structure WF (a:Aut):Prop where
 inc:Inc a.al
 rng:∀ x ∈ a.al,0 ≤ x∧x < 32
 st0:0 ≤ a.st
 st1:a.st ≤ 4096
 minc:Inc a.ma
 mrng:∀ x ∈ a.ma,0 ≤ x∧x < a.st
 einc:a.ed.Pairwise edLt
 erng:∀ x ∈ a.ed,¬ edOut a.st x∧hasB a.al x.e = true
theorem chkA_wf (h:chkA a = 0):WF a:=by
 unfold chkA at h
 by_cases h0:setErr a.al 32 ≠ 0
 ·rw [if_pos h0] at h;exact absurd h h0
 rw [if_neg h0] at h
 by_cases h1:a.st < 0
 ·rw [if_pos h1] at h;cases h
 rw [if_neg h1] at h
 by_cases h2:4096 < a.st
 ·rw [if_pos h2] at h;cases h
 rw [if_neg h2] at h
 by_cases h3:setErr a.ma a.st ≠ 0
 ·rw [if_pos h3] at h;exact absurd h h3
 rw [if_neg h3] at h
 obtain ⟨_,e1,e2⟩:=edG_zero h
 obtain ⟨s1,s2⟩:=setErr_inc (by simpa using h0)
 obtain ⟨m1,m2⟩:=setErr_inc (by simpa using h3)
 exact ⟨s1,s2,by omega,by omega,m1,m2,e1,e2⟩
end
theorem setErrG_mk {n:Int}:∀ {l:List Int} {p:Option Int},(∀ q,p = some q → ∀ x ∈ l,q < x) → Inc l → (∀ x ∈ l,0 ≤ x∧x < n) → setErrG n p l = 0
 | [],p,_,_,_=>by simp [setErrG]
 | x :: r,p,h1,h2,h3=>by
  obtain ⟨g1,g2⟩:=List.pairwise_cons.1 h2
  have hx:=h3 x (List.mem_cons_self ..)
  have ih:=setErrG_mk (p:=some x) (fun q hq y hy=>by injection hq with hq;subst hq;exact g1 y hy) g2 (fun y hy=>h3 y (List.mem_cons_of_mem _ hy))
  cases p with
  | none =>
   have:=setErrG_first (l:=x :: r) (k:=0) (n:=n) (x:=x) rfl (by omega)
   simp only [List.drop_zero] at this
   rw [this];exact ih
  | some y =>
   have hyx:=h1 y rfl x (List.mem_cons_self ..)
   have:=setErrG_next (l:=x :: r) (k:=0) (n:=n) (x:=x) (q:=y) rfl (by omega) (by omega)
   simp only [List.drop_zero] at this
   rw [this];exact ih
theorem WF.chk {a:Aut} (h:WF a):chkA a = 0:=by
 have e1:setErr a.al 32 = 0:=setErrG_mk (fun q hq=>by cases hq) h.inc h.rng
 have e2:setErr a.ma a.st = 0:=setErrG_mk (fun q hq=>by cases hq) h.minc h.mrng
 rw [chkA_ed e1 (by have:=h.st0;omega) (by have:=h.st1;omega) e2]
 exact edG_mk (fun q hq=>by cases hq) h.einc h.erng
def nxtE (s v:Int):List Ed → Int
 | []=>-1
 | x :: r=>if x.f = s∧x.e = v then x.t else nxtE s v r
def nxt (a:Aut) (s v:Int):Int:=nxtE s v a.ed
theorem nxtE_mem {s v:Int}:∀ {l:List Ed},nxtE s v l ≠ -1 → ∃ x ∈ l,x.f = s∧x.e = v∧x.t = nxtE s v l
 | [],h=>absurd rfl h
 | x :: r,h=>by
  unfold nxtE at h ⊢
  by_cases hx:x.f = s∧x.e = v
  ·rw [if_pos hx];exact ⟨x,List.mem_cons_self ..,hx.1,hx.2,rfl⟩
  ·rw [if_neg hx] at h ⊢
   obtain ⟨y,hy,h1⟩:=nxtE_mem h
   exact ⟨y,List.mem_cons_of_mem _ hy,h1⟩
theorem nxtE_of {s v:Int} {x:Ed}:∀ {l:List Ed},l.Pairwise edLt → x ∈ l → x.f = s → x.e = v → nxtE s v l = x.t
 | [],_,h,_,_=>by simp at h
 | y :: r,hp,h,h1,h2=>by
  obtain ⟨g1,g2⟩:=List.pairwise_cons.1 hp
  unfold nxtE
  rcases List.mem_cons.1 h with rfl | h
  ·rw [if_pos ⟨h1,h2⟩]
  ·rw [if_neg,nxtE_of g2 h h1 h2]
   have:=g1 x h
   unfold edLt at this
   omega
theorem WF.nxt_rng {a:Aut} (h:WF a) {s v:Int} (hn:nxt a s v ≠ -1):0 ≤ nxt a s v∧nxt a s v < a.st∧hasB a.al v = true∧0 ≤ s∧s < a.st:=by
 obtain ⟨x,hx,h1,h2,h3⟩:=nxtE_mem hn
 obtain ⟨h4,h5⟩:=h.erng x hx
 unfold edOut at h4
 unfold nxt
 rw [← h3]
 subst h1 h2
 exact ⟨by omega,by omega,h5,by omega,by omega⟩
end Go.Proofs.Ytdnmpndnpfklcaa
/- Plain laws: the search in breadth of a machine. -/
namespace Go.Proofs.Ytdnmpndnpfklcaa
section
variable {σ:Type} [DecidableEq σ]
def idx:List σ → σ → Int
 | [],_=>-1
 | y :: r,x=>if y = x then 0 else if idx r x < 0 then -1 else idx r x + 1
theorem idx_ge:∀ (l:List σ) (x:σ),-1 ≤ idx l x
 | [],_=>by simp [idx]
 | y :: r,x=>by
  have:=idx_ge r x
  unfold idx;split
  ·omega
  ·split <;> omega
theorem idx_no:∀ {l:List σ} {x:σ},x ∉ l → idx l x = -1
 | [],_,_=>rfl
 | y :: r,x,h=>by
  have h1:¬ y = x:=fun e=>h (by rw [e];exact List.mem_cons_self ..)
  have:=idx_no (l:=r) (x:=x) (fun e=>h (List.mem_cons_of_mem _ e))
  unfold idx;rw [if_neg h1,this];rfl
theorem idx_yes:∀ {l:List σ} {x:σ},x ∈ l → ∃ k:Nat,idx l x = k∧l[k]? = some x
 | [],_,h=>by simp at h
 | y :: r,x,h=>by
  unfold idx
  by_cases h1:y = x
  ·rw [if_pos h1];exact ⟨0,rfl,by simp [h1]⟩
  ·rw [if_neg h1]
   obtain ⟨k,h2,h3⟩:=idx_yes ((List.mem_cons.1 h).resolve_left (fun e=>h1 e.symm))
   rw [h2,if_neg (by omega)]
   exact ⟨k + 1,by omega,by simpa using h3⟩
theorem idx_neg {l:List σ} {x:σ}:idx l x < 0 ↔ x ∉ l:=by
 constructor
 ·intro h hx
  obtain ⟨k,h2,_⟩:=idx_yes hx
  omega
 ·intro h;rw [idx_no h];omega
theorem idx_app:∀ {l m:List σ} {x:σ},x ∈ l → idx (l ++ m) x = idx l x
 | [],_,_,h=>by simp at h
 | y :: r,m,x,h=>by
  show idx (y :: (r ++ m)) x = _
  unfold idx
  by_cases h1:y = x
  ·rw [if_pos h1,if_pos h1]
  ·rw [if_neg h1,if_neg h1,idx_app ((List.mem_cons.1 h).resolve_left (fun e=>h1 e.symm))]
theorem idx_new:∀ {l:List σ} {x:σ},x ∉ l → idx (l ++ [x]) x = l.length
 | [],x,_=>by simp [idx]
 | y :: r,x,h=>by
  have h1:¬ y = x:=fun e=>h (by rw [e];exact List.mem_cons_self ..)
  have ih:=idx_new (l:=r) (x:=x) (fun e=>h (List.mem_cons_of_mem _ e))
  show idx (y :: (r ++ [x])) x = _
  unfold idx
  rw [if_neg h1,ih,if_neg (by omega)];simp
theorem idx_hit:∀ {l:List σ} {k:Nat} {x:σ},l[k]? = some x → x ∉ l.take k → idx l x = k
 | [],k,x,h,_=>by simp at h
 | y :: r,0,x,h,_=>by simp at h;simp [idx,h]
 | y :: r,k + 1,x,h,hn=>by
  have h':r[k]? = some x:=by simpa using h
  simp only [List.take_succ_cons,List.mem_cons,not_or] at hn
  unfold idx
  rw [if_neg (fun e=>hn.1 e.symm),idx_hit h' hn.2,if_neg (by omega)]
  omega
omit [DecidableEq σ] in
theorem not_take_succ {l:List σ} {k:Nat} {x y:σ} (h:l[k]? = some y) (hn:x ∉ l.take k) (hy:y ≠ x):x ∉ l.take (k + 1):=by
 rw [take_snoc' h,List.mem_append,List.mem_singleton]
 rintro (h | h)
 ·exact hn h
 ·exact hy h.symm
theorem idx_end {l:List σ} {k:Nat} {x:σ} (hn:x ∉ l.take k) (h:¬ k < l.length):idx l x = -1:=idx_no (by rwa [List.take_of_length_le (by omega)] at hn)
structure Bs (σ:Type) where
 ts:List σ
 es:List Ed
def bsE (C:Nat) (st:σ → Int → Option σ) (i:Nat) (t:σ) (s:Bs σ) (v:Int):Option (Bs σ) :=
 match st t v with
 | none=>some s
 | some x=>if idx s.ts x < 0 then (if s.ts.length = C then none else some ⟨s.ts ++ [x],s.es ++ [⟨i,v,s.ts.length⟩]⟩) else some ⟨s.ts,s.es ++ [⟨i,v,idx s.ts x⟩]⟩
def bsF (C:Nat) (st:σ → Int → Option σ) (i:Nat) (t:σ):List Int → Bs σ → Option (Bs σ)
 | [],s=>some s
 | v :: V,s=>match bsE C st i t s v with
  | none=>none
  | some s'=>bsF C st i t V s'
def bsR (C:Nat) (st:σ → Int → Option σ) (V:List Int):Nat → Nat → Bs σ → Option (Bs σ)
 | 0,_,s=>some s
 | n + 1,i,s=>match s.ts[i]? with
  | none=>some s
  | some t=>match bsF C st i t V s with
   | none=>none
   | some s'=>bsR C st V n (i + 1) s'
def bfs (C:Nat) (st:σ → Int → Option σ) (V:List Int) (x0:σ):Option (Bs σ):=bsR C st V (C + 1) 0 ⟨[x0],[]⟩
section
variable {C:Nat} {st:σ → Int → Option σ} {i:Nat} {t x:σ} {s s':Bs σ} {v:Int}
theorem bsE_none (h:st t v = none):bsE C st i t s v = some s:=by unfold bsE;rw [h]
theorem bsE_old (h:st t v = some x) (hi:¬ idx s.ts x < 0):bsE C st i t s v = some ⟨s.ts,s.es ++ [⟨i,v,idx s.ts x⟩]⟩:=by unfold bsE;rw [h];simp only;rw [if_neg hi]
theorem bsE_new (h:st t v = some x) (hi:idx s.ts x < 0) (hC:s.ts.length ≠ C):bsE C st i t s v = some ⟨s.ts ++ [x],s.es ++ [⟨i,v,s.ts.length⟩]⟩:=by unfold bsE;rw [h];simp only;rw [if_pos hi,if_neg hC]
theorem bsE_full (h:st t v = some x) (hi:idx s.ts x < 0) (hC:s.ts.length = C):bsE C st i t s v = none:=by unfold bsE;rw [h];simp only;rw [if_pos hi,if_pos hC]
theorem bsR_end {V:List Int} {n:Nat} (h:¬ i < s.ts.length):bsR C st V n i s = some s:=by
 cases n with
 | zero=>rfl
 | succ n=>rw [bsR,List.getElem?_eq_none (by omega)]
theorem bsR_go {V:List Int} {n:Nat} (ht:s.ts[i]? = some t) (h:bsF C st i t V s = some s'):bsR C st V (n + 1) i s = bsR C st V n (i + 1) s':=by
 rw [bsR,ht];simp only [h]
theorem bsR_full {V:List Int} {n:Nat} (ht:s.ts[i]? = some t) (h:bsF C st i t V s = none):bsR C st V (n + 1) i s = none:=by
 rw [bsR,ht];simp only [h]
end
inductive Rch (st:σ → Int → Option σ) (V:List Int) (x0:σ):σ → Prop where
 | start:Rch st V x0 x0
 | step {t x:σ} {v:Int}:Rch st V x0 t → v ∈ V → st t v = some x → Rch st V x0 x
def edRow (st:σ → Int → Option σ) (ts:List σ) (j:Nat) (t:σ) (D:List Int):List Ed:=D.filterMap (fun v=>(st t v).map (fun x=>⟨j,v,idx ts x⟩))
def edsOf (st:σ → Int → Option σ) (V:List Int) (ts:List σ):Nat → List Ed
 | 0=>[]
 | i + 1=>edsOf st V ts i ++ (match ts[i]? with | some t=>edRow st ts i t V | none=>[])
def clo (st:σ → Int → Option σ) (V:List Int) (ts:List σ) (i:Nat):Prop:=∀ j t v x,j < i → ts[j]? = some t → v ∈ V → st t v = some x → x ∈ ts
theorem edRow_app {st:σ → Int → Option σ} {ts m:List σ} {j:Nat} {t:σ} {D:List Int} (h:∀ v ∈ D,∀ x,st t v = some x → x ∈ ts):edRow st (ts ++ m) j t D = edRow st ts j t D:=by
 unfold edRow
 induction D with
 | nil=>rfl
 | cons v D ih =>
  have h1:=ih (fun u hu=>h u (List.mem_cons_of_mem _ hu))
  simp only [List.filterMap_cons]
  cases hs:st t v with
  | none=>simpa using h1
  | some x=>simp only [Option.map_some];rw [h1,idx_app (h v (List.mem_cons_self ..) x hs)]
theorem edsOf_app {st:σ → Int → Option σ} {V:List Int} {ts m:List σ}:∀ {i:Nat},i ≤ ts.length → clo st V ts i → edsOf st V (ts ++ m) i = edsOf st V ts i
 | 0,_,_=>rfl
 | i + 1,hi,hc=>by
  unfold edsOf
  rw [edsOf_app (by omega) (fun j t v x hj=>hc j t v x (by omega)),List.getElem?_append_left (by omega)]
  have hti:ts[i]? = some ts[i]:=List.getElem?_eq_getElem (by omega)
  rw [hti]
  simp only
  rw [edRow_app (fun v hv x hx=>hc i _ v x (by omega) hti hv hx)]
omit [DecidableEq σ] in
theorem clo_app {st:σ → Int → Option σ} {V:List Int} {ts m:List σ} {i:Nat} (hi:i ≤ ts.length) (h:clo st V ts i):clo st V (ts ++ m) i:=fun j t v x hj ht hv hx=>by
 rw [List.getElem?_append_left (by omega)] at ht
 exact List.mem_append_left _ (h j t v x hj ht hv hx)
structure FInv (C:Nat) (st:σ → Int → Option σ) (V:List Int) (x0:σ) (i:Nat) (t:σ) (D:List Int) (s:Bs σ):Prop where
 nd:s.ts.Nodup
 at_:s.ts[i]? = some t
 len:s.ts.length ≤ C
 head:s.ts[0]? = some x0
 es:s.es = edsOf st V s.ts i ++ edRow st s.ts i t D
 clo:clo st V s.ts i
 cloD:∀ v ∈ D,∀ x,st t v = some x → x ∈ s.ts
 rch:∀ x ∈ s.ts,Rch st V x0 x
structure BInv (C:Nat) (st:σ → Int → Option σ) (V:List Int) (x0:σ) (i:Nat) (s:Bs σ):Prop where
 nd:s.ts.Nodup
 le:i ≤ s.ts.length
 len:s.ts.length ≤ C
 head:s.ts[0]? = some x0
 es:s.es = edsOf st V s.ts i
 clo:clo st V s.ts i
 rch:∀ x ∈ s.ts,Rch st V x0 x
def Many (C:Nat) (st:σ → Int → Option σ) (V:List Int) (x0:σ):Prop:=∃ (l:List σ),l.Nodup∧l.length = C + 1∧∀ x ∈ l,Rch st V x0 x
section
variable {C:Nat} {st:σ → Int → Option σ} {V:List Int} {x0:σ} {i:Nat} {t:σ} {D:List Int} {s s':Bs σ} {v:Int}
theorem FInv.lt (h:FInv C st V x0 i t D s):i < s.ts.length:=(List.getElem?_eq_some_iff.1 h.at_).1
theorem FInv.step (h:FInv C st V x0 i t D s) (hv:v ∈ V):(∃ s',bsE C st i t s v = some s'∧FInv C st V x0 i t (D ++ [v]) s'∧s.ts <+: s'.ts) ∨ (bsE C st i t s v = none∧Many C st V x0):=by
 have hlt:=h.lt
 cases hs:st t v with
 | none =>
  refine .inl ⟨s,bsE_none hs,⟨h.nd,h.at_,h.len,h.head,?_,h.clo,fun u hu x hx=>?_,h.rch⟩,List.prefix_refl _⟩
  ·rw [h.es];unfold edRow;rw [List.filterMap_append];simp [hs]
  ·rcases List.mem_append.1 hu with hu | hu
   ·exact h.cloD u hu x hx
   ·simp at hu;subst hu;rw [hs] at hx;cases hx
 | some x =>
  have hr:Rch st V x0 x:=.step (h.rch t (List.mem_of_getElem? h.at_)) hv hs
  by_cases hi:idx s.ts x < 0
  ·have hnx:=idx_neg.1 hi
   by_cases hC:s.ts.length = C
   ·refine .inr ⟨bsE_full hs hi hC,s.ts ++ [x],?_,by simp [hC],fun y hy=>?_⟩
    ·rw [List.nodup_append]
     exact ⟨h.nd,by simp,fun a ha b hb=>by simp at hb;subst hb;rintro rfl;exact hnx ha⟩
    ·rcases List.mem_append.1 hy with hy | hy
     ·exact h.rch y hy
     ·simp at hy;subst hy;exact hr
   ·refine .inl ⟨_,bsE_new hs hi hC,⟨?_,?_,?_,?_,?_,clo_app (by omega) h.clo,fun u hu y hy=>?_,fun y hy=>?_⟩,List.prefix_append _ _⟩
    ·rw [List.nodup_append]
     exact ⟨h.nd,by simp,fun a ha b hb=>by simp at hb;subst hb;rintro rfl;exact hnx ha⟩
    ·show (s.ts ++ [x])[i]? = _
     rw [List.getElem?_append_left hlt];exact h.at_
    ·have:=h.len;simp;omega
    ·show (s.ts ++ [x])[0]? = _
     rw [List.getElem?_append_left (by omega)];exact h.head
    ·show s.es ++ _ = edsOf st V (s.ts ++ [x]) i ++ edRow st (s.ts ++ [x]) i t (D ++ [v])
     rw [edsOf_app (by omega) h.clo,h.es,List.append_assoc]
     congr 1
     unfold edRow
     rw [List.filterMap_append]
     have e1:=edRow_app (m:=[x]) (j:=i) h.cloD
     unfold edRow at e1
     rw [e1]
     simp [hs,idx_new hnx]
    ·rcases List.mem_append.1 hu with hu | hu
     ·exact List.mem_append_left _ (h.cloD u hu y hy)
     ·simp at hu;subst hu;rw [hs] at hy;injection hy with hy;subst hy
      exact List.mem_append_right _ (List.mem_singleton.2 rfl)
    ·rcases List.mem_append.1 hy with hy | hy
     ·exact h.rch y hy
     ·simp at hy;subst hy;exact hr
  ·refine .inl ⟨_,bsE_old hs hi,⟨h.nd,h.at_,h.len,h.head,?_,h.clo,fun u hu y hy=>?_,h.rch⟩,List.prefix_refl _⟩
   ·show s.es ++ _ = edsOf st V s.ts i ++ edRow st s.ts i t (D ++ [v])
    rw [h.es,List.append_assoc]
    congr 1
    unfold edRow
    rw [List.filterMap_append];simp [hs]
   ·rcases List.mem_append.1 hu with hu | hu
    ·exact h.cloD u hu y hy
    ·simp at hu;subst hu;rw [hs] at hy;injection hy with hy;subst hy
     by_cases hm:x ∈ s.ts
     ·exact hm
     ·exact absurd (idx_neg.2 hm) hi
theorem FInv.run:∀ {R D:List Int} {s:Bs σ},FInv C st V x0 i t D s → (∀ v ∈ R,v ∈ V) → (∃ s',bsF C st i t R s = some s'∧FInv C st V x0 i t (D ++ R) s'∧s.ts <+: s'.ts) ∨ (bsF C st i t R s = none∧Many C st V x0)
 | [],D,s,h,_=>.inl ⟨s,rfl,by simpa using h,List.prefix_refl _⟩
 | v :: R,D,s,h,hR=>by
  rcases h.step (hR v (List.mem_cons_self ..)) with ⟨s1,e1,h1,p1⟩ | ⟨e1,h1⟩
  ·rcases FInv.run h1 (fun u hu=>hR u (List.mem_cons_of_mem _ hu)) with ⟨s2,e2,h2,p2⟩ | ⟨e2,h2⟩
   ·refine .inl ⟨s2,by rw [bsF,e1];exact e2,?_,p1.trans p2⟩
    rwa [List.append_assoc] at h2
   ·exact .inr ⟨by rw [bsF,e1];exact e2,h2⟩
  ·exact .inr ⟨by rw [bsF,e1],h1⟩
theorem BInv.enter (h:BInv C st V x0 i s) (ht:s.ts[i]? = some t):FInv C st V x0 i t [] s:=⟨h.nd,ht,h.len,h.head,by rw [h.es];simp [edRow],h.clo,fun v hv=>by simp at hv,h.rch⟩
theorem FInv.leave (h:FInv C st V x0 i t V s):BInv C st V x0 (i + 1) s:=by
 refine ⟨h.nd,h.lt,h.len,h.head,?_,fun j u v x hj hu hv hx=>?_,h.rch⟩
 ·rw [h.es,edsOf,h.at_]
 ·rcases Nat.lt_or_ge j i with hj' | hj'
  ·exact h.clo j u v x hj' hu hv hx
  ·obtain rfl:j = i:=by omega
   rw [h.at_] at hu;injection hu with hu;subst hu
   exact h.cloD v hv x hx
theorem BInv.round (h:BInv C st V x0 i s) (ht:s.ts[i]? = some t):(∃ s',bsF C st i t V s = some s'∧BInv C st V x0 (i + 1) s'∧s.ts <+: s'.ts) ∨ (bsF C st i t V s = none∧Many C st V x0):=by
 rcases (h.enter ht).run (R:=V) (fun v hv=>hv) with ⟨s',e,h',p⟩ | h'
 ·exact .inl ⟨s',e,FInv.leave (by simpa using h'),p⟩
 ·exact .inr h'
theorem BInv.run:∀ {n i:Nat} {s:Bs σ},BInv C st V x0 i s → C < n + i → (∃ s',bsR C st V n i s = some s'∧BInv C st V x0 s'.ts.length s'∧s.ts <+: s'.ts) ∨ (bsR C st V n i s = none∧Many C st V x0)
 | 0,i,s,h,hn=>by have:=h.le;have:=h.len;omega
 | n + 1,i,s,h,hn=>by
  by_cases hi:i < s.ts.length
  ·have ht:s.ts[i]? = some s.ts[i]:=List.getElem?_eq_getElem hi
   rcases h.round ht with ⟨s1,e1,h1,p1⟩ | ⟨e1,h1⟩
   ·rw [bsR_go ht e1]
    rcases BInv.run (n:=n) h1 (by omega) with ⟨s2,e2,h2,p2⟩ | h2
    ·exact .inl ⟨s2,e2,h2,p1.trans p2⟩
    ·exact .inr h2
   ·exact .inr ⟨bsR_full ht e1,h1⟩
  ·have hle:=h.le
   obtain rfl:i = s.ts.length:=by omega
   exact .inl ⟨s,bsR_end hi,h,List.prefix_refl _⟩
theorem BInv.begin (hC:1 ≤ C):BInv C st V x0 0 ⟨[x0],[]⟩:=⟨by simp,Nat.zero_le _,by simpa using hC,rfl,rfl,fun j t v x hj=>by omega,fun x hx=>by simp at hx;subst hx;exact .start⟩
theorem bfs_spec (hC:1 ≤ C):(∃ s,bfs C st V x0 = some s∧BInv C st V x0 s.ts.length s) ∨ (bfs C st V x0 = none∧Many C st V x0):=by
 rcases BInv.run (n:=C + 1) (BInv.begin (st:=st) (V:=V) (x0:=x0) hC) (by omega) with ⟨s,e,h,_⟩ | h
 ·exact .inl ⟨s,e,h⟩
 ·exact .inr h
end
theorem nodup_le {α:Type} [DecidableEq α]:∀ {l m:List α},l.Nodup → (∀ x ∈ l,x ∈ m) → l.length ≤ m.length
 | [],m,_,_=>by simp
 | a :: l,m,hn,hm=>by
  obtain ⟨h1,h2⟩:=List.nodup_cons.1 hn
  have ha:=hm a (List.mem_cons_self ..)
  have ih:=nodup_le (l:=l) (m:=m.erase a) h2 (fun x hx=>(List.mem_erase_of_ne (by rintro rfl;exact h1 hx)).2 (hm x (List.mem_cons_of_mem _ hx)))
  rw [List.length_erase_of_mem ha] at ih
  have:0 < m.length:=List.length_pos_of_mem ha
  simp;omega
theorem not_many {C:Nat} {st:σ → Int → Option σ} {V:List Int} {x0:σ} (U:List σ) (hU:U.length ≤ C) (h:∀ x,Rch st V x0 x → x ∈ U):¬ Many C st V x0:=by
 rintro ⟨l,h1,h2,h3⟩
 have:=nodup_le h1 (fun x hx=>h x (h3 x hx))
 omega
end
end Go.Proofs.Ytdnmpndnpfklcaa
/- Plain laws: the automaton that a search in breadth finds. -/
namespace Go.Proofs.Ytdnmpndnpfklcaa
section
variable {σ:Type} [DecidableEq σ]
def mksN (p:σ → Bool) (ts:List σ):Nat → List Int
 | 0=>[]
 | i + 1=>mksN p ts i ++ (match ts[i]? with | some t=>if p t then [(i:Int)] else [] | none=>[])
omit [DecidableEq σ] in
theorem mksN_app {p:σ → Bool} {ts m:List σ}:∀ {i:Nat},i ≤ ts.length → mksN p (ts ++ m) i = mksN p ts i
 | 0,_=>rfl
 | i + 1,h=>by
  unfold mksN
  rw [mksN_app (by omega),List.getElem?_append_left (by omega)]
omit [DecidableEq σ] in
theorem mksN_pre {p:σ → Bool} {ts ts':List σ} {i:Nat} (h:ts <+: ts') (hi:i ≤ ts.length):mksN p ts' i = mksN p ts i:=by
 obtain ⟨m,rfl⟩:=h
 exact mksN_app hi
omit [DecidableEq σ] in
theorem mksN_len (p:σ → Bool) (ts:List σ):∀ i,(mksN p ts i).length ≤ i
 | 0=>by simp [mksN]
 | i + 1=>by
  have:=mksN_len p ts i
  unfold mksN
  rw [List.length_append]
  cases ts[i]? with
  | none=>simp;omega
  | some t=>cases h:p t <;> simp [h] <;> omega
def autOf (V:List Int) (p:σ → Bool) (s:Bs σ):Aut:=⟨V,s.ts.length,mksN p s.ts s.ts.length,s.es⟩
end
def stA (a:Aut) (s:Int) (v:Int):Option Int:=if nxt a s v < 0 then none else some (nxt a s v)
def mkA (a:Aut) (s:Int):Bool:=hasB a.ma s
def canS (a:Aut):Option (Bs Int):=bfs 4096 (stA a) a.al 0
def canA (a:Aut):Aut:=if a.st = 0 then ⟨a.al,0,[],[]⟩ else match canS a with | some s=>autOf a.al (mkA a) s | none=>⟨a.al,0,[],[]⟩
theorem rch_rng {a:Aut} (h:WF a) (h0:a.st ≠ 0) {x:Int} (hx:Rch (stA a) a.al 0 x):0 ≤ x∧x < a.st:=by
 induction hx with
 | start=>have:=h.st0;omega
 | step ht hv hs ih =>
  unfold stA at hs
  split at hs
  ·cases hs
  ·rename_i hn
   injection hs with hs
   subst hs
   have hne:nxt a _ _ ≠ -1:=fun e=>hn (by rw [e];omega)
   obtain ⟨g1,g2,_⟩:=h.nxt_rng hne
   exact ⟨g1,g2⟩
theorem canS_some {a:Aut} (h:WF a) (h0:a.st ≠ 0):∃ s,canS a = some s∧BInv 4096 (stA a) a.al 0 s.ts.length s:=by
 rcases bfs_spec (C:=4096) (st:=stA a) (V:=a.al) (x0:=(0:Int)) (by omega) with hs | ⟨_,hm⟩
 ·exact hs
 ·exfalso
  refine not_many ((List.range 4096).map (fun n:Nat=>(n:Int))) (by simp) (fun x hx=>?_) hm
  obtain ⟨h1,h2⟩:=rch_rng h h0 hx
  have:=h.st1
  rw [List.mem_map]
  exact ⟨x.toNat,List.mem_range.2 (by omega),by omega⟩
end Go.Proofs.Ytdnmpndnpfklcaa
/- Plain laws on products: the union of alphabets, the step of a tuple. -/
namespace Go.Proofs.Ytdnmpndnpfklcaa
def mrgN:Nat → List Int → List Int → List Int
 | 0,_,_=>[]
 | _ + 1,[],[]=>[]
 | n + 1,x :: a,[]=>x :: mrgN n a []
 | n + 1,[],y :: b=>y :: mrgN n [] b
 | n + 1,x :: a,y :: b=>if x < y then x :: mrgN n a (y :: b) else if y < x then y :: mrgN n (x :: a) b else x :: mrgN n a b
def mrg (a b:List Int):List Int:=mrgN (a.length + b.length) a b
theorem inc_unique:∀ {l m:List Int},Inc l → Inc m → (∀ x,x ∈ l ↔ x ∈ m) → l = m
 | [],[],_,_,_=>rfl
 | [],y :: m,_,_,h=>by have:=(h y).2 (List.mem_cons_self ..);simp at this
 | x :: l,[],_,_,h=>by have:=(h x).1 (List.mem_cons_self ..);simp at this
 | x :: l,y :: m,hl,hm,h=>by
  obtain ⟨h1,h2⟩:=List.pairwise_cons.1 hl
  obtain ⟨h3,h4⟩:=List.pairwise_cons.1 hm
  have hxy:x = y:=by
   rcases List.mem_cons.1 ((h x).1 (List.mem_cons_self ..)) with e | e
   ·exact e
   ·rcases List.mem_cons.1 ((h y).2 (List.mem_cons_self ..)) with e' | e'
    ·exact e'.symm
    ·have:=h1 y e';have:=h3 x e;omega
  subst hxy
  rw [inc_unique h2 h4 fun z=>?_]
  constructor
  ·intro hz
   rcases List.mem_cons.1 ((h z).1 (List.mem_cons_of_mem _ hz)) with e | e
   ·subst e;have:=h1 z hz;omega
   ·exact e
  ·intro hz
   rcases List.mem_cons.1 ((h z).2 (List.mem_cons_of_mem _ hz)) with e | e
   ·subst e;have:=h3 z hz;omega
   ·exact e
def evs (l:List Aut):List Int:=l.foldl (fun o a=>mrg o a.al) []
def rf (a:Aut) (s v:Int):Bool:=hasB a.al v && decide (nxt a s v < 0)
def mv (a:Aut) (s v:Int):Int:=if hasB a.al v = true then nxt a s v else s
def rngI (n:Int):List Int:=(List.range n.toNat).map (fun k:Nat=>(k:Int))
theorem rngI_mem {n x:Int}:x ∈ rngI n ↔ 0 ≤ x∧x < n:=by
 unfold rngI
 rw [List.mem_map]
 constructor
 ·rintro ⟨k,hk,rfl⟩;have:=List.mem_range.1 hk;omega
 ·intro h;exact ⟨x.toNat,List.mem_range.2 (by omega),by omega⟩
theorem rngI_len (n:Int):(rngI n).length = n.toNat:=by simp [rngI]
def box:List Aut → List (List Int)
 | []=>[[]]
 | a :: l=>(rngI a.st).flatMap (fun s=>(box l).map (fun t=>s :: t))
end Go.Proofs.Ytdnmpndnpfklcaa
/- Plain laws: the first fault of a list of automata; sizes. -/
namespace Go.Proofs.Ytdnmpndnpfklcaa
theorem inc_len {l:List Int} {n:Nat} (h:Inc l) (hr:∀ x ∈ l,0 ≤ x∧x < (n:Int)):l.length ≤ n:=by
 have hn:l.Nodup:=by
  unfold Inc at h
  exact h.imp fun {a b} hab=>by omega
 have:=nodup_le (m:=rngI n) hn (fun x hx=>rngI_mem.2 (hr x hx))
 rw [rngI_len] at this
 omega
theorem WF.al_le {a:Aut} (h:WF a):a.al.length ≤ 32:=inc_len (n:=32) h.inc h.rng
theorem WF.ev_rng {a:Aut} (h:WF a) {x:Ed} (hx:x ∈ a.ed):0 ≤ x.f∧x.f < a.st∧0 ≤ x.t∧x.t < a.st∧0 ≤ x.e∧x.e < 32:=by
 obtain ⟨h1,h2⟩:=h.erng x hx
 have:=h.rng _ (hasB_mem.1 h2)
 unfold edOut at h1
 omega
theorem WF.ed_le {a:Aut} (h:WF a):a.ed.length ≤ 131072:=by
 have hi:Inc (a.ed.map (fun x=>x.f * 32 + x.e)):=by
  unfold Inc
  rw [List.pairwise_map]
  refine h.einc.imp_of_mem fun {x y} hx hy hxy=>?_
  have h1:=h.ev_rng hx
  have h2:=h.ev_rng hy
  unfold edLt at hxy
  omega
 have:=inc_len (n:=131072) hi (fun z hz=>by
  obtain ⟨x,hx,rfl⟩:=List.mem_map.1 hz
  have h1:=h.ev_rng hx
  have:=h.st1
  omega)
 rwa [List.length_map] at this
end Go.Proofs.Ytdnmpndnpfklcaa
/- Plain laws: the automata of graphs (the statements' decoding); searches that go alike give the same automaton. -/
namespace Go.Proofs.Ytdnmpndnpfklcaa
end Go.Proofs.Ytdnmpndnpfklcaa
/- Plain laws: the key of a tuple tells it. -/
namespace Go.Proofs.Ytdnmpndnpfklcaa
open Go
end Go.Proofs.Ytdnmpndnpfklcaa
/- Plain laws: products of products; products that go alike. -/
namespace Go.Proofs.Ytdnmpndnpfklcaa
end Go.Proofs.Ytdnmpndnpfklcaa
/- Plain laws: products put together step by step, and in any order. -/
namespace Go.Proofs.Ytdnmpndnpfklcaa
end Go.Proofs.Ytdnmpndnpfklcaa
/- Plain laws: three in any order. -/
namespace Go.Proofs.Ytdnmpndnpfklcaa
end Go.Proofs.Ytdnmpndnpfklcaa
/- Plain laws: the chapter's first example. -/
namespace Go.Proofs.Ytdnmpndnpfklcaa
end Go.Proofs.Ytdnmpndnpfklcaa
/- Plain laws: a search by the edges of a state is the search by the alphabet (for automaton.canonical). -/
namespace Go.Proofs.Ytdnmpndnpfklcaa
section
variable {σ:Type} [DecidableEq σ] {C:Nat} {st:σ → Int → Option σ} {i:Nat} {t:σ}
theorem bsF_filter:∀ (V:List Int) (s:Bs σ),bsF C st i t V s = bsF C st i t (V.filter (fun v=>(st t v).isSome)) s
 | [],_=>rfl
 | v :: V,s=>by
  cases hv:st t v with
  | none =>
   rw [List.filter_cons_of_neg (by rw [hv];simp)]
   show (match bsE C st i t s v with | none=>none | some s'=>bsF C st i t V s') = _
   rw [bsE_none hv]
   exact bsF_filter V s
  | some x =>
   rw [List.filter_cons_of_pos (by rw [hv];rfl)]
   show (match bsE C st i t s v with | none=>none | some s'=>bsF C st i t V s') = (match bsE C st i t s v with | none=>none | some s'=>bsF C st i t (V.filter (fun v=>(st t v).isSome)) s')
   cases bsE C st i t s v with
   | none=>rfl
   | some s'=>exact bsF_filter V s'
end
def outE (a:Aut) (s:Int):List Ed:=a.ed.filter (fun x=>decide (x.f = s))
theorem outE_mem {a:Aut} {s:Int} {x:Ed}:x ∈ outE a s ↔ x ∈ a.ed∧x.f = s:=by unfold outE;simp
theorem out_evs {a:Aut} (h:WF a) (s:Int):a.al.filter (fun v=>(stA a s v).isSome) = (outE a s).map Ed.e:=by
 refine inc_unique (h.inc.filter _) ?_ fun v=>?_
 ·unfold outE Inc
  rw [List.pairwise_map]
  refine (h.einc.filter _).imp_of_mem fun {x y} hx hy hxy=>?_
  have h1:=(outE_mem.1 hx).2
  have h2:=(outE_mem.1 hy).2
  unfold edLt at hxy
  omega
 ·rw [List.mem_filter,List.mem_map]
  constructor
  ·rintro ⟨_,h2⟩
   unfold stA at h2
   split at h2
   ·simp at h2
   ·rename_i hn
    obtain ⟨x,hx,hf,he,_⟩:=nxtE_mem (s:=s) (v:=v) (l:=a.ed) (fun e=>hn (by show nxtE s v a.ed < 0;rw [e];omega))
    exact ⟨x,outE_mem.2 ⟨hx,hf⟩,he⟩
  ·rintro ⟨x,hx,rfl⟩
   obtain ⟨hx1,hf⟩:=outE_mem.1 hx
   subst hf
   have hr:=h.ev_rng hx1
   have hn:nxt a x.f x.e = x.t:=nxtE_of h.einc hx1 rfl rfl
   refine ⟨hasB_mem.1 ((h.erng x hx1).2),?_⟩
   unfold stA
   rw [hn,if_neg (by omega)]
   rfl
end Go.Proofs.Ytdnmpndnpfklcaa
/- Plain laws: words through automata (for automaton.follow, Generates, Accepts). -/
namespace Go.Proofs.Ytdnmpndnpfklcaa
end Go.Proofs.Ytdnmpndnpfklcaa
/- Plain laws: the language of a product (for ProductLanguages). -/
namespace Go.Proofs.Ytdnmpndnpfklcaa
end Go.Proofs.Ytdnmpndnpfklcaa
/- Plain laws: two sets merged by a choice (alphabet.Intersect, Minus, Subset). -/
namespace Go.Proofs.Ytdnmpndnpfklcaa
end Go.Proofs.Ytdnmpndnpfklcaa
/- Plain laws: what edges by some events connect with a set of states (controllable.closure; the law's reached). -/
namespace Go.Proofs.Ytdnmpndnpfklcaa
def eFr (back:Bool) (x:Ed):Int:=if back = true then x.t else x.f
def eTo (back:Bool) (x:Ed):Int:=if back = true then x.f else x.t
inductive Con (ed:List Ed) (V:List Int) (back:Bool) (set:List Int):Int → Prop where
 | base {s:Int}:s ∈ set → Con ed V back set s
 | step {x:Ed}:Con ed V back set (eFr back x) → x ∈ ed → hasB V x.e = true → Con ed V back set (eTo back x)
def fl (N:List Bool) (s:Int):Bool:=N.getD s.toNat false
def fset (N:List Bool) (s:Int):List Bool:=N.set s.toNat true
theorem fset_len (N:List Bool) (s:Int):(fset N s).length = N.length:=by unfold fset;rw [List.length_set]
theorem fl_set {N:List Bool} {s t:Int} (hs:0 ≤ s∧s < (N.length:Int)) (ht:0 ≤ t):fl (fset N s) t = (decide (t = s) || fl N t):=by
 unfold fl fset
 rw [List.getD_eq_getElem?_getD,List.getD_eq_getElem?_getD,List.getElem?_set]
 by_cases h:t = s
 ·subst h;rw [if_pos rfl,if_pos (by omega)];simp
 ·rw [if_neg (by omega)];simp [h]
theorem fl_get {N:List Bool} {s:Int} {q:Bool} (h:fl N s = q) (h0:0 ≤ s) (h1:s < (N.length:Int)):N[s.toNat]? = some q:=by
 unfold fl at h
 rw [List.getD_eq_getElem?_getD,List.getElem?_eq_getElem (by omega)] at h
 rw [List.getElem?_eq_getElem (by omega)]
 simpa using h
def cntF (N:List Bool):Nat:=N.countP (fun q=>!q)
theorem cntF_le (N:List Bool):cntF N ≤ N.length:=List.countP_le_length
theorem cntF_set:∀ {N:List Bool} {i:Nat},N[i]? = some false → cntF (N.set i true) + 1 = cntF N
 | [],i,h=>by simp at h
 | q :: N,0,h=>by
  simp at h;subst h
  unfold cntF;simp
 | q :: N,i + 1,h=>by
  have ih:=cntF_set (N:=N) (i:=i) (by simpa using h)
  unfold cntF at ih ⊢
  rw [List.set_cons_succ,List.countP_cons,List.countP_cons]
  omega
def onF (N:List Bool):List Int:=(rngI N.length).filter (fun s=>fl N s)
theorem onF_mem {N:List Bool} {s:Int}:s ∈ onF N ↔ (0 ≤ s∧s < (N.length:Int))∧fl N s = true:=by
 unfold onF;rw [List.mem_filter,rngI_mem]
theorem rng_inc (n:Int):Inc (rngI n):=by
 unfold rngI Inc
 rw [List.pairwise_map]
 exact List.pairwise_lt_range.imp fun {a b} h=>by omega
theorem onF_inc (N:List Bool):Inc (onF N):=(rng_inc _).filter _
theorem onF_snoc {N:List Bool} {k:Nat} {q:Bool} (h:N[k]? = some q):(rngI ((k:Int) + 1)).filter (fun s=>fl N s) = (rngI (k:Int)).filter (fun s=>fl N s) ++ (if q = true then [(k:Int)] else []):=by
 have e:rngI ((k:Int) + 1) = rngI (k:Int) ++ [(k:Int)]:=by
  unfold rngI
  rw [show ((k:Int) + 1).toNat = k + 1 by omega,show (k:Int).toNat = k by omega,List.range_succ,List.map_append];rfl
 have e2:fl N (k:Int) = q:=by unfold fl;rw [show (k:Int).toNat = k by omega,List.getD_eq_getElem?_getD,h];rfl
 rw [e,List.filter_append,List.filter_cons,e2]
 cases q <;> rfl
end Go.Proofs.Ytdnmpndnpfklcaa
