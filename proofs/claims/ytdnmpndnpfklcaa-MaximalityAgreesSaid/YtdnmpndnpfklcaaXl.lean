/- Verify's tables: how they are filled; the region that makes them. -/
import Derived.Test.YtdnmpndnpfklcaaXk
import Derived.Test.YtdnmpndnpfklcaaXi
namespace Go.Proofs.Ytdnmpndnpfklcaa
open Go.RowKit Go Go.Maps
section
variable {α β:Type} {k:β → Int} {v:β → α} {z:α} {n:Nat}
def tbF (k:β → Int) (v:β → α) (T:List α) (l:List β):List α:=l.foldl (fun T x=>T.set (k x).toNat (v x)) T
def tbS (k:β → Int) (v:β → α) (z:α) (n:Nat) (l:List β):List α:=tbF k v (List.replicate n z) l
theorem tbF_len:∀ (l:List β) (T:List α),(tbF k v T l).length = T.length
 | [],_=>rfl
 | x :: r,T=>by
  have:=tbF_len r (T.set (k x).toNat (v x))
  rw [List.length_set] at this
  exact this
theorem tbS_len (l:List β):(tbS k v z n l).length = n:=by unfold tbS;rw [tbF_len,List.length_replicate]
theorem tbF_other {s:Int} (h0:0 ≤ s):∀ (l:List β) (T:List α),(∀ y ∈ l,0 ≤ k y∧k y ≠ s) → (tbF k v T l)[s.toNat]? = T[s.toNat]?
 | [],_,_=>rfl
 | x :: r,T,h=>by
  have h1:=h x List.mem_cons_self
  have:=tbF_other h0 r (T.set (k x).toNat (v x)) (fun y hy=>h y (List.mem_cons_of_mem _ hy))
  rw [List.getElem?_set,if_neg (by omega)] at this
  exact this
theorem tbF_at:∀ (l:List β) (T:List α),l.Pairwise (fun a b=>k a < k b) → (∀ y ∈ l,0 ≤ k y∧k y < (T.length:Int)) → ∀ x ∈ l,(tbF k v T l)[(k x).toNat]? = some (v x)
 | [],_,_,_,x,hx=>by cases hx
 | y :: r,T,hp,hr,x,hx=>by
  have h1:=hr y List.mem_cons_self
  have h2:=List.pairwise_cons.1 hp
  rcases List.mem_cons.1 hx with rfl | hx
  ·have:=tbF_other (k:=k) (v:=v) h1.1 r (T.set (k x).toNat (v x)) (fun y hy=>by have:=hr y (List.mem_cons_of_mem _ hy);have:=h2.1 y hy;omega)
   rw [List.getElem?_set,if_pos rfl,if_pos (by omega)] at this
   exact this
  ·exact tbF_at r (T.set (k y).toNat (v y)) h2.2 (fun u hu=>by rw [List.length_set];exact hr u (List.mem_cons_of_mem _ hu)) x hx
theorem tbS_at {l:List β} (hp:l.Pairwise (fun a b=>k a < k b)) (hr:∀ y ∈ l,0 ≤ k y∧k y < (n:Int)) {x:β} (hx:x ∈ l):(tbS k v z n l)[(k x).toNat]? = some (v x) :=
 tbF_at l _ hp (fun y hy=>by rw [List.length_replicate];exact hr y hy) x hx
theorem tbS_snoc {l:List β} {j:Nat} {x:β} (h:l[j]? = some x):tbS k v z n (l.take (j + 1)) = (tbS k v z n (l.take j)).set (k x).toNat (v x):=by
 unfold tbS tbF
 rw [take_snoc' h,List.foldl_append]
 rfl
end
def dsTb (n:Nat) (l:List (Int × Int)):List Int:=tbS Prod.fst Prod.snd 0 n l
def rmTb (n:Nat) (l:List Rm):List Rm:=tbS Rm.s id ⟨0,0,0,0⟩ n l
theorem zip_at {l m:List Int} {i:Nat} {s d:Int} (h1:l[i]? = some s) (h2:m[i]? = some d):(l.zip m)[i]? = some (s,d):=by
 rw [List.getElem?_zip_eq_some]
 exact ⟨h1,h2⟩
theorem zip_inc:∀ {l m:List Int},Inc l → (l.zip m).Pairwise (fun a b=>a.1 < b.1)
 | [],_,_=>by rw [List.zip_nil_left];exact List.Pairwise.nil
 | _ :: _,[],_=>by rw [List.zip_nil_right];exact List.Pairwise.nil
 | x :: l,y :: m,h=>by
  rw [Inc,List.pairwise_cons] at h
  rw [List.zip_cons_cons,List.pairwise_cons]
  exact ⟨fun b hb=>h.1 b.1 (List.of_mem_zip (show (b.1,b.2) ∈ l.zip m from hb)).1,zip_inc h.2⟩
theorem tb_of {p:Mx} {c:Ce} {n:Nat} (hf:FOk p.a.st c) (hn:p.a.st = (n:Int)):Tb p c (inF n c.kp) (dsTb n (c.kp.zip c.ds)) (rmTb n c.rm):=by
 have hz:∀ y ∈ c.kp.zip c.ds,0 ≤ y.1∧y.1 < (n:Int):=fun y hy=>by
  have:=hf.krng y.1 (List.of_mem_zip (show (y.1,y.2) ∈ _ from hy)).1
  omega
 refine ⟨fun s h0 h1=>inF_fl (fun x hx=>by have:=hf.krng x hx;omega) (by omega),fun i s d h1 h2=>?_,fun r hr=>?_⟩
 ·have h3:=zip_at h1 h2
  have h4:=tbS_at (k:=Prod.fst) (v:=Prod.snd) (z:=(0:Int)) (n:=n) (zip_inc hf.kinc) hz (List.mem_of_getElem? h3)
  unfold gI
  rw [List.getD_eq_getElem?_getD]
  show Option.getD ((tbS Prod.fst Prod.snd 0 n (c.kp.zip c.ds))[s.toNat]?) 0 = d
  rw [h4];rfl
 ·have h4:=tbS_at (k:=Rm.s) (v:=id) (z:=(⟨0,0,0,0⟩:Rm)) (n:=n) hf.rinc (fun y hy=>by have:=hf.rrng y hy;omega) hr
  unfold gR
  rw [List.getD_eq_getElem?_getD]
  show Option.getD ((tbS Rm.s id ⟨0,0,0,0⟩ n c.rm)[r.s.toNat]?) _ = r
  rw [h4];rfl
theorem rm_zeros:∀ n:Nat,(List.replicate n (⟨0,0,0,0⟩:Rm)).flatMap rmc = List.replicate (n * 4) (.int .i64 0)
 | 0=>rfl
 | n + 1=>by
  rw [List.replicate_succ,List.flatMap_cons,rm_zeros n,show (n + 1) * 4 = 4 + n * 4 by omega,← List.replicate_append_replicate]
  rfl
theorem made_rms (n:Nat):madeCells #[.int .i64 0,.int .i64 0,.int .i64 0,.int .i64 0] (n * 4) = ((List.replicate n (⟨0,0,0,0⟩:Rm)).flatMap rmc).toArray:=by
 rw [rm_zeros]
 apply Array.ext_getElem?
 intro i
 unfold madeCells
 by_cases h:i < n * 4
 ·rw [Array.getElem?_map,Array.getElem?_range,if_pos h]
  rw [List.getElem?_toArray,List.getElem?_replicate,if_pos h]
  have:i % 4 < 4:=Nat.mod_lt _ (by omega)
  rcases (by omega:i % 4 = 0 ∨ i % 4 = 1 ∨ i % 4 = 2 ∨ i % 4 = 3) with e | e | e | e <;> simp [e]
 ·rw [Array.getElem?_map,Array.getElem?_range,if_neg h]
  rw [List.getElem?_toArray,List.getElem?_replicate,if_neg h]
  rfl
theorem run_make_rms (n:Nat) (hn:n ≤ 4096) (W:World):(Instr.makeSlice 36 (.int .i64 (n:Int)) (.int .i64 (n:Int))).run Try.prog W = .ok (.slice (some ⟨W.heap.size,0,none⟩) n n) (W.alloc (.cells (madeCells #[.int .i64 0,.int .i64 0,.int .i64 0,.int .i64 0] (n * 4)) 63)):=by
 obtain ⟨i,hi,hzz⟩:=Option.map_eq_some_iff.1 rm_info
 simp only [Prod.mk.injEq] at hzz
 obtain ⟨hz,hs,hb⟩:=hzz
 have h:=run_make (P:=Try.prog) W 36 63 i _ Try.underlying36 hi hz .i64 .i64 (n:Int) (n:Int) (by omega) (Int.le_refl _) (by rw [hb];omega) (by omega)
 rw [hs,Int.toNat_natCast] at h
 exact h
def z10c:List Value:=[.slice none 0 0,.int .i64 0,.slice none 0 0,.slice none 0 0,.slice none 0 0,.slice none 0 0,.slice none 0 0,.slice none 0 0,.slice none 0 0,.slice none 0 0]
structure VtG (w1:World) (F:FV) (c:Nat) (m1 m2 al st:Bool) (bx:Nat) (W:World):Prop where
 bel:Below w1.heap.size w1 W
 k:1 ≤ c → Blk W F.kb 4 (bvl F.K)
 m:2 ≤ c → Blk W F.mb 4 (bvl (inF F.n F.x.a.ma))
 f:3 ≤ c → Blk W F.fb 4 (bvl (inF F.n F.F))
 h:4 ≤ c → Blk W F.cb 4 (bvl (inF 32 F.U))
 d:m1 = true → Blk W F.db 3 (iv F.D)∧w1.heap.size ≤ F.db
 r:m2 = true → Blk W F.rb 63 (F.R.flatMap rmc)∧w1.heap.size ≤ F.rb
 b:al = true → Blk W bx 98 (if st = true then fvc F else z10c)∧w1.heap.size ≤ bx
section
variable {w1 W W':World} {F:FV} {c:Nat} {m1 m2 al st:Bool} {bx b:Nat}
theorem VtG.keep (h:VtG w1 F c m1 m2 al st bx W) (hb:Below W.heap.size W W'):VtG w1 F c m1 m2 al st bx W' :=
 ⟨h.bel.trans (hb.mono h.bel.size),fun g=>(h.k g).below hb (h.k g).lt,fun g=>(h.m g).below hb (h.m g).lt,fun g=>(h.f g).below hb (h.f g).lt,fun g=>(h.h g).below hb (h.h g).lt,fun g=>⟨(h.d g).1.below hb (h.d g).1.lt,(h.d g).2⟩,fun g=>⟨(h.r g).1.below hb (h.r g).1.lt,(h.r g).2⟩,fun g=>⟨(h.b g).1.below hb (h.b g).1.lt,(h.b g).2⟩⟩
theorem VtG.ck (h:VtG w1 F 0 m1 m2 al false bx W) (hb:Below W.heap.size W W') (hk:Blk W' b 4 (bvl F.K)):VtG w1 { F with kb:=b } 1 m1 m2 al false bx W':=by
 have g:=h.keep hb
 exact ⟨g.bel,fun _=>hk,fun e=>absurd e (by omega),fun e=>absurd e (by omega),fun e=>absurd e (by omega),g.d,g.r,fun e=>⟨(g.b e).1,(g.b e).2⟩⟩
theorem VtG.cm (h:VtG w1 F 1 m1 m2 al false bx W) (hb:Below W.heap.size W W') (hk:Blk W' b 4 (bvl (inF F.n F.x.a.ma))):VtG w1 { F with mb:=b } 2 m1 m2 al false bx W':=by
 have g:=h.keep hb
 exact ⟨g.bel,fun _=>g.k (by omega),fun _=>hk,fun e=>absurd e (by omega),fun e=>absurd e (by omega),g.d,g.r,fun e=>⟨(g.b e).1,(g.b e).2⟩⟩
theorem VtG.cf (h:VtG w1 F 2 m1 m2 al false bx W) (hb:Below W.heap.size W W') (hk:Blk W' b 4 (bvl (inF F.n F.F))):VtG w1 { F with fb:=b } 3 m1 m2 al false bx W':=by
 have g:=h.keep hb
 exact ⟨g.bel,fun _=>g.k (by omega),fun _=>g.m (by omega),fun _=>hk,fun e=>absurd e (by omega),g.d,g.r,fun e=>⟨(g.b e).1,(g.b e).2⟩⟩
theorem VtG.ch (h:VtG w1 F 3 m1 m2 al false bx W) (hb:Below W.heap.size W W') (hk:Blk W' b 4 (bvl (inF 32 F.U))):VtG w1 { F with cb:=b } 4 m1 m2 al false bx W':=by
 have g:=h.keep hb
 exact ⟨g.bel,fun _=>g.k (by omega),fun _=>g.m (by omega),fun _=>g.f (by omega),fun _=>hk,g.d,g.r,fun e=>⟨(g.b e).1,(g.b e).2⟩⟩
theorem VtG.md (h:VtG w1 F c false m2 al false bx W) (hb:Below W.heap.size W W') (hk:Blk W' b 3 (iv F.D)) (hl:w1.heap.size ≤ b):VtG w1 { F with db:=b } c true m2 al false bx W':=by
 have g:=h.keep hb
 exact ⟨g.bel,g.k,g.m,g.f,g.h,fun _=>⟨hk,hl⟩,g.r,fun e=>⟨(g.b e).1,(g.b e).2⟩⟩
theorem VtG.mr (h:VtG w1 F c m1 false al false bx W) (hb:Below W.heap.size W W') (hk:Blk W' b 63 (F.R.flatMap rmc)) (hl:w1.heap.size ≤ b):VtG w1 { F with rb:=b } c m1 true al false bx W':=by
 have g:=h.keep hb
 exact ⟨g.bel,g.k,g.m,g.f,g.h,g.d,fun _=>⟨hk,hl⟩,fun e=>⟨(g.b e).1,(g.b e).2⟩⟩
theorem VtG.box (h:VtG w1 F c m1 m2 false false bx W):VtG w1 F c m1 m2 true false W.heap.size (W.alloc (.cells z10c.toArray 98)):=by
 have g:=h.keep (box_below W (.cells z10c.toArray 98))
 exact ⟨g.bel,g.k,g.m,g.f,g.h,g.d,g.r,fun _=>⟨Blk.new _ _ _,h.bel.size⟩⟩
theorem VtG.put (h:VtG w1 F 4 true true true false bx W):VtG w1 F 4 true true true true bx (W.setCells bx 0 (fvc F))∧W.there bx 0 10:=by
 have hb:=(h.b rfl).1
 rw [if_neg (by decide)] at hb
 obtain ⟨k1,k2⟩:=hb.sets (fvc F) (o:=0) (by simp [z10c,fvc])
 have kp:∀ {b:Nat} {t:TypeId} {vs:List Value},Blk W b t vs → t ≠ 98 → Blk (W.setCells bx 0 (fvc F)) b t vs:=fun hk ht=>hk.kept k2 (fun e=>by injection e with e;exact blk_apart hk hb ht e)
 refine ⟨⟨h.bel.grown k2 h.bel.size (fun j e=>by injection e with e;subst e;exact (h.b rfl).2),fun g=>kp (h.k g) (by decide),fun g=>kp (h.m g) (by decide),fun g=>kp (h.f g) (by decide),fun g=>kp (h.h g) (by decide),fun g=>⟨kp (h.d g).1 (by decide),(h.d g).2⟩,fun g=>⟨kp (h.r g).1 (by decide),(h.r g).2⟩,fun _=>⟨?_,(h.b rfl).2⟩⟩,hb.there (o:=0) (n:=10) (by simp [z10c])⟩
 rw [if_pos rfl]
 exact k1
end
def VL (c:Nat) (m1 m2 al b st:Bool):Array Bool:=#[true,true,true,true,true,decide (1 ≤ c),true,true,m1,true,true,m2,true,true,true,true,decide (2 ≤ c),true,true,true,true,decide (3 ≤ c),true,decide (4 ≤ c),b,al,st]
def VR (c:Nat) (m1 m2 al b st:Bool):List Nat:=(if c = 0 then [5] else []) ++ (if m1 = false then [8] else []) ++ (if m2 = false then [11] else []) ++ (if c = 1 then [16] else []) ++ (if c = 2 then [21] else []) ++ (if c = 3 then [23] else []) ++ (if c = 4∧m1 = true∧m2 = true∧b = false then [24] else []) ++ (if al = false then [25] else []) ++ (if c = 4∧m1 = true∧m2 = true∧b = true∧al = true∧st = false then [26] else [])
theorem VR_mem {c:Nat} {m1 m2 al b st:Bool} {i:Nat} (h:i ∈ VR c m1 m2 al b st):(i = 5∧c = 0) ∨ (i = 8∧m1 = false) ∨ (i = 11∧m2 = false) ∨ (i = 16∧c = 1) ∨ (i = 21∧c = 2) ∨ (i = 23∧c = 3) ∨ (i = 24∧c = 4∧m1 = true∧m2 = true∧b = false) ∨ (i = 25∧al = false) ∨ (i = 26∧c = 4∧m1 = true∧m2 = true∧b = true∧al = true∧st = false):=by
 have hm:∀ (P:Prop) [Decidable P] (q:Nat),i ∈ (if P then [q] else []) → i = q∧P:=fun P _ q hq=>by
  split at hq
  ·rename_i hP;exact ⟨List.mem_singleton.1 hq,hP⟩
  ·cases hq
 unfold VR at h
 simp only [List.mem_append] at h
 rcases h with ((((((((h | h) | h) | h) | h) | h) | h) | h) | h) <;> have h:=hm _ _ h
 ·exact .inl h
 ·exact .inr (.inl h)
 ·exact .inr (.inr (.inl h))
 ·exact .inr (.inr (.inr (.inl h)))
 ·exact .inr (.inr (.inr (.inr (.inl h))))
 ·exact .inr (.inr (.inr (.inr (.inr (.inl h)))))
 ·exact .inr (.inr (.inr (.inr (.inr (.inr (.inl h))))))
 ·exact .inr (.inr (.inr (.inr (.inr (.inr (.inr (.inl h)))))))
 ·exact .inr (.inr (.inr (.inr (.inr (.inr (.inr (.inr h)))))))
theorem VR_nil {c:Nat} {m1 m2 al b st:Bool} (hc:c ≤ 4) (h:VR c m1 m2 al b st = []):c = 4∧m1 = true∧m2 = true∧al = true∧b = true∧st = true:=by
 have hn:∀ (P:Prop) [Decidable P] (q:Nat),(if P then [q] else []) = ([]:List Nat) → ¬ P:=fun P _ q hq hP=>by rw [if_pos hP] at hq;cases hq
 unfold VR at h
 simp only [List.append_eq_nil_iff] at h
 obtain ⟨⟨⟨⟨⟨⟨⟨⟨h1,h2⟩,h3⟩,h4⟩,h5⟩,h6⟩,h7⟩,h8⟩,h9⟩:=h
 have h1:=hn _ _ h1
 have h2:=hn _ _ h2
 have h3:=hn _ _ h3
 have h4:=hn _ _ h4
 have h5:=hn _ _ h5
 have h6:=hn _ _ h6
 have h7:=hn _ _ h7
 have h8:=hn _ _ h8
 have h9:=hn _ _ h9
 have hc4:c = 4:=by omega
 cases m1 <;> cases m2 <;> cases al <;> cases b <;> cases st <;> simp [hc4] at h2 h3 h7 h8 h9 ⊢
def put8n (a:Act) (v31 v34 v37 v42 v47 v49 v8 v50:Value):Act:={ a with tmps:=(((((((a.tmps.setIfInBounds 31 v31).setIfInBounds 34 v34).setIfInBounds 37 v37).setIfInBounds 42 v42).setIfInBounds 47 v47).setIfInBounds 49 v49).setIfInBounds 8 v8).setIfInBounds 50 v50 }
end Go.Proofs.Ytdnmpndnpfklcaa
