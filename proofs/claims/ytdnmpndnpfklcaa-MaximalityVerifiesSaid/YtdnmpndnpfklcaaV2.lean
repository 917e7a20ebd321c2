/- spoilt copies a certificate: three appends, a box, in any order. -/
import Derived.Test.YtdnmpndnpfklcaaV1
namespace Go.Proofs.Ytdnmpndnpfklcaa
open Go.RowKit Go Go.Maps
def put8z (a:Act) (s1 s2 s3 s4 s5 s6 s7 s8:Nat) (v1 v2 v3 v4 v5 v6 v7 v8:Value):Act:={ a with tmps:=((((((((a.tmps.toList.set s1 v1).set s2 v2).set s3 v3).set s4 v4).set s5 v5).set s6 v6).set s7 v7).set s8 v8).toArray }
theorem mem_if1 {c:Prop} [Decidable c] {i k:Nat} (h:i ∈ (if c then ([]:List Nat) else [k])):i = k∧¬ c:=by
 split at h
 ·cases h
 ·rename_i hc;exact ⟨List.mem_singleton.1 h,hc⟩
theorem mem_if2 {c:Prop} [Decidable c] {i k:Nat} (h:i ∈ (if c then [k] else ([]:List Nat))):i = k∧c:=by
 split at h
 ·rename_i hc;exact ⟨List.mem_singleton.1 h,hc⟩
 ·cases h
def R9 (d1 d2 d3 a1 a2 a3 u b s:Bool):List Nat:=(if d1 = true then [] else [0]) ++ (if d1 = true∧a1 = false then [3] else []) ++ (if d2 = true then [] else [4]) ++ (if d2 = true∧a1 = true∧a2 = false then [7] else []) ++ (if d3 = true then [] else [8]) ++ (if d3 = true∧a2 = true∧a3 = false then [11] else []) ++ (if a3 = true∧u = false then [12] else []) ++ (if b = true then [] else [13]) ++ (if u = true∧b = true∧s = false then [14] else [])
theorem R9_nil {d1 d2 d3 a1 a2 a3 u b s:Bool} (h:R9 d1 d2 d3 a1 a2 a3 u b s = []):d1 = true∧d2 = true∧d3 = true∧a1 = true∧a2 = true∧a3 = true∧u = true∧b = true∧s = true:=by
 unfold R9 at h
 simp only [List.append_eq_nil_iff] at h
 obtain ⟨⟨⟨⟨⟨⟨⟨⟨h1,h2⟩,h3⟩,h4⟩,h5⟩,h6⟩,h7⟩,h8⟩,h9⟩:=h
 obtain rfl:d1 = true:=by cases d1 with | true=>rfl | false=>simp at h1
 obtain rfl:d2 = true:=by cases d2 with | true=>rfl | false=>simp at h3
 obtain rfl:d3 = true:=by cases d3 with | true=>rfl | false=>simp at h5
 obtain rfl:b = true:=by cases b with | true=>rfl | false=>simp at h8
 obtain rfl:a1 = true:=by cases a1 with | true=>rfl | false=>simp at h2
 obtain rfl:a2 = true:=by cases a2 with | true=>rfl | false=>simp at h4
 obtain rfl:a3 = true:=by cases a3 with | true=>rfl | false=>simp at h6
 obtain rfl:u = true:=by cases u with | true=>rfl | false=>simp at h7
 obtain rfl:s = true:=by cases s with | true=>rfl | false=>simp at h9
 exact ⟨rfl,rfl,rfl,rfl,rfl,rfl,rfl,rfl,rfl⟩
theorem R9_mem {d1 d2 d3 a1 a2 a3 u b s:Bool} {i:Nat} (h:i ∈ R9 d1 d2 d3 a1 a2 a3 u b s):(i = 0∧¬ d1 = true) ∨ (i = 3∧d1 = true∧a1 = false) ∨ (i = 4∧¬ d2 = true) ∨ (i = 7∧d2 = true∧a1 = true∧a2 = false) ∨ (i = 8∧¬ d3 = true) ∨ (i = 11∧d3 = true∧a2 = true∧a3 = false) ∨ (i = 12∧a3 = true∧u = false) ∨ (i = 13∧¬ b = true) ∨ (i = 14∧u = true∧b = true∧s = false):=by
 unfold R9 at h
 simp only [List.mem_append] at h
 rcases h with ((((((((h | h) | h) | h) | h) | h) | h) | h) | h)
 ·exact .inl (mem_if1 h)
 ·exact .inr (.inl (mem_if2 h))
 ·exact .inr (.inr (.inl (mem_if1 h)))
 ·exact .inr (.inr (.inr (.inl (mem_if2 h))))
 ·exact .inr (.inr (.inr (.inr (.inl (mem_if1 h)))))
 ·exact .inr (.inr (.inr (.inr (.inr (.inl (mem_if2 h))))))
 ·exact .inr (.inr (.inr (.inr (.inr (.inr (.inl (mem_if2 h)))))))
 ·exact .inr (.inr (.inr (.inr (.inr (.inr (.inr (.inl (mem_if1 h))))))))
 ·exact .inr (.inr (.inr (.inr (.inr (.inr (.inr (.inr (mem_if2 h))))))))
theorem nine_true {d1 d2 d3 a1 a2 a3 u b s:Bool} (h:0 + d1.toNat + d2.toNat + d3.toNat + a1.toNat + a2.toNat + a3.toNat + u.toNat + b.toNat + s.toNat = 9):d1 = true∧d2 = true∧d3 = true∧a1 = true∧a2 = true∧a3 = true∧u = true∧b = true∧s = true:=by
 have k:∀ x:Bool,x.toNat ≤ 1:=fun x=>by cases x <;> decide
 have t:∀ x:Bool,x.toNat = 1 → x = true:=fun x=>by cases x <;> decide
 have k1:=k d1;have k2:=k d2;have k3:=k d3;have k4:=k a1;have k5:=k a2;have k6:=k a3;have k7:=k u;have k8:=k b;have k9:=k s
 exact ⟨t _ (by omega),t _ (by omega),t _ (by omega),t _ (by omega),t _ (by omega),t _ (by omega),t _ (by omega),t _ (by omega),t _ (by omega)⟩
def MtZ (W:World) (v:Value):Prop:=∃ g,v = .slice (some ⟨g,0,none⟩) 0 0∧g < W.heap.size
structure SpR (w3:World) (C:CV) (d1 d2 d3 a1 a2 a3 b s:Bool) (u1 u2 u3 v1 v2 v3:Value) (p:Nat) (W:World):Prop where
 bel:Below w3.heap.size w3 W
 e1:d1 = true → MtZ W u1
 e2:d2 = true → MtZ W u2
 e3:d3 = true → MtZ W u3
 k:a1 = true → RwZ W 3 1 w3.heap.size v1 C.k.n (iv C.k.l)
 d:a2 = true → RwZ W 3 1 w3.heap.size v2 C.d.n (iv C.d.l)
 r:a3 = true → RwZ W 63 4 w3.heap.size v3 C.rn (C.rm.flatMap rmc)
 m:b = true → Blk W p 38 [if s = true then v1 else .slice none 0 0,if s = true then v2 else .slice none 0 0,if s = true then v3 else .slice none 0 0]∧w3.heap.size ≤ p
theorem MtZ.below {W W':World} {v:Value} (h:MtZ W v) (hb:Below W.heap.size W W'):MtZ W' v:=by
 obtain ⟨g,h1,h2⟩:=h
 exact ⟨g,h1,Nat.lt_of_lt_of_le h2 hb.size⟩
section
variable {w3 W W':World} {C:CV} {d1 d2 d3 a1 a2 a3 b s:Bool} {u1 u2 u3 v1 v2 v3:Value} {p:Nat}
theorem SpR.mono (h:SpR w3 C d1 d2 d3 a1 a2 a3 b s u1 u2 u3 v1 v2 v3 p W) (hb:Below W.heap.size W W'):SpR w3 C d1 d2 d3 a1 a2 a3 b s u1 u2 u3 v1 v2 v3 p W' :=
 ⟨h.bel.trans (hb.mono h.bel.size),fun e=>(h.e1 e).below hb,fun e=>(h.e2 e).below hb,fun e=>(h.e3 e).below hb,fun e=>(h.k e).below hb,fun e=>(h.d e).below hb,fun e=>(h.r e).below hb,fun e=>⟨(h.m e).1.below hb (h.m e).1.lt,(h.m e).2⟩⟩
theorem SpR.mk1 (h:SpR w3 C d1 d2 d3 a1 a2 a3 b s u1 u2 u3 v1 v2 v3 p W):SpR w3 C true d2 d3 a1 a2 a3 b s (.slice (some ⟨W.heap.size,0,none⟩) 0 0) u2 u3 v1 v2 v3 p (W.alloc (.cells #[] 3)):=by
 have h2:=h.mono (box_below W (.cells #[] 3))
 exact ⟨h2.bel,fun _=>⟨_,rfl,by simp⟩,h2.e2,h2.e3,h2.k,h2.d,h2.r,h2.m⟩
theorem SpR.mk2 (h:SpR w3 C d1 d2 d3 a1 a2 a3 b s u1 u2 u3 v1 v2 v3 p W):SpR w3 C d1 true d3 a1 a2 a3 b s u1 (.slice (some ⟨W.heap.size,0,none⟩) 0 0) u3 v1 v2 v3 p (W.alloc (.cells #[] 3)):=by
 have h2:=h.mono (box_below W (.cells #[] 3))
 exact ⟨h2.bel,h2.e1,fun _=>⟨_,rfl,by simp⟩,h2.e3,h2.k,h2.d,h2.r,h2.m⟩
theorem SpR.mk3 (h:SpR w3 C d1 d2 d3 a1 a2 a3 b s u1 u2 u3 v1 v2 v3 p W):SpR w3 C d1 d2 true a1 a2 a3 b s u1 u2 (.slice (some ⟨W.heap.size,0,none⟩) 0 0) v1 v2 v3 p (W.alloc (.cells #[] 63)):=by
 have h2:=h.mono (box_below W (.cells #[] 63))
 exact ⟨h2.bel,h2.e1,h2.e2,fun _=>⟨_,rfl,by simp⟩,h2.k,h2.d,h2.r,h2.m⟩
theorem rwZ_of_cut {e:TypeId} {sz B m c' g:Nat} {A':Addr} {news:List Value} (hl:news.length = m * sz) (h1:0 + m ≤ c') (h2:c' ≤ 9223372036854775807) (h3:A'.block < W'.heap.size) (h5:0 < m → A' = ⟨W.heap.size,0,none⟩∧W'.ownsRow B e sz (.slice (some A') (0 + m) c') (0 + m) ([] ++ news)) (h6:m = 0 → A' = ⟨g,0,none⟩):RwZ W' e sz B (.slice (some A') m c') m news:=by
 rw [Nat.zero_add] at h1 h5
 rcases Nat.eq_zero_or_pos m with h0 | h0
 ·have:=h6 h0
  subst this
  exact ⟨g,c',rfl,h1,h2,h3,hl,fun h=>absurd h (by omega)⟩
 ·obtain ⟨e1,h7⟩:=h5 h0
  subst e1
  exact ⟨_,c',rfl,h1,h2,h3,hl,fun _=>h7⟩
theorem SpR.ap1 (h:SpR w3 C d1 d2 d3 a1 a2 a3 b s u1 u2 u3 v1 v2 v3 p W) (hs:s = false) (hb:Below W.heap.size W W') {v:Value} (hv:RwZ W' 3 1 w3.heap.size v C.k.n (iv C.k.l)):SpR w3 C d1 d2 d3 true a2 a3 b s u1 u2 u3 v v2 v3 p W':=by
 have h2:=h.mono hb
 subst hs
 exact ⟨h2.bel,h2.e1,h2.e2,h2.e3,fun _=>hv,h2.d,h2.r,h2.m⟩
theorem SpR.ap2 (h:SpR w3 C d1 d2 d3 a1 a2 a3 b s u1 u2 u3 v1 v2 v3 p W) (hs:s = false) (hb:Below W.heap.size W W') {v:Value} (hv:RwZ W' 3 1 w3.heap.size v C.d.n (iv C.d.l)):SpR w3 C d1 d2 d3 a1 true a3 b s u1 u2 u3 v1 v v3 p W':=by
 have h2:=h.mono hb
 subst hs
 exact ⟨h2.bel,h2.e1,h2.e2,h2.e3,h2.k,fun _=>hv,h2.r,h2.m⟩
theorem SpR.ap3 (h:SpR w3 C d1 d2 d3 a1 a2 a3 b s u1 u2 u3 v1 v2 v3 p W) (hs:s = false) (hb:Below W.heap.size W W') {v:Value} (hv:RwZ W' 63 4 w3.heap.size v C.rn (C.rm.flatMap rmc)):SpR w3 C d1 d2 d3 a1 a2 true b s u1 u2 u3 v1 v2 v p W':=by
 have h2:=h.mono hb
 subst hs
 exact ⟨h2.bel,h2.e1,h2.e2,h2.e3,h2.k,h2.d,fun _=>hv,h2.m⟩
theorem SpR.bx (h:SpR w3 C d1 d2 d3 a1 a2 a3 b s u1 u2 u3 v1 v2 v3 p W) (hs:s = false):SpR w3 C d1 d2 d3 a1 a2 a3 true s u1 u2 u3 v1 v2 v3 W.heap.size (W.alloc (.cells #[.slice none 0 0,.slice none 0 0,.slice none 0 0] 38)):=by
 have h2:=h.mono (box_below W (.cells #[.slice none 0 0,.slice none 0 0,.slice none 0 0] 38))
 subst hs
 exact ⟨h2.bel,h2.e1,h2.e2,h2.e3,h2.k,h2.d,h2.r,fun _=>⟨Blk.new W _ [.slice none 0 0,.slice none 0 0,.slice none 0 0],h.bel.size⟩⟩
theorem rwZ_kept {e t:TypeId} {sz B n q:Nat} {v:Value} {xs vs:List Value} (h:RwZ W e sz B v n xs) (hk:Blk W q t vs) (hne:e ≠ t) (hg:W.grownBy W' (some q)):RwZ W' e sz B v n xs:=by
 obtain ⟨g,c,h1,h2,h3,h4,h5,h6⟩:=h
 exact ⟨g,c,h1,h2,h3,Nat.lt_of_lt_of_le h4 hg.size,h5,fun h0=>(h6 h0).kept hg (own_ne_blk (h6 h0) hk hne)⟩
end
structure SpM (w3:World) (C:CV) (p:Nat) (v1 v2 v3:Value) (W:World):Prop where
 bel:Below w3.heap.size w3 W
 box:Blk W p 38 [v1,v2,v3]
 low:w3.heap.size ≤ p
 k:RwZ W 3 1 w3.heap.size v1 C.k.n (iv C.k.l)
 d:RwZ W 3 1 w3.heap.size v2 C.d.n (iv C.d.l)
 r:RwZ W 63 4 w3.heap.size v3 C.rn (C.rm.flatMap rmc)
theorem SpR.store {w3 W:World} {C:CV} {u1 u2 u3 v1 v2 v3:Value} {p:Nat} (h:SpR w3 C true true true true true true true false u1 u2 u3 v1 v2 v3 p W):SpR w3 C true true true true true true true true u1 u2 u3 v1 v2 v3 p (W.setCells p 0 [v1,v2,v3]):=by
 obtain ⟨hk,hp⟩:=h.m rfl
 have k1:=hk.sets [v1,v2,v3] (o:=0) (by simp)
 have hg:=k1.2
 exact ⟨h.bel.grown hg h.bel.size (fun j e=>by injection e with e;omega),fun _=>(by obtain ⟨g,h1,h2⟩:=h.e1 rfl;exact ⟨g,h1,Nat.lt_of_lt_of_le h2 hg.size⟩),fun _=>(by obtain ⟨g,h1,h2⟩:=h.e2 rfl;exact ⟨g,h1,Nat.lt_of_lt_of_le h2 hg.size⟩),fun _=>(by obtain ⟨g,h1,h2⟩:=h.e3 rfl;exact ⟨g,h1,Nat.lt_of_lt_of_le h2 hg.size⟩),fun _=>rwZ_kept (h.k rfl) hk (by decide) hg,fun _=>rwZ_kept (h.d rfl) hk (by decide) hg,fun _=>rwZ_kept (h.r rfl) hk (by decide) hg,fun _=>⟨k1.1,hp⟩⟩
theorem SpR.fin {w3 W:World} {C:CV} {u1 u2 u3 v1 v2 v3:Value} {p:Nat} (h:SpR w3 C true true true true true true true true u1 u2 u3 v1 v2 v3 p W):SpM w3 C p v1 v2 v3 W:=⟨h.bel,(h.m rfl).1,(h.m rfl).2,h.k rfl,h.d rfl,h.r rfl⟩
theorem rwZ_set {W:World} {B n:Nat} {v:Value} {l:List Int} (h:RwZ W 3 1 B v n (iv l)) (g j:Nat) (x:Int):∃ l',l'.length = l.length∧RwZ (W.setCell ⟨g,j,none⟩ (.int .i64 x)) 3 1 B v n (iv l'):=by
 obtain ⟨g0,c,rfl,h2,h3,h4,h5,h6⟩:=h
 have hg:=grown_setCell W g j (.int .i64 x)
 by_cases h0:0 < n
 ·by_cases hgg:g = g0
  ·subst hgg
   refine ⟨l.set j x,by simp,g,c,rfl,h2,h3,Nat.lt_of_lt_of_le h4 hg.size,by rw [iv_length] at h5 ⊢;simpa using h5,fun _=>?_⟩
   have:=((h6 h0).stored j (.int .i64 x)).1
   rwa [show (iv l).set j (.int .i64 x) = iv (l.set j x) by unfold iv;rw [List.map_set]] at this
  ·exact ⟨l,rfl,g0,c,rfl,h2,h3,Nat.lt_of_lt_of_le h4 hg.size,h5,fun _=>(h6 h0).kept hg (.inr (fun e=>hgg (by simp only [Value.ownBlock,Option.some.injEq] at e;exact e.symm)))⟩
 ·exact ⟨l,rfl,g0,c,rfl,h2,h3,Nat.lt_of_lt_of_le h4 hg.size,h5,fun h=>absurd h h0⟩
theorem rwZ_row {W W':World} {e e':TypeId} {sz sz' B B' n m:Nat} {v v':Value} {xs ys:List Value} (h:RwZ W e sz B v n xs) (h':W.ownsRow B' e' sz' v' m ys) (hne:e ≠ e') (hg:W.grownBy W' v'.ownBlock):RwZ W' e sz B v n xs:=by
 obtain ⟨g,c,h1,h2,h3,h4,h5,h6⟩:=h
 exact ⟨g,c,h1,h2,h3,Nat.lt_of_lt_of_le h4 hg.size,h5,fun h0=>own_kept_ne (h6 h0) h' hne hg⟩
theorem rm_set {q:Nat} (hq:q < 4) (x:Int):∀ (R:List Rm) (r:Nat),r < R.length → ∃ R':List Rm,R'.length = R.length∧(R.flatMap rmc).set (r * 4 + q) (.int .i64 x) = R'.flatMap rmc
 | [],r,h=>absurd h (Nat.not_lt_zero r)
 | y :: R,0,_=>by
  rw [List.flatMap_cons,Nat.zero_mul,Nat.zero_add]
  obtain ⟨ys,yk,yr,ye⟩:=y
  rcases (by omega:q = 0 ∨ q = 1 ∨ q = 2 ∨ q = 3) with rfl | rfl | rfl | rfl
  ·exact ⟨⟨x,yk,yr,ye⟩ :: R,rfl,by rw [List.flatMap_cons];rfl⟩
  ·exact ⟨⟨ys,x,yr,ye⟩ :: R,rfl,by rw [List.flatMap_cons];rfl⟩
  ·exact ⟨⟨ys,yk,x,ye⟩ :: R,rfl,by rw [List.flatMap_cons];rfl⟩
  ·exact ⟨⟨ys,yk,yr,x⟩ :: R,rfl,by rw [List.flatMap_cons];rfl⟩
 | y :: R,r + 1,h=>by
  obtain ⟨R',h1,h2⟩:=rm_set hq x R r (by simpa using h)
  refine ⟨y :: R',by simp [h1],?_⟩
  rw [List.flatMap_cons,List.flatMap_cons,← h2,List.set_append_right _ _ (by show 4 ≤ _;omega)]
  congr 2
  show (r + 1) * 4 + q - 4 = _
  omega
theorem RdR.k64rm {W W':World} {A:Option Addr} {l:List Rm} (h:RdR 4 rmc W W.heap.size A l) (hk:Keeps64 W W'):RdR 4 rmc W' W'.heap.size A l:=fun k x hx=>by
 obtain ⟨ad,h1,h2,h3⟩:=h k x hx
 refine ⟨ad,h1,Nat.lt_of_lt_of_le h2 hk.1,fun j u hj=>?_⟩
 have h4:=h3 j u hj
 have h5:∃ z,u = .int .i64 z:=by
  have:=List.mem_of_getElem? hj
  simp [rmc] at this
  rcases this with rfl | rfl | rfl | rfl <;> exact ⟨_,rfl⟩
 obtain ⟨z,rfl⟩:=h5
 exact hk.2 _ _ h4
theorem CV.ok.k64 {W W':World} {z:CV} (h:z.ok W W.heap.size) (hk:Keeps64 W W'):z.ok W' W'.heap.size :=
 ⟨⟨h.k.la,h.k.ac,h.k.cA,RdI.k64 h.k.ra hk⟩,⟨h.d.la,h.d.ac,h.d.cA,RdI.k64 h.d.ra hk⟩,h.rl,RdR.k64rm h.rr hk,h.r1,h.r2⟩
structure SpE (w3:World) (N R:Nat) (p:Nat) (W:World):Prop where
 bel:Below w3.heap.size w3 W
 out:∃ D:CV,Blk W p 38 (cvc D)∧D.ok W W.heap.size∧D.d.n = D.k.n∧D.k.n ≤ N∧D.rn ≤ R + 1
theorem spE_of {w3 W:World} {N R p n m c1 c2 c3:Nat} {A1 A2 A3:Option Addr} {l1 l2:List Int} {l3:List Rm} (hb:Below w3.heap.size w3 W) (hk:Blk W p 38 [.slice A1 n c1,.slice A2 n c2,.slice A3 m c3]) (e1:l1.length = n) (e2:l2.length = n) (e3:l3.length = m)
  (r1:RdI W W.heap.size A1 l1) (r2:RdI W W.heap.size A2 l2) (r3:RdR 4 rmc W W.heap.size A3 l3) (k1:n ≤ c1∧c1 ≤ 9223372036854775807) (k2:n ≤ c2∧c2 ≤ 9223372036854775807) (k3:m ≤ c3∧c3 ≤ 9223372036854775807) (hn:n ≤ N) (hm:m ≤ R + 1):SpE w3 N R p W :=
 ⟨hb,⟨⟨A1,n,c1,l1⟩,⟨A2,n,c2,l2⟩,A3,m,c3,l3⟩,hk,⟨⟨e1,k1.1,k1.2,r1⟩,⟨e2,k2.1,k2.2,r2⟩,e3,r3,k3.1,k3.2⟩,rfl,hn,hm⟩
theorem RwZ.cap {W:World} {e:TypeId} {sz B n c:Nat} {A:Option Addr} {xs:List Value} (h:RwZ W e sz B (.slice A n c) n xs):n ≤ c∧c ≤ 9223372036854775807:=by
 obtain ⟨g,c',h1,h2,h3,_⟩:=h
 injection h1 with _ _ h1
 subst h1
 exact ⟨h2,h3⟩
theorem SpM.wr {w3 W:World} {C:CV} {p gr cr r q:Nat} {v1 v2:Value} (h:SpM w3 C p v1 v2 (.slice (some ⟨gr,0,none⟩) C.rn cr) W) (hdn:C.d.n = C.k.n) (hkl:C.k.l.length = C.k.n) (hdl:C.d.l.length = C.d.n) (hrl:C.rm.length = C.rn) (ho:W.ownsRow w3.heap.size 63 4 (.slice (some ⟨gr,0,none⟩) C.rn cr) C.rn (C.rm.flatMap rmc)) (hr:r < C.rn) (hq:q < 4) (x:Int):SpE w3 C.k.n C.rn p (W.setCell ⟨gr,r * 4 + q,none⟩ (.int .i64 x)):=by
 obtain ⟨R',h1,h2⟩:=rm_set hq x C.rm r (by rw [hrl];exact hr)
 have hst:=ho.stored (r * 4 + q) (.int .i64 x)
 rw [h2] at hst
 obtain ⟨ho2,hg⟩:=hst
 have hk:=rwZ_row h.k ho (by decide) hg
 have hd:=rwZ_row h.d ho (by decide) hg
 have hb:=h.box.kept hg (blk_ne_own ho h.box (by decide))
 obtain ⟨gk,ck,rfl,a1,a2,_⟩:=h.k
 obtain ⟨gd,cd,rfl,b1,b2,_⟩:=h.d
 rw [hdn] at hb hd b1
 refine spE_of (l1:=C.k.l) (l2:=C.d.l) (l3:=R') (h.bel.grown hg h.bel.size (fun j e=>(ho.lt j e).1)) hb hkl (hdl.trans hdn) (h1.trans hrl) hk.rd hd.rd (RdR.of_own (by decide) (fun _ _=>rfl) ho2) ⟨a1,a2⟩ ⟨b1,b2⟩ h.r.cap (Nat.le_refl _) (Nat.le_succ _)
theorem SpM.wd {w3 W:World} {C:CV} {p gd cd:Nat} {v1 v3:Value} (h:SpM w3 C p v1 (.slice (some ⟨gd,0,none⟩) C.d.n cd) v3 W) (hdn:C.d.n = C.k.n) (hkl:C.k.l.length = C.k.n) (hdl:C.d.l.length = C.d.n) (hrl:C.rm.length = C.rn) (ho:W.ownsRow w3.heap.size 3 1 (.slice (some ⟨gd,0,none⟩) C.d.n cd) C.d.n (iv C.d.l)) (t:Nat) (x:Int):SpE w3 C.k.n C.rn p (W.setCell ⟨gd,t,none⟩ (.int .i64 x)):=by
 have hg:=(ho.stored t (.int .i64 x)).2
 obtain ⟨l1,e1,hk⟩:=rwZ_set h.k gd t x
 obtain ⟨l2,e2,hd⟩:=rwZ_set h.d gd t x
 have hr:=rwZ_row h.r ho (by decide) hg
 have hb:=h.box.kept hg (blk_ne_own ho h.box (by decide))
 obtain ⟨gk,ck,rfl,a1,a2,_⟩:=h.k
 obtain ⟨gr,cr,rfl,b1,b2,_⟩:=h.r
 have hdc:=h.d.cap
 rw [hdn] at hb hd hdc
 exact spE_of (l1:=l1) (l2:=l2) (l3:=C.rm) (h.bel.grown hg h.bel.size (fun j e=>(ho.lt j e).1)) hb (e1.trans hkl) (e2.trans (hdl.trans hdn)) hrl hk.rd hd.rd (rdR_of_rdV (sz:=4) (fun _=>rfl) (by decide) hr.rd) ⟨a1,a2⟩ hdc ⟨b1,b2⟩ (Nat.le_refl _) (Nat.le_succ _)
structure SpL (w3:World) (p:Nat) (A1 A2 A3:Addr) (n1 n2 m c1 c2 c3:Nat) (l1 l2:List Int) (l3:List Rm) (W:World):Prop where
 bel:Below w3.heap.size w3 W
 low:w3.heap.size ≤ p
 box:Blk W p 38 [.slice (some A1) n1 c1,.slice (some A2) n2 c2,.slice (some A3) m c3]
 e1:l1.length = n1
 e2:l2.length = n2
 e3:l3.length = m
 r1:RdV W W.heap.size (some A1) (iv l1)
 r2:RdV W W.heap.size (some A2) (iv l2)
 r3:RdV W W.heap.size (some A3) (l3.flatMap rmc)
 k1:n1 ≤ c1∧c1 ≤ 9223372036854775807
 k2:n2 ≤ c2∧c2 ≤ 9223372036854775807
 k3:m ≤ c3∧c3 ≤ 9223372036854775807
 b1:A1.block < W.heap.size
 b2:A2.block < W.heap.size
 b3:A3.block < W.heap.size
section
variable {w3 W W':World} {p:Nat} {A1 A2 A3:Addr} {n1 n2 m c1 c2 c3:Nat} {l1 l2:List Int} {l3:List Rm}
theorem SpL.below (h:SpL w3 p A1 A2 A3 n1 n2 m c1 c2 c3 l1 l2 l3 W) (hb:Below W.heap.size W W'):SpL w3 p A1 A2 A3 n1 n2 m c1 c2 c3 l1 l2 l3 W' :=
 ⟨h.bel.trans (hb.mono h.bel.size),h.low,h.box.below hb h.box.lt,h.e1,h.e2,h.e3,(h.r1.below hb).more hb.size,(h.r2.below hb).more hb.size,(h.r3.below hb).more hb.size,h.k1,h.k2,h.k3,Nat.lt_of_lt_of_le h.b1 hb.size,Nat.lt_of_lt_of_le h.b2 hb.size,Nat.lt_of_lt_of_le h.b3 hb.size⟩
theorem RdV.k64i {A:Option Addr} {l:List Int} (h:RdV W W.heap.size A (iv l)) (hk:Keeps64 W W'):RdV W' W'.heap.size A (iv l):=RdI.k64 h hk
theorem RdV.k64r {A:Option Addr} {l:List Rm} (h:RdV W W.heap.size A (l.flatMap rmc)) (hk:Keeps64 W W'):RdV W' W'.heap.size A (l.flatMap rmc):=rdV_of_rdR ((rdR_of_rdV (sz:=4) (fun _=>rfl) (by decide) h).k64rm hk)
theorem SpL.set (h:SpL w3 p A1 A2 A3 n1 n2 m c1 c2 c3 l1 l2 l3 W) (j:Nat) (v:Value):Keeps64 W (W.setCell ⟨p,j,none⟩ v)∧Below w3.heap.size w3 (W.setCell ⟨p,j,none⟩ v) :=
 ⟨keeps64_blk h.box (by intro v hv y e;subst e;simp at hv) (grown_setCell W p j v),h.bel.setCell (p:=⟨p,j,none⟩) h.low v⟩
theorem SpL.put0 (h:SpL w3 p A1 A2 A3 n1 n2 m c1 c2 c3 l1 l2 l3 W) {A:Addr} {n c:Nat} {l:List Int} (e:l.length = n) (r:RdV W W.heap.size (some A) (iv l)) (k:n ≤ c∧c ≤ 9223372036854775807) (b:A.block < W.heap.size):SpL w3 p A A2 A3 n n2 m c c2 c3 l l2 l3 (W.setCell ⟨p,0,none⟩ (.slice (some A) n c)):=by
 obtain ⟨hk,hb⟩:=h.set 0 (.slice (some A) n c)
 exact ⟨hb,h.low,h.box.set (j:=0) (by simp) _,e,h.e2,h.e3,r.k64i hk,h.r2.k64i hk,h.r3.k64r hk,k,h.k2,h.k3,Nat.lt_of_lt_of_le b hk.1,Nat.lt_of_lt_of_le h.b2 hk.1,Nat.lt_of_lt_of_le h.b3 hk.1⟩
theorem SpL.put1 (h:SpL w3 p A1 A2 A3 n1 n2 m c1 c2 c3 l1 l2 l3 W) {A:Addr} {n c:Nat} {l:List Int} (e:l.length = n) (r:RdV W W.heap.size (some A) (iv l)) (k:n ≤ c∧c ≤ 9223372036854775807) (b:A.block < W.heap.size):SpL w3 p A1 A A3 n1 n m c1 c c3 l1 l l3 (W.setCell ⟨p,1,none⟩ (.slice (some A) n c)):=by
 obtain ⟨hk,hb⟩:=h.set 1 (.slice (some A) n c)
 exact ⟨hb,h.low,h.box.set (j:=1) (by simp) _,h.e1,e,h.e3,h.r1.k64i hk,r.k64i hk,h.r3.k64r hk,h.k1,k,h.k3,Nat.lt_of_lt_of_le h.b1 hk.1,Nat.lt_of_lt_of_le b hk.1,Nat.lt_of_lt_of_le h.b3 hk.1⟩
theorem SpL.put2 (h:SpL w3 p A1 A2 A3 n1 n2 m c1 c2 c3 l1 l2 l3 W) {A:Addr} {n c:Nat} {l:List Rm} (e:l.length = n) (r:RdV W W.heap.size (some A) (l.flatMap rmc)) (k:n ≤ c∧c ≤ 9223372036854775807) (b:A.block < W.heap.size):SpL w3 p A1 A2 A n1 n2 n c1 c2 c l1 l2 l (W.setCell ⟨p,2,none⟩ (.slice (some A) n c)):=by
 obtain ⟨hk,hb⟩:=h.set 2 (.slice (some A) n c)
 exact ⟨hb,h.low,h.box.set (j:=2) (by simp) _,h.e1,h.e2,e,h.r1.k64i hk,h.r2.k64i hk,r.k64r hk,h.k1,h.k2,k,Nat.lt_of_lt_of_le h.b1 hk.1,Nat.lt_of_lt_of_le h.b2 hk.1,Nat.lt_of_lt_of_le b hk.1⟩
theorem SpL.fin {N R:Nat} (h:SpL w3 p A1 A2 A3 n1 n1 m c1 c2 c3 l1 l2 l3 W) (hn:n1 ≤ N) (hm:m ≤ R + 1):SpE w3 N R p W :=
 spE_of h.bel h.box h.e1 h.e2 h.e3 h.r1 h.r2 (rdR_of_rdV (sz:=4) (fun _=>rfl) (by decide) h.r3) h.k1 h.k2 h.k3 hn hm
end
theorem SpM.rd {w3 W:World} {C:CV} {p ck cd cr:Nat} {a1 a2 a3:Addr} (h:SpM w3 C p (.slice (some a1) C.k.n ck) (.slice (some a2) C.d.n cd) (.slice (some a3) C.rn cr) W) (hkl:C.k.l.length = C.k.n) (hdl:C.d.l.length = C.d.n) (hrl:C.rm.length = C.rn):SpL w3 p a1 a2 a3 C.k.n C.d.n C.rn ck cd cr C.k.l C.d.l C.rm W:=by
 have hb:∀ {e:TypeId} {sz B n c:Nat} {A:Addr} {xs:List Value},RwZ W e sz B (.slice (some A) n c) n xs → A.block < W.heap.size:=fun h=>by
  obtain ⟨g,c,e,_,_,hg,_⟩:=h
  injection e with e _ _
  injection e with e
  rw [e];exact hg
 exact ⟨h.bel,h.low,h.box,hkl,hdl,hrl,h.k.rd,h.d.rd,h.r.rd,h.k.cap,h.d.cap,h.r.cap,hb h.k,hb h.d,hb h.r⟩
theorem iv_flat (l:List Int):iv l = l.flatMap (fun x=>[Value.int .i64 x]):=by
 unfold iv
 induction l with
 | nil=>rfl
 | cons x l ih=>rw [List.map_cons,List.flatMap_cons,ih];rfl
theorem rdV_left {W:World} {B:Nat} {A:Option Addr} {xs ys:List Value} (h:RdV W B A (xs ++ ys)):RdV W B A xs:=fun k u hu=>h k u (by rw [List.getElem?_append_left (List.getElem?_eq_some_iff.1 hu).1];exact hu)
theorem rdV_right {W:World} {B:Nat} {a:Addr} {xs ys:List Value} (h:RdV W B (some a) (xs ++ ys)):RdV W B (some (a.add xs.length)) ys:=fun k u hu=>by
 obtain ⟨ad,e,hb,hc⟩:=h (xs.length + k) u (by rw [List.getElem?_append_right (by omega)];rw [show xs.length + k - xs.length = k by omega];exact hu)
 injection e with e
 subst e
 exact ⟨_,rfl,by rw [block_of_add];exact hb,by rw [add_of_add];exact hc⟩
theorem rdV_parts {α:Type} {f:α → List Value} {sz:Nat} (hf:∀ x,(f x).length = sz) {W:World} {B n c j:Nat} {a:Addr} {AX:Option Addr} {l:List α} (hl:l.length = n) (hj:j ≤ n) (hc:n ≤ c) (h:RdV W B (some a) (l.flatMap f)) (i q:Nat) (hq:q = j * sz) (hAX:(if c = j then some a else some (a.add q)) = AX):RdV W B (some a) ((l.take i).flatMap f)∧RdV W B AX ((l.drop j).flatMap f)∧((l.drop j).flatMap f).length = (n - j) * sz:=by
 have hlen:∀ m:List α,(m.flatMap f).length = m.length * sz:=fun m=>flat_len f sz m (fun y _=>hf y)
 refine ⟨?_,?_,by rw [hlen,List.length_drop,hl]⟩
 ·have h2:=h
  rw [← List.take_append_drop i l,List.flatMap_append] at h2
  exact rdV_left h2
 ·by_cases hcj:c = j
  ·have:l.drop j = []:=List.drop_eq_nil_of_le (by omega)
   rw [this]
   exact RdV.nil
  ·rw [if_neg hcj] at hAX
   subst hAX
   have h2:=h
   rw [← List.take_append_drop j l,List.flatMap_append] at h2
   have h3:=rdV_right h2
   rw [hlen,List.length_take,hl,Nat.min_eq_left hj,← hq] at h3
   exact h3
theorem rdV_partsI {W:World} {B n c j:Nat} {a:Addr} {AX:Option Addr} {l:List Int} (hl:l.length = n) (hj:j ≤ n) (hc:n ≤ c) (h:RdV W B (some a) (iv l)) (i:Nat) (hAX:(if c = j then some a else some (a.add j)) = AX):RdV W B (some a) (iv (l.take i))∧RdV W B AX (iv (l.drop j))∧(iv (l.drop j)).length = (n - j) * 1:=by
 rw [iv_flat] at h
 have:=rdV_parts (f:=fun x=>[Value.int .i64 x]) (sz:=1) (fun _=>rfl) hl hj hc h i j (by omega) hAX
 rw [← iv_flat,← iv_flat] at this
 exact this
theorem RdV.of_blk {W:World} {b:Nat} {t:TypeId} {vs:List Value} (h:Blk W b t vs):RdV W W.heap.size (some ⟨b,0,none⟩) vs:=fun k u hu=>⟨_,rfl,h.lt,by rw [add_lit0];exact h.cell hu⟩
def RetSp (N R:Nat) (w:World) (e:Ending) (w':World):Prop:=∃ D:CV,e = .returned (.agg (cvc D).toArray)∧D.ok w' w'.heap.size∧D.d.n = D.k.n∧D.k.n ≤ N∧D.rn ≤ R + 1∧Below w.heap.size w w'
theorem spE_end {w w3 W:World} {N R p:Nat} (h:SpE w3 N R p W) (ko:Blk W (w.heap.size + 1 + 1) 38 [.slice none 0 0,.slice none 0 0,.slice none 0 0]) (hB:Below w.heap.size w W):∃ (D:CV) (w6:World),W.setCells (w.heap.size + 1 + 1) 0 (#[.slice D.k.A D.k.n D.k.c,.slice D.d.A D.d.n D.d.c,.slice D.R D.rn D.rc]:Array Value).toList = w6∧(W.cell? ⟨p,0,none⟩ = some (.slice D.k.A D.k.n D.k.c)∧W.cell? ⟨p,1,none⟩ = some (.slice D.d.A D.d.n D.d.c)∧W.cell? ⟨p,2,none⟩ = some (.slice D.R D.rn D.rc))∧W.there (w.heap.size + 1 + 1) 0 3∧(w6.cell? ⟨w.heap.size + 1 + 1,0,none⟩ = some (.slice D.k.A D.k.n D.k.c)∧w6.cell? ⟨w.heap.size + 1 + 1,1,none⟩ = some (.slice D.d.A D.d.n D.d.c)∧w6.cell? ⟨w.heap.size + 1 + 1,2,none⟩ = some (.slice D.R D.rn D.rc))∧RetSp N R w (.returned (.agg #[.slice D.k.A D.k.n D.k.c,.slice D.d.A D.d.n D.d.c,.slice D.R D.rn D.rc])) w6:=by
 obtain ⟨D,hbx,hdo,hd1,hd2,hd3⟩:=h.out
 unfold cvc at hbx
 have k1:=ko.sets [.slice D.k.A D.k.n D.k.c,.slice D.d.A D.d.n D.d.c,.slice D.R D.rn D.rc] (o:=0) (by simp)
 have h64:=keeps64_blk ko (by intro v hv y e;subst e;simp at hv) k1.2
 refine ⟨D,W.setCells (w.heap.size + 1 + 1) 0 [.slice D.k.A D.k.n D.k.c,.slice D.d.A D.d.n D.d.c,.slice D.R D.rn D.rc],rfl,Blk.c3 hbx,ko.there (o:=0) (n:=3) (by simp),Blk.c3 k1.1,D,rfl,hdo.k64 h64,hd1,hd2,hd3,hB.grown k1.2 hB.size (fun j e=>by injection e with e;omega)⟩
theorem cert_size:(Try.prog.info? 38).map (·.size) = some 3:=by kernel_rfl
end Go.Proofs.Ytdnmpndnpfklcaa
