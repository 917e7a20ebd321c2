/- Walks: slices.Contains at truth values, the law's ranks (seat Z). -/
import Derived.Test.YtddhaidimadliaaGreatKs
import Derived.Test.YtddhaidimadliaaGreatJp
import Derived.Test.YtddhaidimadliaaGreatKh
import Derived.Test.YtddhaidimadliaaGreatJt
import Derived.Test.YtddhaidimadliaaGreatJv
import Derived.Test.YtddhaidimadliaaGreatKb
namespace Go.Proofs.YtddhaidimadliaaGreat
open Go.RowKit Go
theorem take_no {N:List Bool} {k:Nat} (h:N[k]? = some false) (hn:true ∉ N.take k):true ∉ N.take (k + 1):=by
 rw [List.take_add_one,h]
 intro hm
 rcases List.mem_append.1 hm with h1 | h1
 ·exact hn h1
 ·simp at h1
set_option maxHeartbeats 800000 in
theorem bools_Index (ob n:Nat) (N:List Bool) (w:World) (hl:N.length = n) (hk:Blk w ob 4 (bvl N)) (hn:n ≤ 1000000) :
  Calls Tryz.prog 52 #[.slice (some ⟨ob,0,none⟩) n n,.bool true] w fun e w'=>∃ r:Int,e = .returned (.int .i64 r)∧decide (0 ≤ r) = N.any id∧w = w':=by
 have HL:=Lib.hid hl
 have HK:=Lib.hid hk
 clear hk hl
 go_enter Tryz.func52,Tryz.ntmps52
 go_wp2
 go_loop [8] (fun i=>∃ k:Nat,k ≤ n∧i = .int .i64 k∧Hid (true ∉ N.take k)) (fun i=>n - (intOf i).toNat)
 case atStart=>exact ⟨0,Nat.zero_le _,rfl,Lib.hid (by simp)⟩
 case round =>
  obtain ⟨k,hk,rfl,HN⟩:=hrel
  by_cases hlt:k < n
  ·obtain ⟨q,hq⟩:∃ q,N[k]? = some q:=⟨_,List.getElem?_eq_getElem (by rw [HL.out];exact hlt)⟩
   have c0:w.cell? ⟨ob,k,none⟩ = some (.bool q):=HK.out.cell (by rw [bvl_get,hq];rfl)
   have b1:(k:Int) < (n:Int):=by omega
   have HQ:=Lib.hid hq
   clear hq
   cases q with
   | true =>
    have HR:=Lib.hid (show decide (0 ≤ (k:Int)) = N.any id by rw [decide_eq_true (by omega),List.any_eq_true.2 ⟨true,List.mem_of_getElem? HQ.out,rfl⟩])
    go_wp2
    go_ret
    exact ⟨_,rfl,HR.out,rfl⟩
   | false =>
    have HN2:=Lib.hid (take_no HQ.out HN.out)
    go_wp2
    go_round
    case rel=>exact ⟨k + 1,by omega,by go_num,HN2⟩
    case measure=>simp [intOf];omega
  ·obtain rfl:k = n:=by omega
   have b1:¬ (k:Int) < (k:Int):=by omega
   have HR:=Lib.hid (show decide (0 ≤ (-1:Int)) = N.any id by
    have h9:=HN.out
    rw [List.take_of_length_le (by rw [HL.out];exact Nat.le_refl _)] at h9
    cases ha:N.any id with
    | false=>rfl
    | true =>
     obtain ⟨x,hx,hx2⟩:=List.any_eq_true.1 ha
     cases x with
     | true=>exact absurd hx h9
     | false=>simp at hx2)
   go_wp2
   go_ret
   exact ⟨_,rfl,HR.out,rfl⟩
theorem bools_Contains (ob n:Nat) (N:List Bool) (w:World) (hl:N.length = n) (hk:Blk w ob 4 (bvl N)) (hn:n ≤ 1000000) :
  Calls Tryz.prog 32 #[.slice (some ⟨ob,0,none⟩) n n,.bool true] w fun e w'=>e = .returned (.bool (N.any id))∧w = w':=by
 have HI:=Lib.hid (bools_Index ob n N w hl hk hn)
 clear hk hl
 go_enter Tryz.func32,Tryz.ntmps32
 go_wp2_with fail
 refine HI.out.mono ?_
 rintro e w' ⟨r,rfl,hr,rfl⟩
 have HR:=Lib.hid hr
 clear hr
 go_wp2
 go_ret
 exact ⟨ret_bool HR.out,rfl⟩
theorem hasB_any (N:List Bool):hasB (N.map fun b=>if b then (1:Int) else 0) 1 = N.any id:=by
 rw [Bool.eq_iff_iff,hasB_mem,List.mem_map,List.any_eq_true]
 constructor
 ·rintro ⟨b,hb,he⟩
  cases b with
  | true=>exact ⟨true,hb,rfl⟩
  | false=>simp at he
 ·rintro ⟨b,hb,he⟩
  cases b with
  | true=>exact ⟨true,hb,rfl⟩
  | false=>simp at he
def bm0P (n:Nat) (fa:Nat → Bool) (k:Nat):List Int:=(List.range n).map fun j=>if j < k then (if fa j = true then 0 else -1) else 0
theorem bm0P_len (n:Nat) (fa:Nat → Bool) (k:Nat):(bm0P n fa k).length = n:=by simp [bm0P]
theorem bm0P_at {n:Nat} {fa:Nat → Bool} {k j:Nat} (hj:j < n):(bm0P n fa k)[j]? = some (if j < k then (if fa j = true then 0 else -1) else 0):=by
 unfold bm0P
 rw [List.getElem?_map,List.getElem?_range hj]
 rfl
theorem bm0P_zero (n:Nat) (fa:Nat → Bool):bm0P n fa 0 = List.replicate n 0:=by
 unfold bm0P
 simp only [Nat.not_lt_zero,if_false]
 rw [List.map_const',List.length_range]
theorem bm0P_all (n:Nat) (fa:Nat → Bool):bm0P n fa n = bm0 n fa:=by
 unfold bm0P bm0
 apply List.map_congr_left
 intro i hi
 rw [if_pos (List.mem_range.1 hi)]
theorem bm0P_yes {n:Nat} {fa:Nat → Bool} {k:Nat} (hf:fa k = true):bm0P n fa (k + 1) = bm0P n fa k:=by
 unfold bm0P
 apply List.map_congr_left
 intro j _
 by_cases h1:j < k
 ·rw [if_pos h1,if_pos (show j < k + 1 by omega)]
 ·rw [if_neg h1]
  by_cases h2:j < k + 1
  ·obtain rfl:j = k:=by omega
   rw [if_pos h2,if_pos hf]
  ·rw [if_neg h2]
theorem bm0P_no {n:Nat} {fa:Nat → Bool} {k:Nat} (hk:k < n) (hf:fa k = false):(bm0P n fa k).set k (-1) = bm0P n fa (k + 1):=by
 apply List.ext_getElem?
 intro j
 rw [List.getElem?_set]
 by_cases hij:k = j
 ·subst hij
  rw [if_pos rfl,if_pos (by rw [bm0P_len];exact hk),bm0P_at hk,if_pos (show k < k + 1 by omega),if_neg (by rw [hf];simp)]
 ·rw [if_neg hij]
  rcases Nat.lt_or_ge j n with hj | hj
  ·rw [bm0P_at hj,bm0P_at hj]
   by_cases h1:j < k
   ·rw [if_pos h1,if_pos (show j < k + 1 by omega)]
   ·rw [if_neg h1,if_neg (show ¬ j < k + 1 by omega)]
  ·rw [List.getElem?_eq_none (by rw [bm0P_len];exact hj),List.getElem?_eq_none (by rw [bm0P_len];exact hj)]
theorem bmN_succ {es:List Ed} {w:Ed → Int} {fa:Nat → Bool}:∀ (k:Nat) (out:List Int),bmN es w fa (k + 1) out = bmP w fa es (bmN es w fa k out)
 | 0,out=>rfl
 | k + 1,out=>by
  show bmN es w fa (k + 1) (bmP w fa es out) = bmP w fa es (bmN es w fa k (bmP w fa es out))
  exact bmN_succ k (bmP w fa es out)
theorem bmP_at {es:List Ed} {w:Ed → Int} {fa:Nat → Bool} {out:List Int} {j:Nat} {x:Ed} (h:es[j]? = some x):bmP w fa (es.take (j + 1)) out = bmX w fa (bmP w fa (es.take j) out) x:=by
 unfold bmP
 rw [List.take_add_one,h,List.foldl_append]
 rfl
structure BmB (n b:Nat) (out:List Int):Prop where
 len:out.length = n
 rng:∀ j:Nat,j < n → -1 ≤ gI out (j:Int)∧gI out (j:Int) ≤ (b:Int)
theorem BmB.mono {n b b':Nat} {out:List Int} (h:BmB n b out) (hb:b ≤ b'):BmB n b' out:=⟨h.len,fun j hj=>by have:=h.rng j hj;omega⟩
theorem gI_nat {l:List Int} {j:Nat} {v:Int} (h:l[j]? = some v):gI l (j:Int) = v:=by
 unfold gI
 rw [Int.toNat_natCast,List.getD_eq_getElem?_getD,h]
 rfl
theorem BmB.zero (n:Nat) (fa:Nat → Bool):BmB n 0 (bm0 n fa):=by
 refine ⟨by rw [← bm0P_all,bm0P_len],fun j hj=>?_⟩
 have:=bm0P_at (fa:=fa) (k:=n) hj
 rw [bm0P_all,if_pos hj] at this
 rw [gI_nat this]
 split <;> omega
theorem twW_01 (x:Ed):twW x = 0 ∨ twW x = 1:=by unfold twW;split <;> simp
theorem BmB.set {n b:Nat} {out:List Int} (h:BmB n b out) {f t:Nat} (hf:f < n) (ht:t < n) {u:Int} (hu:u = 0 ∨ u = 1):BmB n (b + 1) (out.set f (max (gI out (f:Int)) (gI out (t:Int) + u))):=by
 have h1:=h.rng f hf
 have h2:=h.rng t ht
 refine ⟨by rw [List.length_set];exact h.len,fun j hj=>?_⟩
 have hs:=gI_set (l:=out) (i:=(f:Int)) (j:=(j:Int)) (v:=max (gI out (f:Int)) (gI out (t:Int) + u)) (by omega) (by rw [h.len];omega) (by omega)
 rw [Int.toNat_natCast] at hs
 rw [hs]
 have h3:=h.rng j hj
 split <;> omega
theorem bmX_yes {w:Ed → Int} {fa:Nat → Bool} {out:List Int} {f t:Nat} {e:Int} (h:fa f = true):bmX w fa out ⟨(f:Int),e,(t:Int)⟩ = out.set f (max (gI out (f:Int)) (gI out (t:Int) + w ⟨(f:Int),e,(t:Int)⟩)):=by
 unfold bmX
 dsimp only
 rw [Int.toNat_natCast,if_pos h]
theorem bmX_no {w:Ed → Int} {fa:Nat → Bool} {out:List Int} {f t:Nat} {e:Int} (h:fa f = false):bmX w fa out ⟨(f:Int),e,(t:Int)⟩ = out:=by
 unfold bmX
 dsimp only
 rw [Int.toNat_natCast,if_neg (by rw [h];simp)]
def RetLR (R:Bs TwS) (w:World) (e:Ending) (w':World):Prop :=
 ((lawS R = none∧e = .returned (.tuple #[.slice none 0 0,.int .i64 0,.bool false])) ∨ ∃ (v:Value) (r:List Int) (b:Int),lawS R = some (r,b)∧e = .returned (.tuple #[v,.int .i64 b,.bool true])∧w'.ownsRow w.heap.size 3 1 v r.length (iv r))∧Below w.heap.size w w'
set_option maxRecDepth 100000 in
set_option maxHeartbeats 6400000 in
theorem law_ranks41 (z:DV) (c:Int) (w:World) (h:z.ok w w.heap.size) (hd:dmE z = 0) (hs:z.x.a.st ≤ 40) (R:Bs TwS) (hR:twin z.m c = some R) (hed:EdR R.ts.length R.es) :
  Calls Tryz.prog 11 #[.agg (dvc z).toArray,.int .i64 c] w (RetLR R w):=by
 obtain ⟨⟨A,na,ca,M,nm,cm,E,ne,ce,a⟩,V,nv,cv,l⟩:=z
 have hb1:=box_below w (.cells #[.slice A na ca,.int .i64 a.st,.slice M nm cm,.slice E ne ce,.slice V nv cv] 37)
 obtain ⟨w1,hw1⟩:∃ w1,w1 = w.alloc (.cells #[.slice A na ca,.int .i64 a.st,.slice M nm cm,.slice E ne ce,.slice V nv cv] 37):=⟨_,rfl⟩
 have kx:Blk w1 w.heap.size 37 [.slice A na ca,.int .i64 a.st,.slice M nm cm,.slice E ne ce,.slice V nv cv]:=by rw [hw1];exact Blk.new _ _ [_,_,_,_,_]
 rw [← hw1] at hb1
 have HK:=Lib.hid (fun (W:World) (hb:Below w1.heap.size w1 W)=>kx.below hb kx.lt)
 have HOK:=Lib.hid (fun (W:World) (hb:Below w1.heap.size w1 W)=>(h.below (hb1.trans (hb.mono hb1.size))).more (hb1.trans (hb.mono hb1.size)).size)
 have HBL:=Lib.hid (fun (W:World) (hb:Below w1.heap.size w1 W)=>hb1.trans (hb.mono hb1.size))
 have hs1:=hb1.size
 have lx:=kx.lt
 have HC:=Lib.hid (law_twin41 _ c w1 (HOK.out w1 (Below.refl _ _)) hd hs R hR)
 have HED:=Lib.hid hed
 unfold dvc at HC ⊢
 dsimp only at HC ⊢
 obtain ⟨sv,hsv⟩:∃ s,a.st = s:=⟨_,rfl⟩
 rw [hsv] at hw1 HK HC ⊢
 obtain ⟨a0,a1,a2,a3,a4⟩:=Blk.c5 (HK.out w1 (Below.refl _ _))
 have HW1:=Lib.hid hw1;clear hw1
 clear hsv kx hb1 h hed hR hd hs
 go_enter Tryz.func11,Tryz.ntmps11
 go_upto_region 1 with fail
 rw [← HW1.out]
 go_wp2_with fail
 refine HC.out.mono ?_
 rintro _ w2 ⟨A1,A2,n,c1,m,c2,rfl,hl1,hl2,hn4,hm2,ho1,ho2,hb2⟩
 have HB2:=Lib.hid hb2
 have HR1:=Lib.hid (fun (W:World) (hb:Below w2.heap.size w2 W)=>(show RdR 3 prC W W.heap.size A1 R.ts from ((RdR.of_own (f:=prC) (by omega) (fun _ _=>rfl) ho1).below hb).more hb.size))
 have HR2:=Lib.hid (fun (W:World) (hb:Below w2.heap.size w2 W)=>(show RdR 4 mvc W W.heap.size A2 R.es from ((RdR.of_own (f:=mvc) (by omega) (fun _ _=>rfl) ho2).below hb).more hb.size))
 have HL1:=Lib.hid hl1
 have HL2:=Lib.hid hl2
 have HBL2:=Lib.hid (fun (W:World) (hb:Below w2.heap.size w2 W)=>HBL.out W (HB2.out.trans (hb.mono HB2.out.size)))
 have hs2:w.heap.size ≤ w2.heap.size:=Nat.le_trans hs1 HB2.out.size
 have HO0:=Lib.hid (World.ownsRow_nil w2 w2.heap.size 85 2)
 clear a0 a1 a2 a3 a4 HC hb2 ho1 ho2 hl1 hl2 HK HOK
 obtain ⟨fa,hfa⟩:∃ fa,twF R = fa:=⟨_,rfl⟩
 have HFA:=Lib.hid hfa
 clear hfa
 go_upto_region 4 with fail
 go_loopw [9,11,29] (fun s9 s11 s29 wr=>∃ (k q:Nat) (v9 v11:Value),v9 = s9∧s11 = v11∧s29 = .int .i64 k∧k ≤ m∧q ≤ k∧Hid ((arcP (R.es.take k) fun x=>twF R x.f.toNat).length = q)∧Hid (wr.ownsRow w2.heap.size 85 2 v9 q ((arcP (R.es.take k) fun x=>twF R x.f.toNat).flatMap arcC))∧Hid (Below w2.heap.size w2 wr)) (fun _ _ s29 _=>m - (intOf s29).toNat)
 case atStart=>exact ⟨0,0,_,_,rfl,rfl,rfl,Nat.zero_le _,Nat.le_refl _,Lib.hid rfl,HO0,Lib.hid (Below.refl _ _)⟩
 case round =>
  clear HO0
  obtain ⟨k,q,v9,v11,rfl,rfl,rfl,hk,hqk,HQ,HO,HB⟩:=hrel
  by_cases hkm:k < m
  ·skip
   obtain ⟨x,hx⟩:∃ x,R.es[k]? = some x:=⟨_,List.getElem?_eq_getElem (by rw [HL2.out];exact hkm)⟩
   obtain ⟨hfr,hto⟩:=HED.out x (List.mem_of_getElem? hx)
   have HXE:=Lib.hid hx
   obtain ⟨md,hmd⟩:=rdR_some (HR2.out wr HB.out) hx
   subst hmd
   obtain ⟨hmb,g0,g1,g2,g3⟩:=mvR_cells (HR2.out wr HB.out) hx
   obtain ⟨xf,xe,xt⟩:=x
   dsimp only at hfr hto g0 g1 g2 g3
   obtain ⟨f,rfl⟩:∃ f:Nat,xf = (f:Int):=⟨xf.toNat,by omega⟩
   obtain ⟨t,rfl⟩:∃ f:Nat,xt = (f:Int):=⟨xt.toNat,by omega⟩
   have hfn:f < n:=by rw [← HL1.out];omega
   have htn:t < n:=by rw [← HL1.out];omega
   obtain ⟨q3,hq3⟩:∃ q,xe / 3 = q:=⟨_,rfl⟩
   obtain ⟨r3,hr3⟩:∃ q,xe % 3 = q:=⟨_,rfl⟩
   rw [hq3] at g1
   rw [hr3] at g2
   have HR3:=Lib.hid hr3
   obtain ⟨pf,hpf⟩:∃ p,R.ts[f]? = some p:=⟨_,List.getElem?_eq_getElem (by rw [HL1.out];exact hfn)⟩
   obtain ⟨pt,hpt⟩:∃ p,R.ts[t]? = some p:=⟨_,List.getElem?_eq_getElem (by rw [HL1.out];exact htn)⟩
   have HPF:=Lib.hid (twF_at hpf)
   have HPT:=Lib.hid (twF_at hpt)
   obtain ⟨pd,hpd⟩:=rdR_some (HR1.out wr HB.out) hpf
   subst hpd
   have HPC:=Lib.hid (fun (W:World) (hb:Below w2.heap.size w2 W)=>(show W.cell? ⟨(pd.add (f * 3)).block,(pd.add (f * 3)).off + 1,none⟩ = some (.bool pf.2.1)∧W.cell? ⟨(pd.add (t * 3)).block,(pd.add (t * 3)).off + 1,none⟩ = some (.bool pt.2.1) from ⟨(prR_cells (HR1.out W hb) hpf).2.2.1,(prR_cells (HR1.out W hb) hpt).2.2.1⟩))
   obtain ⟨fb,hfb⟩:∃ b,pf.2.1 = b:=⟨_,rfl⟩
   obtain ⟨tb,htb⟩:∃ b,pt.2.1 = b:=⟨_,rfl⟩
   rw [hfb] at HPC HPF
   rw [htb] at HPC HPT
   have hbx:=box_below wr (.cells #[.int .i64 (f:Int),.int .i64 q3,.int .i64 r3,.int .i64 (t:Int)] 91)
   have kx:Blk (wr.alloc (.cells #[.int .i64 (f:Int),.int .i64 q3,.int .i64 r3,.int .i64 (t:Int)] 91)) wr.heap.size 91 [.int .i64 (f:Int),.int .i64 q3,.int .i64 r3,.int .i64 (t:Int)]:=Blk.new _ _ [_,_,_,_]
   have HB5:=Lib.hid (HB.out.trans (hbx.mono HB.out.size))
   have b1:(k:Int) < (m:Int):=by omega
   have HAS:=Lib.hid (arcP_snoc (perm:=fun x=>twF R x.f.toNat) hx)
   dsimp only at HAS
   rw [Int.toNat_natCast,Int.toNat_natCast,HPF.out] at HAS
   have HO5:=Lib.hid (HO.out.alloc (.cells #[.int .i64 (f:Int),.int .i64 q3,.int .i64 r3,.int .i64 (t:Int)] 91))
   go_upto_region 6 with fail
   clear g0 g1 g2 g3 hmb hx hq3 hr3 hpf hpt hfb htb
   generalize wr.heap.size = bx at kx ⊢
   obtain ⟨e0,e1,e2,e3⟩:=Blk.c4 kx
   generalize wr.alloc (.cells #[.int .i64 (f:Int),.int .i64 q3,.int .i64 r3,.int .i64 (t:Int)] 91) = w5 at e0 e1 e2 e3 HB5 HO5 ⊢
   clear kx HB HO hbx
   obtain ⟨d1,d2⟩:=HPC.out w5 HB5.out
   have b2:(f:Int) < (n:Int):=by omega
   have hsz:=HB5.out.size
   cases fb with
   | false =>
    have HQ2:=Lib.hid (show (arcP (R.es.take (k + 1)) fun x=>twF R x.f.toNat).length = q by rw [HAS.out,← HQ.out];simp)
    have HO2:=Lib.hid (show w5.ownsRow w2.heap.size 85 2 v9 q ((arcP (R.es.take (k + 1)) fun x=>twF R x.f.toNat).flatMap arcC) by rw [HAS.out];simpa using HO5.out)
    go_wp2
    go_roundw
    case rel=>exact ⟨k + 1,q,_,_,rfl,rfl,by go_num,by omega,by omega,HQ2,HO2,HB5⟩
    case measure=>simp [intOf];omega
   | true =>
    go_wp2_with (first
     | (at_builtin;refine wpList_pushA w5 [.int .i64 (f:Int),.int .i64 (t:Int)] rfl (.tmp 39) (.tmp 45) 82 rfl w2.heap.size 85 (.agg #[.int .i64 0,.int .i64 0]) 2 16 Tryz.underlying82 arc_info rfl (by decide) rfl v9 q _ rfl HO5.out rfl (arc_one _ _) (by omega) (by omega) hsz ?_;intro A8 c8 w8 ho8 hg8 hl8;have HO8:=Lib.hid ho8;have HB8:=Lib.hid (HB5.out.grown hg8 hsz (fun j hj=>(HO5.out.lt j hj).1));clear ho8 hg8 hl8)
     | fail)
    go_roundw
    case rel=>exact ⟨k + 1,q + 1,_,_,rfl,rfl,by go_num,by omega,by omega,Lib.hid (by rw [HAS.out,List.length_append,HQ.out];rfl),Lib.hid (by rw [HAS.out,List.flatMap_append];exact HO8.out),HB8⟩
    case measure=>simp [intOf];omega
  obtain rfl:k = m:=by omega
  have b1:¬ (k:Int) < (k:Int):=by omega
  obtain ⟨E0,hE0⟩:∃ E0,(arcP R.es fun x=>twF R x.f.toNat) = E0:=⟨_,rfl⟩
  have HO2:=HO.out
  have HQ2:=HQ.out
  rw [List.take_of_length_le (by rw [HL2.out];exact Nat.le_refl _),hE0] at HO2 HQ2
  obtain ⟨OA,oc,rfl⟩:=own_shape HO2
  have HER2:∀ p ∈ E0,p.1 < n∧p.2 < n:=by
   rw [← hE0,← HL1.out]
   exact arcP_rng HED.out
  have HCI:=Lib.hid (law_circles n OA q oc E0 wr hn4 HQ2 (by omega) (by
   have:=HO2
   rw [← HQ2] at this
   exact RdR.of_own (f:=arcC) (by omega) (fun _ _=>rfl) this) HER2)
  have HCL:=Lib.hid (cirF_len n E0)
  have HLS:=Lib.hid (show lawS R = if (cirF n E0).any id = true then none else some (bmS R.es twW n (twF R),diaB R (bmS R.es twW n (twF R))) by
   unfold lawS
   rw [HL1.out,hE0,hasB_any])
  obtain ⟨N,hN⟩:∃ N,cirF n E0 = N:=⟨_,rfl⟩
  rw [hN] at HCI HCL HLS
  clear HO2 HQ2 HER2 HO HQ hE0 hN
  go_wp2_with fail
  refine HCI.out.mono ?_
  rintro _ w6 ⟨cb,rfl,hcb,hck,hb6⟩
  have HB6:=Lib.hid (HB.out.trans (hb6.mono HB.out.size))
  have HCC:=Lib.hid (bools_Contains cb n N w6 HCL.out hck (by omega))
  obtain ⟨qa,hqa⟩:∃ q,N.any id = q:=⟨_,rfl⟩
  rw [hqa] at HCC HLS
  clear HCI hb6 hcb hck HB hqa
  go_wp2_with fail
  refine HCC.out.mono ?_
  rintro _ w7 ⟨rfl,rfl⟩
  clear HCC
  cases qa with
  | true =>
   have HLN:=Lib.hid (show lawS R = none by rw [HLS.out];rfl)
   go_wp2
   refine bodyPost_ret (v:=.tuple #[.slice none 0 0,.int .i64 0,.bool false]) (by simp [results,Tryz.results11,go_sem]) rfl ?_
   exact ⟨.inl ⟨HLN.out,rfl⟩,HBL2.out _ HB6.out⟩
  | false =>
  have HLN:=Lib.hid (show lawS R = some (bmS R.es twW n (twF R),diaB R (bmS R.es twW n (twF R))) by rw [HLS.out];rfl)
  clear HLS HCL
  have hm1:∀ W:World,(Instr.makeSlice 31 (.int .i64 (n:Int)) (.int .i64 (n:Int))).run Tryz.prog W = .ok (.slice (some ⟨W.heap.size,0,none⟩) n n) (W.alloc (.cells (madeCells #[.int .i64 0] n) 3)):=fun W=>run_make_row' 31 3 (.int .i64 0) 8 Tryz.underlying31 int_info rfl .i64 .i64 n (by omega) (by omega) W
  have hbo:=box_below w6 (.cells (madeCells #[.int .i64 0] n) 3)
  have ko:Blk (w6.alloc (.cells (madeCells #[.int .i64 0] n) 3)) w6.heap.size 3 (iv (bm0P n (twF R) 0)):=by
   rw [bm0P_zero,made_ints]
   exact Blk.new _ _ _
  have HKO:=Lib.hid ko
  have HB8:=Lib.hid (HB6.out.trans (hbo.mono HB6.out.size))
  have hob:=HB6.out.size
  go_upto_region 13 with fail
  clear hm1 hbo ko
  generalize w6.heap.size = ob at HKO hob ⊢
  generalize w6.alloc (.cells (madeCells #[.int .i64 0] n) 3) = w8 at HKO HB8 ⊢
  clear HB6
  go_loopw [13,14,58] (fun s13 s14 s58 wr=>∃ (i:Nat) (v13 v14:Value),s13 = v13∧s14 = v14∧s58 = .int .i64 i∧i ≤ n∧Hid (Blk wr ob 3 (iv (bm0P n (twF R) i)))∧Hid (Below w2.heap.size w2 wr)) (fun _ _ s58 _=>n - (intOf s58).toNat)
  case atStart=>exact ⟨0,_,_,rfl,rfl,rfl,Nat.zero_le _,HKO,HB8⟩
  case round =>
   clear HKO HB8
   obtain ⟨i,v13,v14,rfl,rfl,rfl,hi,HKO,HB⟩:=hrel
   by_cases hin:i < n
   ·obtain ⟨p,hp⟩:∃ p,R.ts[i]? = some p:=⟨_,List.getElem?_eq_getElem (by rw [HL1.out];exact hin)⟩
    have HPF:=Lib.hid (twF_at hp)
    obtain ⟨pd,hpd⟩:=rdR_some (HR1.out wr HB.out) hp
    subst hpd
    obtain ⟨hpb,g0,g1,g2⟩:=prR_cells (HR1.out wr HB.out) hp
    obtain ⟨p1,pf,p2⟩:=p
    dsimp only at g0 g1 g2 HPF
    have b2:(i:Int) < (n:Int):=by omega
    have hbx:=box_below wr (.cells #[.int .i64 p1,.bool pf,.int .i64 p2] 71)
    have kx:Blk (wr.alloc (.cells #[.int .i64 p1,.bool pf,.int .i64 p2] 71)) wr.heap.size 71 [.int .i64 p1,.bool pf,.int .i64 p2]:=Blk.new _ _ [_,_,_]
    have HB5:=Lib.hid (HB.out.trans (hbx.mono HB.out.size))
    have HK5:=Lib.hid (HKO.out.below hbx HKO.out.lt)
    go_upto_region 15 with fail
    clear g0 g1 g2 hpb hp hbx
    have e1:=kx.cell (j:=1) rfl
    generalize wr.heap.size = bx at e1 ⊢
    generalize wr.alloc (.cells #[.int .i64 p1,.bool pf,.int .i64 p2] 71) = w5 at e1 HB5 HK5 ⊢
    clear kx HB HKO
    cases pf with
    | true =>
     have HK9:=Lib.hid (show Blk w5 ob 3 (iv (bm0P n (twF R) (i + 1))) by rw [bm0P_yes HPF.out];exact HK5.out)
     go_wp2
     go_roundw
     case rel=>exact ⟨i + 1,_,_,rfl,rfl,by go_num,by omega,HK9,HB5⟩
     case measure=>simp [intOf];omega
    | false =>
     have g9:w5.cell? ⟨ob,i,none⟩ = some (.int .i64 0):=HK5.out.cell (by rw [iv,List.getElem?_map,bm0P_at hin,if_neg (Nat.lt_irrefl _)];rfl)
     have g7:w5.frozen? ⟨ob,i,none⟩ = false:=HK5.out.free _
     have g8:ob < w5.heap.size:=HK5.out.lt
     have HK9:=Lib.hid (show Blk (w5.setCell ⟨ob,i,none⟩ (.int .i64 (-1))) ob 3 (iv (bm0P n (twF R) (i + 1))) by
      rw [← bm0P_no hin HPF.out,← iv_set]
      exact HK5.out.set (by rw [iv,List.length_map,bm0P_len];exact hin) _)
     have HB9:=Lib.hid (HB5.out.setCell (p:=⟨ob,i,none⟩) hob (.int .i64 (-1)))
     go_wp2
     go_roundw
     case rel=>exact ⟨i + 1,_,_,rfl,rfl,by go_num,by omega,HK9,HB9⟩
     case measure=>simp [intOf];omega
   obtain rfl:i = n:=by omega
   have b2:¬ (i:Int) < (i:Int):=by omega
   obtain ⟨O0,hO0⟩:∃ O,bm0 i (twF R) = O:=⟨_,rfl⟩
   have HBM:=Lib.hid (show BmB i 0 O0 by rw [← hO0];exact BmB.zero i (twF R))
   have HKN:=Lib.hid (show Blk wr ob 3 (iv (bmN R.es twW (twF R) 0 O0)) by
    show Blk wr ob 3 (iv O0)
    rw [← hO0,← bm0P_all]
    exact HKO.out)
   have HO0:=Lib.hid hO0
   clear HKO hO0
   go_wp2
   go_loopw [16,17,72] (fun s16 s17 s72 wr=>∃ (g B:Nat) (v16 v17:Value),s16 = v16∧s17 = v17∧s72 = .int .i64 g∧g ≤ i∧B ≤ 262144 * g∧Hid (BmB i B (bmN R.es twW (twF R) g O0))∧Hid (Blk wr ob 3 (iv (bmN R.es twW (twF R) g O0)))∧Hid (Below w2.heap.size w2 wr)) (fun _ _ s72 _=>i - (intOf s72).toNat)
   case atStart=>exact ⟨0,0,_,_,rfl,rfl,rfl,Nat.zero_le _,Nat.zero_le _,HBM,HKN,HB⟩
   case round =>
    clear HBM HKN HB
    obtain ⟨g,B,v16,v17,rfl,rfl,rfl,hg,hB,HBM,HKN,HB⟩:=hrel
    by_cases hgi:g < i
    ·have b3:(g:Int) < (i:Int):=by omega
     have HBS:=Lib.hid (bmN_succ (es:=R.es) (w:=twW) (fa:=twF R) g O0)
     obtain ⟨P0,hP0⟩:∃ P,bmN R.es twW (twF R) g O0 = P:=⟨_,rfl⟩
     rw [hP0] at HBS HBM HKN
     clear hP0
     have HBM0:=Lib.hid (show BmB i B (bmP twW (twF R) (R.es.take 0) P0) from HBM.out)
     have HKN0:=Lib.hid (show Blk wr ob 3 (iv (bmP twW (twF R) (R.es.take 0) P0)) from HKN.out)
     clear HBM HKN
     go_wp2
     go_loopw [16,17,76] (fun s16 s17 s76 wr=>∃ (j B:Nat) (v16 v17:Value),s16 = v16∧s17 = v17∧s76 = .int .i64 j∧j ≤ k∧B ≤ 262144 * g + j∧Hid (BmB i B (bmP twW (twF R) (R.es.take j) P0))∧Hid (Blk wr ob 3 (iv (bmP twW (twF R) (R.es.take j) P0)))∧Hid (Below w2.heap.size w2 wr)) (fun _ _ s76 _=>k - (intOf s76).toNat)
     case atStart=>exact ⟨0,B,_,_,rfl,rfl,rfl,Nat.zero_le _,by omega,HBM0,HKN0,HB⟩
     case round =>
      clear HBM0 HKN0 HB hB
      obtain ⟨j,B,v16,v17,rfl,rfl,rfl,hj,hB,HBM,HKN,HB⟩:=hrel
      by_cases hjk:j < k
      ·skip
       obtain ⟨x,hx⟩:∃ x,R.es[j]? = some x:=⟨_,List.getElem?_eq_getElem (by rw [HL2.out];exact hjk)⟩
       obtain ⟨hfr,hto⟩:=HED.out x (List.mem_of_getElem? hx)
       have HXE:=Lib.hid hx
       obtain ⟨md,hmd⟩:=rdR_some (HR2.out wr HB.out) hx
       subst hmd
       obtain ⟨hmb,g0,g1,g2,g3⟩:=mvR_cells (HR2.out wr HB.out) hx
       obtain ⟨xf,xe,xt⟩:=x
       dsimp only at hfr hto g0 g1 g2 g3
       obtain ⟨f,rfl⟩:∃ f:Nat,xf = (f:Int):=⟨xf.toNat,by omega⟩
       obtain ⟨t,rfl⟩:∃ f:Nat,xt = (f:Int):=⟨xt.toNat,by omega⟩
       have hfn:f < i:=by rw [← HL1.out];omega
       have htn:t < i:=by rw [← HL1.out];omega
       obtain ⟨q3,hq3⟩:∃ q,xe / 3 = q:=⟨_,rfl⟩
       obtain ⟨r3,hr3⟩:∃ q,xe % 3 = q:=⟨_,rfl⟩
       rw [hq3] at g1
       rw [hr3] at g2
       have HR3:=Lib.hid hr3
       obtain ⟨pf,hpf⟩:∃ p,R.ts[f]? = some p:=⟨_,List.getElem?_eq_getElem (by rw [HL1.out];exact hfn)⟩
       obtain ⟨pt,hpt⟩:∃ p,R.ts[t]? = some p:=⟨_,List.getElem?_eq_getElem (by rw [HL1.out];exact htn)⟩
       have HPF:=Lib.hid (twF_at hpf)
       have HPT:=Lib.hid (twF_at hpt)
       obtain ⟨pd,hpd⟩:=rdR_some (HR1.out wr HB.out) hpf
       subst hpd
       have HPC:=Lib.hid (fun (W:World) (hb:Below w2.heap.size w2 W)=>(show W.cell? ⟨(pd.add (f * 3)).block,(pd.add (f * 3)).off + 1,none⟩ = some (.bool pf.2.1)∧W.cell? ⟨(pd.add (t * 3)).block,(pd.add (t * 3)).off + 1,none⟩ = some (.bool pt.2.1) from ⟨(prR_cells (HR1.out W hb) hpf).2.2.1,(prR_cells (HR1.out W hb) hpt).2.2.1⟩))
       obtain ⟨fb,hfb⟩:∃ b,pf.2.1 = b:=⟨_,rfl⟩
       obtain ⟨tb,htb⟩:∃ b,pt.2.1 = b:=⟨_,rfl⟩
       rw [hfb] at HPC HPF
       rw [htb] at HPC HPT
       have hbx:=box_below wr (.cells #[.int .i64 (f:Int),.int .i64 q3,.int .i64 r3,.int .i64 (t:Int)] 91)
       have kx:Blk (wr.alloc (.cells #[.int .i64 (f:Int),.int .i64 q3,.int .i64 r3,.int .i64 (t:Int)] 91)) wr.heap.size 91 [.int .i64 (f:Int),.int .i64 q3,.int .i64 r3,.int .i64 (t:Int)]:=Blk.new _ _ [_,_,_,_]
       have HB5:=Lib.hid (HB.out.trans (hbx.mono HB.out.size))
       have b1:(j:Int) < (k:Int):=by omega
       have HBX:=Lib.hid (bmP_at (w:=twW) (fa:=twF R) (out:=P0) hx)
       obtain ⟨Q0,hQ0⟩:∃ P,bmP twW (twF R) (R.es.take j) P0 = P:=⟨_,rfl⟩
       rw [hQ0] at HBX HBM HKN
       have HK5:=Lib.hid (HKN.out.below hbx HKN.out.lt)
       go_upto_region 23 with fail
       clear g0 g1 g2 g3 hmb hx hq3 hr3 hpf hpt hfb htb
       generalize wr.heap.size = bx at kx ⊢
       obtain ⟨e0,e1,e2,e3⟩:=Blk.c4 kx
       generalize wr.alloc (.cells #[.int .i64 (f:Int),.int .i64 q3,.int .i64 r3,.int .i64 (t:Int)] 91) = w5 at kx e0 e1 e2 e3 HB5 HK5 ⊢
       have hKX:=Lib.hid kx
       clear kx HB HKN hbx hQ0
       obtain ⟨d1,d2⟩:=HPC.out w5 HB5.out
       have b4:(f:Int) < (i:Int):=by omega
       have b5:(t:Int) < (i:Int):=by omega
       cases fb with
       | false =>
        have HBM9:=Lib.hid (show BmB i B (bmP twW (twF R) (R.es.take (j + 1)) P0) by rw [HBX.out,bmX_no HPF.out];exact HBM.out)
        have HKN9:=Lib.hid (show Blk w5 ob 3 (iv (bmP twW (twF R) (R.es.take (j + 1)) P0)) by rw [HBX.out,bmX_no HPF.out];exact HK5.out)
        go_wp2
        go_roundw
        case rel=>exact ⟨j + 1,B,_,_,rfl,rfl,by go_num,by omega,by omega,HBM9,HKN9,HB5⟩
        case measure=>simp [intOf];omega
       | true =>
       have hql:=HBM.out.len
       have c3:w5.cell? ⟨ob,t,none⟩ = some (.int .i64 (gI Q0 (t:Int))):=HK5.out.cell (iv_gI (by rw [hql];exact htn))
       have hrt:=HBM.out.rng t htn
       have hBS:=HBM.out.set hfn htn (twW_01 ⟨(f:Int),xe,(t:Int)⟩)
       have HYX:=Lib.hid (bmX_yes (w:=twW) (fa:=twF R) (out:=Q0) (e:=xe) (t:=t) HPF.out)
       obtain ⟨rt,hrt0⟩:∃ r,gI Q0 (t:Int) = r:=⟨_,rfl⟩
       obtain ⟨rf,hrf0⟩:∃ r,gI Q0 (f:Int) = r:=⟨_,rfl⟩
       obtain ⟨tw,htw⟩:∃ r,twW ⟨(f:Int),xe,(t:Int)⟩ = r:=⟨_,rfl⟩
       have HTW:=Lib.hid (show tw = if r3 = 2 then 0 else 1 by rw [← htw];unfold twW;dsimp only;rw [HR3.out])
       rw [hrt0,hrf0,htw] at HYX hBS
       rw [hrt0] at hrt c3
       have hr1:-1 ≤ rt:=hrt.1
       have hr2:rt ≤ 2000000000:=by omega
       have HBM9:=Lib.hid (show BmB i (B + 1) (bmP twW (twF R) (R.es.take (j + 1)) P0) by rw [HBX.out,HYX.out];exact hBS)
       have HRF:=Lib.hid hrf0
       clear hrt hBS hrt0 hrf0 htw
       by_cases h2:r3 = 2
       case' pos =>
        have b6:(r3 != 2) = false:=by simp [h2]
        have htw0:tw = 0:=by rw [HTW.out,if_pos h2]
        have HNV:=Lib.hid (show rt + tw = rt by omega)
        clear h2
        go_upto_region 27 with fail
        obtain ⟨nv9,hnv9⟩:∃ z:Int,z = rt:=⟨_,rfl⟩
        have HNV:=Lib.hid (show rt + tw = nv9 by rw [hnv9];exact HNV.out)
        rw [← hnv9]
       case' neg =>
        have b6:(r3 != 2) = true:=by simpa using h2
        have htw0:tw = 1:=by rw [HTW.out,if_neg h2]
        have HNV:=Lib.hid (show rt + tw = rt + 1 by omega)
        clear h2
        go_upto_region 27 with fail
        obtain ⟨nv9,hnv9⟩:∃ z:Int,z = rt + 1:=⟨_,rfl⟩
        have HNV:=Lib.hid (show rt + tw = nv9 by rw [hnv9];exact HNV.out)
        rw [← hnv9]
       all_goals
        clear e0 e1 e2 e3 d1 d2 c3 hnv9 htw0
        refine wp_region_U (fun W=>W.cell? ⟨bx,0,none⟩ = some (.int .i64 (f:Int))) (fun W=>W.cell? ⟨ob,f,none⟩ = some (.int .i64 rf)) 11 (by kernel_rfl) ?_
        change anyU _ _ _ _ _ _ _ 12 _ _ _
        have hbd:=below_dr w5
        have HK6:=Lib.hid (HK5.out.below hbd HK5.out.lt)
        have HX6:=Lib.hid (hKX.out.below hbd hKX.out.lt)
        have HB6:=Lib.hid (HB5.out.trans (hbd.mono HB5.out.size))
        clear hbd
        generalize w5.drew = wd at HK6 HX6 HB6 ⊢
        have hA0:wd.cell? ⟨bx,0,none⟩ = some (.int .i64 (f:Int)):=HX6.out.cell (j:=0) rfl
        have hB0:wd.cell? ⟨ob,f,none⟩ = some (.int .i64 rf):=by rw [← HRF.out];exact HK6.out.cell (iv_gI (by rw [hql];exact hfn))
        have g9:=hB0
        have g7:wd.frozen? ⟨ob,f,none⟩ = false:=HK6.out.free _
        have g8:ob < wd.heap.size:=HK6.out.lt
        have HKN9:=Lib.hid (show Blk (wd.setCell ⟨ob,f,none⟩ (.int .i64 (max rf nv9))) ob 3 (iv (bmP twW (twF R) (R.es.take (j + 1)) P0)) by
         rw [HBX.out,HYX.out,HNV.out,← iv_set]
         exact HK6.out.set (by rw [iv,List.length_map,hql];exact hfn) _)
        have HB9:=Lib.hid (HB6.out.setCell (p:=⟨ob,f,none⟩) hob (.int .i64 (max rf nv9)))
        have hne:bx ≠ ob:=by
         intro e
         have k1:=HX6.out
         have k2:=HK6.out
         unfold Blk at k1 k2
         rw [e,k2] at k1
         injection k1 with k1
         injection k1 with _ k3
         exact absurd k3 (by decide)
        have kx9:=HX6.out.kept (grown_setCell wd ob f (.int .i64 (max rf nv9))) (by intro e;injection e with e;exact hne e)
        have hAF:(wd.setCell ⟨ob,f,none⟩ (.int .i64 (max rf nv9))).cell? ⟨bx,0,none⟩ = some (.int .i64 (f:Int)):=kx9.cell (j:=0) rfl
        clear kx9
        (refine uA 0 ?_ rfl hA0 hB0 (fun W hA=>?_) ?_;rotate_left;(· (go_simp;try with_reducible rfl));refine uA 1 ?_ rfl hA0 hB0 (fun W hA=>?_) ?_;rotate_left;(· (go_simp;try with_reducible rfl));refine uA 2 ?_ rfl hA0 hB0 (fun W hA=>?_) ?_;rotate_left;(· (go_simp;try with_reducible rfl));refine uA 3 ?_ rfl hA0 hB0 (fun W hA=>?_) ?_;rotate_left;(· (go_simp;try with_reducible rfl));(try simp only [Act.put,List.setIfInBounds_toArray,List.set_cons_zero,List.set_cons_succ]))
        (refine uA 4 ?_ rfl hA0 hB0 (fun W hA=>?_) ?_;rotate_left;(· (go_simp;try with_reducible rfl));refine uA 5 ?_ rfl hA0 hB0 (fun W hA=>?_) ?_;rotate_left;(· (go_simp;try with_reducible rfl));refine uA 6 ?_ rfl hA0 hB0 (fun W hA=>?_) ?_;rotate_left;(· (go_simp;try with_reducible rfl));(try simp only [Act.put,List.setIfInBounds_toArray,List.set_cons_zero,List.set_cons_succ]))
        (refine uB 7 ?_ rfl hA0 hB0 (fun W hA hB=>?_) ?_;rotate_left;(· (go_simp;try with_reducible rfl));(try simp only [Act.put,List.setIfInBounds_toArray,List.set_cons_zero,List.set_cons_succ]))
        (refine uA 8 ?_ rfl hA0 hB0 (fun W hA=>?_) ?_;rotate_left;(· (go_simp;try with_reducible rfl));refine uA 9 ?_ rfl hA0 hB0 (fun W hA=>?_) ?_;rotate_left;(· (go_simp;try with_reducible rfl));refine uA 10 ?_ rfl hA0 hB0 (fun W hA=>?_) ?_;rotate_left;(· (go_simp;try with_reducible rfl));(try simp only [Act.put,List.setIfInBounds_toArray,List.set_cons_zero,List.set_cons_succ]))
        refine uOne (i:=11) rfl (by kernel_rfl) (fun K hK=>?_)
        go_simp
        (refine hK _ _ ⟨hAF,fun h=>absurd (h.symm.trans (by kernel_rfl:_ = true)) Bool.false_ne_true⟩ ?_;clear hK K;(try simp only [Act.put,List.setIfInBounds_toArray,List.set_cons_zero,List.set_cons_succ]))
        refine anyU_done (by kernel_rfl) ?_ _
        clear hA0 hB0 hAF g7 g8 g9
        go_wp2
        go_roundw
        case rel=>exact ⟨j + 1,B + 1,_,_,rfl,rfl,by go_num,by omega,by omega,HBM9,HKN9,HB9⟩
        case measure=>simp [intOf];omega
      obtain rfl:j = k:=by omega
      have b4:¬ (j:Int) < (j:Int):=by omega
      have HBM9:=Lib.hid (show BmB i B (bmN R.es twW (twF R) (g + 1) O0) by
       have h9:=HBM.out
       rw [List.take_of_length_le (by rw [HL2.out];exact Nat.le_refl _),← HBS.out] at h9
       exact h9)
      have HKN9:=Lib.hid (show Blk wr ob 3 (iv (bmN R.es twW (twF R) (g + 1) O0)) by
       have h9:=HKN.out
       rw [List.take_of_length_le (by rw [HL2.out];exact Nat.le_refl _),← HBS.out] at h9
       exact h9)
      go_wp2
      go_roundw
      case rel=>exact ⟨g + 1,B,_,_,rfl,rfl,by go_num,by omega,by omega,HBM9,HKN9,HB⟩
      case measure=>simp [intOf];omega
    obtain rfl:g = i:=by omega
    have b3:¬ (g:Int) < (g:Int):=by omega
    have HSD:=Lib.hid (show bmN R.es twW (twF R) g O0 = bmS R.es twW g (twF R) by unfold bmS;rw [HO0.out])
    obtain ⟨r9,hr9⟩:∃ r,bmS R.es twW g (twF R) = r:=⟨_,rfl⟩
    rw [HSD.out,hr9] at HBM HKN
    rw [hr9] at HLN
    have hB2:B ≤ 1073741824:=by omega
    clear HSD hr9
    go_wp2
    go_loopw [18,20,112] (fun s18 s20 s112 wr=>∃ (j:Nat) (bo:Int) (v20:Value),s18 = .int .i64 bo∧s20 = v20∧s112 = .int .i64 j∧j ≤ k∧0 ≤ bo∧bo ≤ 1100000000∧Hid ((R.es.take j).foldl (diaX R r9) 0 = bo)∧Hid (Blk wr ob 3 (iv r9))∧Hid (Below w2.heap.size w2 wr)) (fun _ _ s112 _=>k - (intOf s112).toNat)
    case atStart=>exact ⟨0,0,_,rfl,rfl,rfl,Nat.zero_le _,by omega,by omega,Lib.hid rfl,HKN,HB⟩
    case round =>
     clear HKN HB
     obtain ⟨j,bo,v20,rfl,rfl,rfl,hj,hbo0,hbo1,HBO,HKN,HB⟩:=hrel
     by_cases hjk:j < k
     ·skip
      obtain ⟨x,hx⟩:∃ x,R.es[j]? = some x:=⟨_,List.getElem?_eq_getElem (by rw [HL2.out];exact hjk)⟩
      obtain ⟨hfr,hto⟩:=HED.out x (List.mem_of_getElem? hx)
      have HXE:=Lib.hid hx
      obtain ⟨md,hmd⟩:=rdR_some (HR2.out wr HB.out) hx
      subst hmd
      obtain ⟨hmb,g0,g1,g2,g3⟩:=mvR_cells (HR2.out wr HB.out) hx
      obtain ⟨xf,xe,xt⟩:=x
      dsimp only at hfr hto g0 g1 g2 g3
      obtain ⟨f,rfl⟩:∃ f:Nat,xf = (f:Int):=⟨xf.toNat,by omega⟩
      obtain ⟨t,rfl⟩:∃ f:Nat,xt = (f:Int):=⟨xt.toNat,by omega⟩
      have hfn:f < g:=by rw [← HL1.out];omega
      have htn:t < g:=by rw [← HL1.out];omega
      obtain ⟨q3,hq3⟩:∃ q,xe / 3 = q:=⟨_,rfl⟩
      obtain ⟨r3,hr3⟩:∃ q,xe % 3 = q:=⟨_,rfl⟩
      rw [hq3] at g1
      rw [hr3] at g2
      have HR3:=Lib.hid hr3
      obtain ⟨pf,hpf⟩:∃ p,R.ts[f]? = some p:=⟨_,List.getElem?_eq_getElem (by rw [HL1.out];exact hfn)⟩
      obtain ⟨pt,hpt⟩:∃ p,R.ts[t]? = some p:=⟨_,List.getElem?_eq_getElem (by rw [HL1.out];exact htn)⟩
      have HPF:=Lib.hid (twF_at hpf)
      have HPT:=Lib.hid (twF_at hpt)
      obtain ⟨pd,hpd⟩:=rdR_some (HR1.out wr HB.out) hpf
      subst hpd
      have HPC:=Lib.hid (fun (W:World) (hb:Below w2.heap.size w2 W)=>(show W.cell? ⟨(pd.add (f * 3)).block,(pd.add (f * 3)).off + 1,none⟩ = some (.bool pf.2.1)∧W.cell? ⟨(pd.add (t * 3)).block,(pd.add (t * 3)).off + 1,none⟩ = some (.bool pt.2.1) from ⟨(prR_cells (HR1.out W hb) hpf).2.2.1,(prR_cells (HR1.out W hb) hpt).2.2.1⟩))
      obtain ⟨fb,hfb⟩:∃ b,pf.2.1 = b:=⟨_,rfl⟩
      obtain ⟨tb,htb⟩:∃ b,pt.2.1 = b:=⟨_,rfl⟩
      rw [hfb] at HPC HPF
      rw [htb] at HPC HPT
      have hbx:=box_below wr (.cells #[.int .i64 (f:Int),.int .i64 q3,.int .i64 r3,.int .i64 (t:Int)] 91)
      have kx:Blk (wr.alloc (.cells #[.int .i64 (f:Int),.int .i64 q3,.int .i64 r3,.int .i64 (t:Int)] 91)) wr.heap.size 91 [.int .i64 (f:Int),.int .i64 q3,.int .i64 r3,.int .i64 (t:Int)]:=Blk.new _ _ [_,_,_,_]
      have HB5:=Lib.hid (HB.out.trans (hbx.mono HB.out.size))
      have b1:(j:Int) < (k:Int):=by omega
      have HDX:=Lib.hid (diaX_at (r:=r9) hx)
      rw [HBO.out] at HDX
      have HK5:=Lib.hid (HKN.out.below hbx HKN.out.lt)
      go_upto_region 34 with fail
      clear g0 g1 g2 g3 hmb hx hq3 hr3 hpf hpt hfb htb
      generalize wr.heap.size = bx at kx ⊢
      obtain ⟨e0,e1,e2,e3⟩:=Blk.c4 kx
      generalize wr.alloc (.cells #[.int .i64 (f:Int),.int .i64 q3,.int .i64 r3,.int .i64 (t:Int)] 91) = w5 at kx e0 e1 e2 e3 HB5 HK5 ⊢
      clear kx HB HKN hbx
      obtain ⟨d1,d2⟩:=HPC.out w5 HB5.out
      have b4:(f:Int) < (g:Int):=by omega
      have b5:(t:Int) < (g:Int):=by omega
      have c3:w5.cell? ⟨ob,t,none⟩ = some (.int .i64 (gI r9 (t:Int))):=HK5.out.cell (iv_gI (by rw [HBM.out.len];exact htn))
      have hrt:=HBM.out.rng t htn
      obtain ⟨rt,hrt0⟩:∃ r,gI r9 (t:Int) = r:=⟨_,rfl⟩
      have HDV:=Lib.hid (show diaX R r9 bo ⟨(f:Int),xe,(t:Int)⟩ = if fb = false∧tb = true then max bo (rt + 1) else bo by
       unfold diaX
       dsimp only
       rw [Int.toNat_natCast,Int.toNat_natCast,HPF.out,HPT.out,hrt0])
      rw [hrt0] at hrt c3
      have hr1:-1 ≤ rt:=hrt.1
      have hr2:rt ≤ 1073741824:=by omega
      clear hrt hrt0
      cases tb with
      | false =>
       have HBN:=Lib.hid (show (R.es.take (j + 1)).foldl (diaX R r9) 0 = bo by rw [HDX.out,HDV.out,if_neg (by simp)])
       go_wp2
       go_roundw
       case rel=>exact ⟨j + 1,bo,_,rfl,rfl,by go_num,by omega,by omega,by omega,HBN,HK5,HB5⟩
       case measure=>simp [intOf];omega
      | true =>
       cases fb with
       | true =>
        have HBN:=Lib.hid (show (R.es.take (j + 1)).foldl (diaX R r9) 0 = bo by rw [HDX.out,HDV.out,if_neg (by simp)])
        go_wp2
        go_roundw
        case rel=>exact ⟨j + 1,bo,_,rfl,rfl,by go_num,by omega,by omega,by omega,HBN,HK5,HB5⟩
        case measure=>simp [intOf];omega
       | false =>
        have HBN:=Lib.hid (show (R.es.take (j + 1)).foldl (diaX R r9) 0 = max bo (rt + 1) by rw [HDX.out,HDV.out,if_pos ⟨rfl,rfl⟩])
        go_wp2
        go_roundw
        case rel=>exact ⟨j + 1,max bo (rt + 1),_,by go_num,rfl,by go_num,by omega,by omega,by omega,HBN,HK5,HB5⟩
        case measure=>simp [intOf];omega
     obtain rfl:j = k:=by omega
     have b4:¬ (j:Int) < (j:Int):=by omega
     have HLR:=Lib.hid (show lawS R = some (r9,bo) by
      rw [HLN.out]
      have h9:=HBO.out
      rw [List.take_of_length_le (by rw [HL2.out];exact Nat.le_refl _)] at h9
      unfold diaB
      rw [h9])
     have HOW:=Lib.hid (show wr.ownsRow w.heap.size 3 1 (.slice (some ⟨ob,0,none⟩) g g) r9.length (iv r9) by
      have h9:=own_iv (base:=w.heap.size) HKN.out (by omega) (by rw [HBM.out.len];omega)
      rw [HBM.out.len] at h9 ⊢
      exact h9)
     go_wp2
     refine bodyPost_ret (v:=.tuple #[.slice (some ⟨ob,0,none⟩) g g,.int .i64 bo,.bool true]) (by simp [results,Tryz.results11,go_sem]) rfl ?_
     exact ⟨.inr ⟨_,r9,bo,HLR.out,rfl,HOW.out⟩,HBL2.out _ HB.out⟩
end Go.Proofs.YtddhaidimadliaaGreat
/- The statement DiagnosabilityDecides: the walk. -/
namespace Go.Proofs.YtddhaidimadliaaGreat
open Go.RowKit Go
section
variable {es:List Ed} {n:Nat} {fr tg:Int}
theorem tbk_len (bef:List Ed) (fr:Int):∀ (g:Nat) (x:Ed),(tbk bef fr g x).length ≤ g + 1
 | 0,_=>Nat.le_refl _
 | g + 1,x=>by
  unfold tbk
  by_cases h:x.f = fr
  ·rw [if_pos h];simp
  ·rw [if_neg h]
   cases befA bef x.f with
   | none=>simp
   | some y=>have:=tbk_len bef fr g y;simp only [List.length_cons];omega
def BefI (n:Nat) (bef:List Ed):Prop:=(bef.map Ed.t).Nodup∧∀ x ∈ bef,0 ≤ x.t∧x.t < (n:Int)
theorem BefI.len {bef:List Ed} (h:BefI n bef):bef.length ≤ n:=by
 have:=nodup_le (m:=rngI (n:Int)) h.1 (fun t ht=>by
  obtain ⟨x,hx,rfl⟩:=List.mem_map.1 ht
  exact rngI_mem.2 (h.2 x hx))
 rw [List.length_map,rngI_len,Int.toNat_natCast] at this
 exact this
theorem BefI.push {bef:List Ed} (h:BefI n bef) {x:Ed} (hx:0 ≤ x.t∧x.t < (n:Int)) (hn:¬ (befA bef x.t).isSome = true):BefI n (bef ++ [x]):=by
 refine ⟨?_,fun y hy=>?_⟩
 ·rw [List.map_append,List.nodup_append]
  refine ⟨h.1,by simp,fun a ha b hb e=>hn (befA_none.2 ?_)⟩
  simp only [List.map_cons,List.map_nil,List.mem_singleton] at hb
  rw [← hb,← e]
  exact ha
 ·rcases List.mem_append.1 hy with h1 | h1
  ·exact h.2 y h1
  ·rw [List.mem_singleton.1 h1];exact hx
theorem tpX_len:∀ (r bef:List Ed),(∀ x ∈ r,0 ≤ x.t∧x.t < (n:Int)) → BefI n bef → match tpX fr tg r bef with
  | .inl l=>l.length ≤ n + 1
  | .inr bef'=>BefI n bef'
 | [],bef,_,h=>h
 | x :: r,bef,hr,h=>by
  unfold tpX
  by_cases h1:(befA bef x.t).isSome = true
  ·rw [if_pos h1];exact tpX_len r bef (fun y hy=>hr y (List.mem_cons_of_mem _ hy)) h
  ·rw [if_neg h1]
   by_cases h2:x.t = tg
   ·rw [if_pos h2]
    show (tbk (bef ++ [x]) fr bef.length x).reverse.length ≤ n + 1
    rw [List.length_reverse]
    have:=tbk_len (bef ++ [x]) fr bef.length x
    have:=h.len
    omega
   ·rw [if_neg h2]
    exact tpX_len r (bef ++ [x]) (fun y hy=>hr y (List.mem_cons_of_mem _ hy)) (h.push (hr x List.mem_cons_self) h1)
theorem tpG_len (he:EdR n es):∀ (g i:Nat) (bef l:List Ed),BefI n bef → tpG es fr tg g i bef = some l → l.length ≤ n + 1
 | 0,_,_,_,_,h=>by cases h
 | g + 1,i,bef,l,hb,h=>by
  unfold tpG at h
  split at h
  ·cases h
  ·rename_i k _
   have:=tpX_len (n:=n) (fr:=fr) (tg:=tg) (outL es k) bef (fun x hx=>(he x (outL_mem.1 hx).1).2) hb
   split at h
   ·rename_i l' e
    rw [e] at this
    injection h with h
    rw [← h]
    exact this
   ·rename_i bef' e
    rw [e] at this
    exact tpG_len he g (i + 1) bef' l this h
theorem tpS_len (he:EdR n es) {l:List Ed} (h:tpS es n fr tg = some l):l.length ≤ n + 1:=tpG_len he (n + 2) 0 [] l ⟨by simp,fun x hx=>by cases hx⟩ h
end
theorem lasG_len {s:Bs TwS} (he:EdR s.ts.length s.es) {p cy:List Ed}:∀ (d i:Nat),lasG s d i = some (p,cy) → p.length ≤ s.ts.length + 1∧cy.length ≤ s.ts.length + 1
 | 0,_,h=>by cases h
 | d + 1,i,h=>by
  unfold lasG at h
  split at h
  ·split at h
   ·rename_i cy' e
    injection h with h
    injection h with h1 h2
    refine ⟨?_,by rw [← h2];exact tpS_len he e⟩
    rw [← h1]
    cases hq:tpS s.es s.ts.length 0 (i:Int) with
    | none=>simp
    | some l=>exact tpS_len he hq
   ·exact lasG_len he d (i + 1) h
  ·exact lasG_len he d (i + 1) h
theorem fst1_le (L:List Int):(fst1 L).length ≤ L.length:=List.length_filterMap_le _ _
theorem snd1_le (L:List Int):(snd1 L).length ≤ L.length:=List.length_filterMap_le _ _
theorem decides_plain {z:DV} {c:Int} (hd:dmE z = 0) (hl:z.l.length = z.nv) (hs:z.x.a.st ≤ 40) (h1:1 ≤ c) (hst:stlE z c = 0) (hcl:clsE z c = 0) {R:Bs TwS} (hR:twin z.m c = some R) :
  lawS R = diaS R∧((diaS R = none∧∃ p cy,lasS R = some (p,cy)∧LasW z.m c (fst1 (p.map Ed.e)) (fst1 (cy.map Ed.e)) (snd1 (p.map Ed.e)) (snd1 (cy.map Ed.e))∧p.length ≤ 5000∧cy.length ≤ 5000) ∨ (∃ q,diaS R = some q)∧lasS R = none):=by
 have hw:=dmE_wf hd
 have hdm:DmW z.m c:=DV.dmw hd h1
 by_cases h0:z.m.a.st = 0
 ·have hRR:R = ⟨[],[]⟩:=by
   unfold twin at hR
   rw [if_pos h0] at hR
   injection hR with hR
   exact hR.symm
  subst hRR
  exact ⟨rfl,.inr ⟨⟨_,rfl⟩,rfl⟩⟩
 ·obtain ⟨s,hs1,hb⟩:=twin_some (m:=z.m) (c:=c) hw h0 hs
  rw [hR] at hs1
  injection hs1 with hs1
  subst hs1
  have hq:¬ QuiE z.m:=by
   intro hq
   rw [stlE_iff hcl] at hst
   have:(cycF z.x.a (kndL z 4)).2 = true:=(quiet_of hd hl).2 ⟨by have:=hw.st0;have:z.x.a.st ≠ 0:=h0;omega,hq⟩
   rw [this] at hst
   simp at hst
  have hl2:=las_iff hdm hb hq
  have hlw:=lasS_spec hdm hb hq
  refine ⟨dia_law hb,?_⟩
  cases hdi:diaS R with
  | none =>
   rw [hdi] at hl2
   have:=hl2.2 rfl
   obtain ⟨⟨p,cy⟩,hp⟩:=Option.isSome_iff_exists.1 this
   rw [hp] at hlw
   have hle:=lasG_len (tw_edr hb) R.ts.length 0 (show lasG R R.ts.length 0 = some (p,cy) from hp)
   have hc:=hb.len
   exact .inl ⟨rfl,p,cy,hp,hlw,by omega,by omega⟩
  | some q =>
   refine .inr ⟨⟨q,rfl⟩,?_⟩
   cases hla:lasS R with
   | none=>rfl
   | some pc =>
    rw [hla,hdi] at hl2
    have:=hl2.1 rfl
    cases this
set_option maxRecDepth 100000 in
set_option maxHeartbeats 12800000 in
theorem decides_walk41 (x:S4) (cl:Int) (w:World) (hx:x.ok) (hc:0 ≤ cl∧cl ≤ 255) :
  Calls Tryz.prog 3 #[.agg (s4c x).toArray,.int .u8 cl] w fun e w'=>e = .returned (.bool true)∧Below w.heap.size w w':=by
 obtain ⟨w1,hw1⟩:∃ w1,w1 = w.alloc (.cells (s4c x).toArray 29):=⟨_,rfl⟩
 have hb1:=box_below w (.cells (s4c x).toArray 29)
 have kx:Blk w1 w.heap.size 29 (s4c x):=by rw [hw1];exact Blk.new _ _ _
 rw [← hw1] at hb1
 have HK:=Lib.hid (fun (W:World) (hb:Below w1.heap.size w1 W)=>kx.below hb kx.lt)
 have HBL:=Lib.hid (fun (W:World) (hb:Below w1.heap.size w1 W)=>hb1.trans (hb.mono hb1.size))
 have HX:=Lib.hid hx
 have HSL:=Lib.hid (s4_len hx)
 have HW1:=Lib.hid hw1;clear hw1
 clear hx kx hb1
 have HC:=Lib.hid (known41 w1)
 go_enter Tryz.func3,Tryz.ntmps3
 go_upto_region 1 with fail
 rw [← HW1.out]
 go_wp2_with fail
 refine HC.out.mono ?_
 rintro _ w3 ⟨rfl,hb3⟩
 have HB3:=Lib.hid hb3
 clear hb3 HC
 have hrg:w3.rangeAt w.heap.size 0 (s4c x):=fun j v hv=>by rw [Nat.zero_add];exact (HK.out w3 HB3.out).cell hv
 go_upto_region 3 with fail
 go_wp2_with (first
  | (refine wpList_load_mid rfl 29 (.tmp 2) rfl w.heap.size 0 rfl (s4c x) _ hrg Tryz.underlying29 rfl (by rw [HSL.out];kernel_rfl) ?_)
  | fail)
 refine (law_Make41 x w3 HX.out).mono ?_
 rintro _ w4 ⟨z,rfl,hz,his,hb4⟩
 have HDM:=Lib.hid (his.dm HX.out)
 have HST:=Lib.hid (show z.x.a.st ≤ 40 by rw [his.a];have:=S4.st_le HX.out;omega)
 have HZ:=Lib.hid hz
 have HB4:=Lib.hid (HB3.out.trans (hb4.mono HB3.out.size))
 clear hb4 his hz hrg HK
 have HWF:=Lib.hid (dmE_wf HDM.out)
 have HEA:=Lib.hid (dmE_al HDM.out)
 have HLL:=Lib.hid HZ.out.ll
 obtain ⟨c,hcv⟩:∃ c:Int,1 + cl % 4 = c:=⟨_,rfl⟩
 have hc1:1 ≤ c∧c ≤ 4:=by omega
 have HCL:=Lib.hid (clsE_zero HDM.out hc1.1 hc1.2)
 obtain ⟨RT,hRT,hRE⟩:=twin_any (m:=z.m) HWF.out HST.out c
 have HSI:=Lib.hid (stlE_iff HCL.out)
 have HPL:=Lib.hid (fun (h:stlE z c = 0)=>decides_plain HDM.out HLL.out HST.out hc1.1 h HCL.out hRT)
 have HD0:=Lib.hid (fun (h:stlE z c = 0) (W:World) (hzz:z.ok W W.heap.size)=>dm_Diagnosable_ok z c W hzz h HST.out RT hRT hRE)
 have HD1:=Lib.hid (fun (h:stlE z c = 25) (W:World) (hzz:z.ok W W.heap.size)=>dm_Diagnosable_err z c 25 W hzz h (by decide))
 have HR0:=Lib.hid (fun (h:stlE z c = 0) (W:World) (hzz:z.ok W W.heap.size)=>dm_Ranks_ok z c W hzz h HST.out RT hRT hRE)
 have HR1:=Lib.hid (fun (h:stlE z c = 25) (W:World) (hzz:z.ok W W.heap.size)=>dm_Ranks_err z c 25 W hzz h (by decide))
 have HL0:=Lib.hid (fun (h:stlE z c = 0) (W:World) (hzz:z.ok W W.heap.size)=>dm_Lasso_ok z c W hzz h HST.out RT hRT hRE)
 have HL1:=Lib.hid (fun (h:stlE z c = 25) (W:World) (hzz:z.ok W W.heap.size)=>dm_Lasso_err z c 25 W hzz h (by decide))
 have HLV:=Lib.hid (fun (W:World) (hzz:z.ok W W.heap.size)=>law_live41 z W hzz HWF.out)
 have HQT:=Lib.hid (fun (W:World) (hzz:z.ok W W.heap.size)=>law_quiet41 z W hzz HDM.out)
 have HRK:=Lib.hid (fun (W:World) (hzz:z.ok W W.heap.size)=>law_ranks41 z c W hzz HDM.out HST.out RT hRT hRE)
 have HLS:=Lib.hid (fun (F FC N NC:IV) (hlw:LasW z.m c F.l FC.l N.l NC.l) (W:World) (hzz:z.ok W W.heap.size) (q1:F.ok W W.heap.size) (q2:FC.ok W W.heap.size) (q3:N.ok W W.heap.size) (q4:NC.ok W W.heap.size) (hs:F.n ≤ 1000000∧FC.n ≤ 1000000∧N.n ≤ 1000000∧NC.n ≤ 1000000) =>
  law_lasso z c F FC N NC true W hzz q1 q2 q3 q4 hs (by rw [lasL_verB HWF.out HEA.out];exact (verB_iff (m:=z.m) HWF.out).2 hlw))
 have HVF:=Lib.hid (fun (F FC N NC:IV) (hlw:LasW z.m c F.l FC.l N.l NC.l) (W:World) (hzz:z.ok W W.heap.size) (q1:F.ok W W.heap.size) (q2:FC.ok W W.heap.size) (q3:N.ok W W.heap.size) (q4:NC.ok W W.heap.size) (hs:F.n ≤ 1000000∧FC.n ≤ 1000000∧N.n ≤ 1000000∧NC.n ≤ 1000000) =>
  dm_Verify z c F FC N NC 0 W hzz q1 q2 q3 q4 hs (by unfold verE;rw [if_neg (by rw [HCL.out];simp),if_pos ((verB_iff (m:=z.m) HWF.out).2 hlw)]))
 obtain ⟨LV,hLV⟩:∃ b,(liveR z.x.a).2 = b:=⟨_,rfl⟩
 obtain ⟨QT,hQT⟩:∃ b,(cycF z.x.a (kndL z 4)).2 = b:=⟨_,rfl⟩
 rw [hLV] at HLV HSI
 rw [hQT] at HQT HSI
 obtain ⟨SE,hSE⟩:∃ s,stlE z c = s:=⟨_,rfl⟩
 rw [hSE] at HPL HD0 HD1 HR0 HR1 HL0 HL1 HSI
 obtain ⟨m,hm⟩:∃ m,z.m = m:=⟨_,rfl⟩
 rw [hm] at HPL HLS HVF
 clear hm hSE hLV hQT hRT hRE HCL HDM HWF HEA HLL HST
 obtain ⟨⟨A,na,ca,M,nm,cm,E,ne,ce,a⟩,V,nv,cv,l⟩:=z
 unfold dvc at HD0 HD1 HR0 HR1 HL0 HL1 HLV HQT HRK HLS HVF ⊢
 dsimp only [IV.v] at HD0 HD1 HR0 HR1 HL0 HL1 HLV HQT HRK HLS HVF ⊢
 obtain ⟨sv,hsv⟩:∃ s,a.st = s:=⟨_,rfl⟩
 rw [hsv] at HD0 HD1 HR0 HR1 HL0 HL1 HLV HQT HRK HLS HVF ⊢
 clear hsv
 have hbx:=box_below w4 (.cells #[.slice A na ca,.int .i64 sv,.slice M nm cm,.slice E ne ce,.slice V nv cv] 37)
 have kb:Blk (w4.alloc (.cells #[.slice A na ca,.int .i64 sv,.slice M nm cm,.slice E ne ce,.slice V nv cv] 37)) w4.heap.size 37 [.slice A na ca,.int .i64 sv,.slice M nm cm,.slice E ne ce,.slice V nv cv]:=Blk.new _ _ [_,_,_,_,_]
 have HB5:=Lib.hid (HB4.out.trans (hbx.mono HB4.out.size))
 have HZ5:=Lib.hid ((HZ.out.below hbx).more hbx.size)
 have HK5:=Lib.hid kb
 clear hbx HZ HB4 kb
 go_upto_region 4 with fail
 generalize w4.heap.size = bx at HK5 ⊢
 generalize w4.alloc (.cells #[.slice A na ca,.int .i64 sv,.slice M nm cm,.slice E ne ce,.slice V nv cv] 37) = w5 at HK5 HB5 HZ5 ⊢
 try rw [hcv]
 clear hcv
 obtain ⟨a0,a1,a2,a3,a4⟩:=Blk.c5 HK5.out
 have hcase:SE = 25∧(LV = false ∨ (LV = true∧QT = true)) ∨ SE = 0∧LV = true∧QT = false:=by
  rw [HSI.out]
  cases LV <;> cases QT <;> simp
 clear HSI
 rcases hcase with ⟨hse,hlq⟩ | ⟨hse,rfl,rfl⟩
 ·clear HD0 HR0 HL0 HPL HRK HLS HVF
  have HC:=Lib.hid (HD1.out hse w5 HZ5.out)
  have HSE:=Lib.hid hse
  clear hse HD1
  go_wp2_with fail
  refine HC.out.mono ?_
  rintro _ w6 ⟨rfl,hb6⟩
  have HB6:=Lib.hid (HB5.out.trans (hb6.mono HB5.out.size))
  have HZ6:=Lib.hid ((HZ5.out.below hb6).more hb6.size)
  have HK6:=Lib.hid (HK5.out.below hb6 HK5.out.lt)
  clear hb6 HC a0 a1 a2 a3 a4 HB5 HZ5 HK5
  obtain ⟨a0,a1,a2,a3,a4⟩:=Blk.c5 HK6.out
  have HC:=Lib.hid (HR1.out HSE.out w6 HZ6.out)
  clear HR1
  go_wp2_with fail
  refine HC.out.mono ?_
  rintro _ w7 ⟨rfl,hb7⟩
  have HB7:=Lib.hid (HB6.out.trans (hb7.mono HB6.out.size))
  have HZ7:=Lib.hid ((HZ6.out.below hb7).more hb7.size)
  have HK7:=Lib.hid (HK6.out.below hb7 HK6.out.lt)
  clear hb7 HC a0 a1 a2 a3 a4 HB6 HZ6 HK6
  obtain ⟨a0,a1,a2,a3,a4⟩:=Blk.c5 HK7.out
  have HC:=Lib.hid (HL1.out HSE.out w7 HZ7.out)
  clear HL1
  go_wp2_with fail
  refine HC.out.mono ?_
  rintro _ w8 ⟨rfl,hb8⟩
  have HB8:=Lib.hid (HB7.out.trans (hb8.mono HB7.out.size))
  have HZ8:=Lib.hid ((HZ7.out.below hb8).more hb8.size)
  have HK8:=Lib.hid (HK7.out.below hb8 HK7.out.lt)
  clear hb8 HC a0 a1 a2 a3 a4 HB7 HZ7 HK7
  obtain ⟨a0,a1,a2,a3,a4⟩:=Blk.c5 HK8.out
  have hbl:=box_below w8 (.cells #[.slice none 0 0,.slice none 0 0,.slice none 0 0,.slice none 0 0] 45)
  have kl:Blk (w8.alloc (.cells #[.slice none 0 0,.slice none 0 0,.slice none 0 0,.slice none 0 0] 45)) w8.heap.size 45 [.slice none 0 0,.slice none 0 0,.slice none 0 0,.slice none 0 0]:=Blk.new _ _ [_,_,_,_]
  have HB9:=Lib.hid (HB8.out.trans (hbl.mono HB8.out.size))
  have HZ9:=Lib.hid ((HZ8.out.below hbl).more hbl.size)
  have HK9:=Lib.hid (HK8.out.below hbl HK8.out.lt)
  clear hbl
  go_upto_region 7 with fail
  clear a0 a1 a2 a3 a4 HB8 HZ8 HK8
  generalize w8.heap.size = lx at kl ⊢
  generalize w8.alloc (.cells #[.slice none 0 0,.slice none 0 0,.slice none 0 0,.slice none 0 0] 45) = w9 at HB9 HZ9 HK9 kl ⊢
  have HLX9:=Lib.hid kl
  clear kl
  obtain ⟨a0,a1,a2,a3,a4⟩:=Blk.c5 HK9.out
  have HC:=Lib.hid (HLV.out w9 HZ9.out)
  clear HLV
  rcases hlq with rfl | ⟨rfl,rfl⟩
  ·go_wp2_with fail
   refine HC.out.mono ?_
   rintro _ w10 ⟨rfl,hb10⟩
   have HB10:=Lib.hid (HB9.out.trans (hb10.mono HB9.out.size))
   obtain ⟨l0,l1,l2,l3⟩:=Blk.c4 (HLX9.out.below hb10 HLX9.out.lt)
   clear HC hb10 a0 a1 a2 a3 a4
   go_wp2
   go_ret
   exact ⟨rfl,HBL.out _ HB10.out⟩
  ·have HQ:=Lib.hid (fun (W:World) (hzz:DV.ok W W.heap.size ⟨⟨A,na,ca,M,nm,cm,E,ne,ce,a⟩,V,nv,cv,l⟩)=>HQT.out W hzz)
   go_wp2_with fail
   refine HC.out.mono ?_
   rintro _ w10 ⟨rfl,hb10⟩
   have HLX10:=Lib.hid (HLX9.out.below hb10 HLX9.out.lt)
   have HB10:=Lib.hid (HB9.out.trans (hb10.mono HB9.out.size))
   have HZ10:=Lib.hid ((HZ9.out.below hb10).more hb10.size)
   have HK10:=Lib.hid (HK9.out.below hb10 HK9.out.lt)
   clear hb10 HC a0 a1 a2 a3 a4 HB9 HZ9 HK9
   obtain ⟨a0,a1,a2,a3,a4⟩:=Blk.c5 HK10.out
   have HC:=Lib.hid (HQ.out w10 HZ10.out)
   go_wp2_with fail
   refine HC.out.mono ?_
   rintro _ w11 ⟨rfl,hb11⟩
   have HB11:=Lib.hid (HB10.out.trans (hb11.mono HB10.out.size))
   obtain ⟨l0,l1,l2,l3⟩:=Blk.c4 (HLX10.out.below hb11 HLX10.out.lt)
   clear HC hb11 a0 a1 a2 a3 a4
   go_wp2
   go_ret
   exact ⟨rfl,HBL.out _ HB11.out⟩
 obtain ⟨hlaw,hcs⟩:=HPL.out hse
 have HD:=Lib.hid (HD0.out hse)
 have HR:=Lib.hid (HR0.out hse)
 have HL:=Lib.hid (HL0.out hse)
 have HLAW:=Lib.hid hlaw
 clear HD0 HD1 HR0 HR1 HL0 HL1 HPL hse hlaw
 rcases hcs with ⟨hdn,pp,cy,hls,hlw,hp5,hc5⟩ | ⟨⟨⟨r9,b9⟩,hds⟩,hls⟩
 ·have hbn:bndS RT = 0:=by unfold bndS;rw [hdn]
  rw [hdn] at HD HR HLAW
  rw [hbn] at HD
  rw [hls] at HL
  have HLW:=Lib.hid hlw
  have y1:(fst1 (pp.map Ed.e)).length ≤ 5000:=Nat.le_trans (fst1_le _) (by rw [List.length_map];exact hp5)
  have y2:(fst1 (cy.map Ed.e)).length ≤ 5000:=Nat.le_trans (fst1_le _) (by rw [List.length_map];exact hc5)
  have y3:(snd1 (pp.map Ed.e)).length ≤ 5000:=Nat.le_trans (snd1_le _) (by rw [List.length_map];exact hp5)
  have y4:(snd1 (cy.map Ed.e)).length ≤ 5000:=Nat.le_trans (snd1_le _) (by rw [List.length_map];exact hc5)
  have HL:=Lib.hid (fun (W:World) (hzz:DV.ok W W.heap.size ⟨⟨A,na,ca,M,nm,cm,E,ne,ce,a⟩,V,nv,cv,l⟩)=>(HL.out W hzz).mono (fun e w' h=>(show ∃ v1 v2 v3 v4,e = .returned (.tuple #[.agg #[v1,v2,v3,v4],.bool true,.int .i64 0])∧(w'.ownsRow W.heap.size 3 1 v1 (fst1 (pp.map Ed.e)).length (iv (fst1 (pp.map Ed.e)))∧w'.ownsRow W.heap.size 3 1 v2 (fst1 (cy.map Ed.e)).length (iv (fst1 (cy.map Ed.e)))∧w'.ownsRow W.heap.size 3 1 v3 (snd1 (pp.map Ed.e)).length (iv (snd1 (pp.map Ed.e)))∧w'.ownsRow W.heap.size 3 1 v4 (snd1 (cy.map Ed.e)).length (iv (snd1 (cy.map Ed.e))))∧Below W.heap.size W w' from by
   obtain ⟨hb,v1,v2,v3,v4,e1,o1,o2,o3,o4⟩:=h
   exact ⟨v1,v2,v3,v4,e1,⟨o1,o2,o3,o4⟩,hb⟩)))
  clear hdn hls hlw hbn hp5 hc5
  generalize fst1 (pp.map Ed.e) = wF at HL HLW y1
  generalize fst1 (cy.map Ed.e) = wFC at HL HLW y2
  generalize snd1 (pp.map Ed.e) = wN at HL HLW y3
  generalize snd1 (cy.map Ed.e) = wNC at HL HLW y4
  have HC:=Lib.hid (HD.out w5 HZ5.out)
  clear HD
  go_wp2_with fail
  refine HC.out.mono ?_
  rintro _ w6 ⟨rfl,hb6⟩
  have HB6:=Lib.hid (HB5.out.trans (hb6.mono HB5.out.size))
  have HZ6:=Lib.hid ((HZ5.out.below hb6).more hb6.size)
  have HK6:=Lib.hid (HK5.out.below hb6 HK5.out.lt)
  clear hb6 HC a0 a1 a2 a3 a4 HB5 HZ5 HK5
  obtain ⟨a0,a1,a2,a3,a4⟩:=Blk.c5 HK6.out
  have HC:=Lib.hid (HR.out w6 HZ6.out)
  clear HR
  go_wp2_with fail
  refine HC.out.mono ?_
  rintro _ w7 ⟨hb7,rfl⟩
  have HB7:=Lib.hid (HB6.out.trans (hb7.mono HB6.out.size))
  have HZ7:=Lib.hid ((HZ6.out.below hb7).more hb7.size)
  have HK7:=Lib.hid (HK6.out.below hb7 HK6.out.lt)
  clear hb7 HC a0 a1 a2 a3 a4 HB6 HZ6 HK6
  obtain ⟨a0,a1,a2,a3,a4⟩:=Blk.c5 HK7.out
  have HC:=Lib.hid (HL.out w7 HZ7.out)
  clear HL
  go_wp2_with fail
  refine HC.out.mono ?_
  rintro _ w8 ⟨v1,v2,v3,v4,rfl,⟨o1,o2,o3,o4⟩,hb8⟩
  obtain ⟨FA,fc,rfl,f1,f2,f3⟩:=own_slI o1
  obtain ⟨CA,cc,rfl,g1,g2,g3⟩:=own_slI o2
  obtain ⟨NA,nc,rfl,i1,i2,i3⟩:=own_slI o3
  obtain ⟨DA,dc,rfl,j1,j2,j3⟩:=own_slI o4
  have HV8:=Lib.hid (fun (W:World) (hb:Below w8.heap.size w8 W)=>(show IV.ok W W.heap.size ⟨FA,wF.length,fc,wF⟩∧IV.ok W W.heap.size ⟨CA,wFC.length,cc,wFC⟩∧IV.ok W W.heap.size ⟨NA,wN.length,nc,wN⟩∧IV.ok W W.heap.size ⟨DA,wNC.length,dc,wNC⟩ from
   ⟨⟨rfl,f1,f2,(f3.below hb).more hb.size⟩,⟨rfl,g1,g2,(g3.below hb).more hb.size⟩,⟨rfl,i1,i2,(i3.below hb).more hb.size⟩,⟨rfl,j1,j2,(j3.below hb).more hb.size⟩⟩))
  have HLS2:=Lib.hid (fun (W:World) (hzz:DV.ok W W.heap.size ⟨⟨A,na,ca,M,nm,cm,E,ne,ce,a⟩,V,nv,cv,l⟩) (hb:Below w8.heap.size w8 W)=>HLS.out ⟨FA,wF.length,fc,wF⟩ ⟨CA,wFC.length,cc,wFC⟩ ⟨NA,wN.length,nc,wN⟩ ⟨DA,wNC.length,dc,wNC⟩ HLW.out W hzz (HV8.out W hb).1 (HV8.out W hb).2.1 (HV8.out W hb).2.2.1 (HV8.out W hb).2.2.2 ⟨by dsimp only;omega,by dsimp only;omega,by dsimp only;omega,by dsimp only;omega⟩)
  have HVF2:=Lib.hid (fun (W:World) (hzz:DV.ok W W.heap.size ⟨⟨A,na,ca,M,nm,cm,E,ne,ce,a⟩,V,nv,cv,l⟩) (hb:Below w8.heap.size w8 W)=>HVF.out ⟨FA,wF.length,fc,wF⟩ ⟨CA,wFC.length,cc,wFC⟩ ⟨NA,wN.length,nc,wN⟩ ⟨DA,wNC.length,dc,wNC⟩ HLW.out W hzz (HV8.out W hb).1 (HV8.out W hb).2.1 (HV8.out W hb).2.2.1 (HV8.out W hb).2.2.2 ⟨by dsimp only;omega,by dsimp only;omega,by dsimp only;omega,by dsimp only;omega⟩)
  dsimp only at HLS2 HVF2
  have HG8:=Lib.hid (fun (W:World) (hb:Below w8.heap.size w8 W)=>hb)
  clear HLS HVF HV8 HLW o1 o2 o3 o4 f1 f2 f3 g1 g2 g3 i1 i2 i3 j1 j2 j3
  generalize wF.length = nF at HLS2 HVF2 y1 ⊢
  generalize wFC.length = nC at HLS2 HVF2 y2 ⊢
  generalize wN.length = nN at HLS2 HVF2 y3 ⊢
  generalize wNC.length = nD at HLS2 HVF2 y4 ⊢
  have HB8:=Lib.hid (HB7.out.trans (hb8.mono HB7.out.size))
  have HZ8:=Lib.hid ((HZ7.out.below hb8).more hb8.size)
  have HK8:=Lib.hid (HK7.out.below hb8 HK7.out.lt)
  clear hb8 HC a0 a1 a2 a3 a4 HB7 HZ7 HK7
  obtain ⟨a0,a1,a2,a3,a4⟩:=Blk.c5 HK8.out
  have hbl:=box_below w8 (.cells #[.slice FA nF fc,.slice CA nC cc,.slice NA nN nc,.slice DA nD dc] 45)
  have kl:Blk (w8.alloc (.cells #[.slice FA nF fc,.slice CA nC cc,.slice NA nN nc,.slice DA nD dc] 45)) w8.heap.size 45 [.slice FA nF fc,.slice CA nC cc,.slice NA nN nc,.slice DA nD dc]:=Blk.new _ _ [_,_,_,_]
  have HB9:=Lib.hid (HB8.out.trans (hbl.mono HB8.out.size))
  have HZ9:=Lib.hid ((HZ8.out.below hbl).more hbl.size)
  have HK9:=Lib.hid (HK8.out.below hbl HK8.out.lt)
  have hq_HG:=fun (W:World) (hb:Below (w8.alloc (.cells #[.slice FA nF fc,.slice CA nC cc,.slice NA nN nc,.slice DA nD dc] 45)).heap.size (w8.alloc (.cells #[.slice FA nF fc,.slice CA nC cc,.slice NA nN nc,.slice DA nD dc] 45)) W)=>HG8.out W (hbl.trans (hb.mono hbl.size))
  clear hbl
  go_upto_region 7 with fail
  clear a0 a1 a2 a3 a4 HB8 HZ8 HK8 HG8
  generalize w8.heap.size = lx at kl ⊢
  generalize w8.alloc (.cells #[.slice FA nF fc,.slice CA nC cc,.slice NA nN nc,.slice DA nD dc] 45) = w9 at HB9 HZ9 HK9 kl hq_HG ⊢
  have HG9:=Lib.hid hq_HG
  clear hq_HG
  have HLX9:=Lib.hid kl
  clear kl
  obtain ⟨a0,a1,a2,a3,a4⟩:=Blk.c5 HK9.out
  have HC:=Lib.hid (HLV.out w9 HZ9.out)
  go_wp2_with fail
  refine HC.out.mono ?_
  rintro _ w10 ⟨rfl,hb10⟩
  have HLX10:=Lib.hid (HLX9.out.below hb10 HLX9.out.lt)
  have HB10:=Lib.hid (HB9.out.trans (hb10.mono HB9.out.size))
  have HZ10:=Lib.hid ((HZ9.out.below hb10).more hb10.size)
  have HK10:=Lib.hid (HK9.out.below hb10 HK9.out.lt)
  have HG10:=Lib.hid (fun (W:World) (hb:Below w10.heap.size w10 W)=>HG9.out W (hb10.trans (hb.mono hb10.size)))
  clear hb10 HC a0 a1 a2 a3 a4 HB9 HZ9 HK9 HG9
  obtain ⟨a0,a1,a2,a3,a4⟩:=Blk.c5 HK10.out
  have HC:=Lib.hid (HQT.out w10 HZ10.out)
  go_wp2_with fail
  refine HC.out.mono ?_
  rintro _ w11 ⟨rfl,hb11⟩
  have HLX11:=Lib.hid (HLX10.out.below hb11 HLX10.out.lt)
  have HB11:=Lib.hid (HB10.out.trans (hb11.mono HB10.out.size))
  have HZ11:=Lib.hid ((HZ10.out.below hb11).more hb11.size)
  have HK11:=Lib.hid (HK10.out.below hb11 HK10.out.lt)
  have HG11:=Lib.hid (fun (W:World) (hb:Below w11.heap.size w11 W)=>HG10.out W (hb11.trans (hb.mono hb11.size)))
  clear hb11 HC a0 a1 a2 a3 a4 HB10 HZ10 HK10 HG10
  obtain ⟨a0,a1,a2,a3,a4⟩:=Blk.c5 HK11.out
  have HC:=Lib.hid (HRK.out w11 HZ11.out)
  go_wp2_with fail
  refine HC.out.mono ?_
  rintro e12 w12 ⟨hrk,hb12⟩
  have hrk2:e12 = Ending.returned (.tuple #[.slice none 0 0,.int .i64 0,.bool false]):=by
   rcases hrk with ⟨_,h⟩ | ⟨v,r,b,h,_⟩
   ·exact h
   ·rw [HLAW.out] at h;cases h
  clear hrk
  subst hrk2
  have HLX12:=Lib.hid (HLX11.out.below hb12 HLX11.out.lt)
  have HB12:=Lib.hid (HB11.out.trans (hb12.mono HB11.out.size))
  have HZ12:=Lib.hid ((HZ11.out.below hb12).more hb12.size)
  have HK12:=Lib.hid (HK11.out.below hb12 HK11.out.lt)
  have HG12:=Lib.hid (fun (W:World) (hb:Below w12.heap.size w12 W)=>HG11.out W (hb12.trans (hb.mono hb12.size)))
  clear hb12 HC a0 a1 a2 a3 a4 HB11 HZ11 HK11 HG11
  obtain ⟨a0,a1,a2,a3,a4⟩:=Blk.c5 HK12.out
  obtain ⟨l0,l1,l2,l3⟩:=Blk.c4 HLX12.out
  have HC:=Lib.hid (HLS2.out w12 HZ12.out (HG12.out w12 (Below.refl _ _)))
  clear HLS2
  go_wp2_with fail
  refine HC.out.mono ?_
  rintro _ w13 ⟨rfl,hb13⟩
  clear l0 l1 l2 l3
  have HLX13:=Lib.hid (HLX12.out.below hb13 HLX12.out.lt)
  have HB13:=Lib.hid (HB12.out.trans (hb13.mono HB12.out.size))
  have HZ13:=Lib.hid ((HZ12.out.below hb13).more hb13.size)
  have HK13:=Lib.hid (HK12.out.below hb13 HK12.out.lt)
  have HG13:=Lib.hid (fun (W:World) (hb:Below w13.heap.size w13 W)=>HG12.out W (hb13.trans (hb.mono hb13.size)))
  clear hb13 HC a0 a1 a2 a3 a4 HB12 HZ12 HK12 HG12
  obtain ⟨a0,a1,a2,a3,a4⟩:=Blk.c5 HK13.out
  obtain ⟨l0,l1,l2,l3⟩:=Blk.c4 HLX13.out
  have HC:=Lib.hid (HVF2.out w13 HZ13.out (HG13.out w13 (Below.refl _ _)))
  clear HVF2
  go_wp2_with fail
  refine HC.out.mono ?_
  rintro _ w14 ⟨rfl,hb14⟩
  have HB14:=Lib.hid (HB13.out.trans (hb14.mono HB13.out.size))
  clear l0 l1 l2 l3 HC hb14 a0 a1 a2 a3 a4
  go_wp2
  go_ret
  exact ⟨rfl,HBL.out _ HB14.out⟩
 ·have hbn:bndS RT = b9:=by unfold bndS;rw [hds]
  rw [hds] at HD HR HLAW
  rw [hbn] at HD
  rw [hls] at HL
  clear hds hls hbn HLS HVF
  have HC:=Lib.hid (HD.out w5 HZ5.out)
  clear HD
  go_wp2_with fail
  refine HC.out.mono ?_
  rintro _ w6 ⟨rfl,hb6⟩
  have HB6:=Lib.hid (HB5.out.trans (hb6.mono HB5.out.size))
  have HZ6:=Lib.hid ((HZ5.out.below hb6).more hb6.size)
  have HK6:=Lib.hid (HK5.out.below hb6 HK5.out.lt)
  clear hb6 HC a0 a1 a2 a3 a4 HB5 HZ5 HK5
  obtain ⟨a0,a1,a2,a3,a4⟩:=Blk.c5 HK6.out
  have HC:=Lib.hid (HR.out w6 HZ6.out)
  clear HR
  go_wp2_with fail
  refine HC.out.mono ?_
  rintro _ w7 ⟨hb7,v7,rfl,o7⟩
  obtain ⟨A7,c7,rfl,f1,f2,f3⟩:=own_slI o7
  have HG7:=Lib.hid (fun (W:World) (hb:Below w7.heap.size w7 W)=>(show RdI W W.heap.size A7 r9 from (f3.below hb).more hb.size))
  clear o7 f3
  have HB7:=Lib.hid (HB6.out.trans (hb7.mono HB6.out.size))
  have HZ7:=Lib.hid ((HZ6.out.below hb7).more hb7.size)
  have HK7:=Lib.hid (HK6.out.below hb7 HK6.out.lt)
  clear hb7 HC a0 a1 a2 a3 a4 HB6 HZ6 HK6
  obtain ⟨a0,a1,a2,a3,a4⟩:=Blk.c5 HK7.out
  have HC:=Lib.hid (HL.out w7 HZ7.out)
  clear HL
  go_wp2_with fail
  refine HC.out.mono ?_
  rintro _ w8 ⟨hb8,rfl⟩
  have HB8:=Lib.hid (HB7.out.trans (hb8.mono HB7.out.size))
  have HZ8:=Lib.hid ((HZ7.out.below hb8).more hb8.size)
  have HK8:=Lib.hid (HK7.out.below hb8 HK7.out.lt)
  have HG8:=Lib.hid (fun (W:World) (hb:Below w8.heap.size w8 W)=>HG7.out W (hb8.trans (hb.mono hb8.size)))
  clear hb8 HC a0 a1 a2 a3 a4 HB7 HZ7 HK7 HG7
  obtain ⟨a0,a1,a2,a3,a4⟩:=Blk.c5 HK8.out
  have hbl:=box_below w8 (.cells #[.slice none 0 0,.slice none 0 0,.slice none 0 0,.slice none 0 0] 45)
  have kl:Blk (w8.alloc (.cells #[.slice none 0 0,.slice none 0 0,.slice none 0 0,.slice none 0 0] 45)) w8.heap.size 45 [.slice none 0 0,.slice none 0 0,.slice none 0 0,.slice none 0 0]:=Blk.new _ _ [_,_,_,_]
  have HB9:=Lib.hid (HB8.out.trans (hbl.mono HB8.out.size))
  have HZ9:=Lib.hid ((HZ8.out.below hbl).more hbl.size)
  have HK9:=Lib.hid (HK8.out.below hbl HK8.out.lt)
  have hq_HG:=fun (W:World) (hb:Below (w8.alloc (.cells #[.slice none 0 0,.slice none 0 0,.slice none 0 0,.slice none 0 0] 45)).heap.size (w8.alloc (.cells #[.slice none 0 0,.slice none 0 0,.slice none 0 0,.slice none 0 0] 45)) W)=>HG8.out W (hbl.trans (hb.mono hbl.size))
  clear hbl
  go_upto_region 7 with fail
  clear a0 a1 a2 a3 a4 HB8 HZ8 HK8 HG8
  generalize w8.heap.size = lx at kl ⊢
  generalize w8.alloc (.cells #[.slice none 0 0,.slice none 0 0,.slice none 0 0,.slice none 0 0] 45) = w9 at HB9 HZ9 HK9 kl hq_HG ⊢
  have HG9:=Lib.hid hq_HG
  clear hq_HG
  have HLX9:=Lib.hid kl
  clear kl
  obtain ⟨a0,a1,a2,a3,a4⟩:=Blk.c5 HK9.out
  have HC:=Lib.hid (HLV.out w9 HZ9.out)
  go_wp2_with fail
  refine HC.out.mono ?_
  rintro _ w10 ⟨rfl,hb10⟩
  have HLX10:=Lib.hid (HLX9.out.below hb10 HLX9.out.lt)
  have HB10:=Lib.hid (HB9.out.trans (hb10.mono HB9.out.size))
  have HZ10:=Lib.hid ((HZ9.out.below hb10).more hb10.size)
  have HK10:=Lib.hid (HK9.out.below hb10 HK9.out.lt)
  have HG10:=Lib.hid (fun (W:World) (hb:Below w10.heap.size w10 W)=>HG9.out W (hb10.trans (hb.mono hb10.size)))
  clear hb10 HC a0 a1 a2 a3 a4 HB9 HZ9 HK9 HG9
  obtain ⟨a0,a1,a2,a3,a4⟩:=Blk.c5 HK10.out
  have HC:=Lib.hid (HQT.out w10 HZ10.out)
  go_wp2_with fail
  refine HC.out.mono ?_
  rintro _ w11 ⟨rfl,hb11⟩
  have HLX11:=Lib.hid (HLX10.out.below hb11 HLX10.out.lt)
  have HB11:=Lib.hid (HB10.out.trans (hb11.mono HB10.out.size))
  have HZ11:=Lib.hid ((HZ10.out.below hb11).more hb11.size)
  have HK11:=Lib.hid (HK10.out.below hb11 HK10.out.lt)
  have HG11:=Lib.hid (fun (W:World) (hb:Below w11.heap.size w11 W)=>HG10.out W (hb11.trans (hb.mono hb11.size)))
  clear hb11 HC a0 a1 a2 a3 a4 HB10 HZ10 HK10 HG10
  obtain ⟨a0,a1,a2,a3,a4⟩:=Blk.c5 HK11.out
  have HC:=Lib.hid (HRK.out w11 HZ11.out)
  go_wp2_with fail
  refine HC.out.mono ?_
  rintro e12 w12 ⟨hrk,hb12⟩
  obtain ⟨v,rfl,ho12⟩:∃ v,e12 = Ending.returned (.tuple #[v,.int .i64 b9,.bool true])∧w12.ownsRow w11.heap.size 3 1 v r9.length (iv r9):=by
   rcases hrk with ⟨h,_⟩ | ⟨v,r,b,h,e1,o1⟩
   ·rw [HLAW.out] at h;cases h
   ·rw [HLAW.out] at h
    injection h with h
    injection h with h1 h2
    subst h1 h2
    exact ⟨v,e1,o1⟩
  obtain ⟨A12,c12,rfl,k1,k2,k3⟩:=own_slI ho12
  have HE:=Lib.hid (slices_Equal_n A7 A12 c7 c12 r9.length r9.length r9 r9 true w12 rfl rfl (eqB_of rfl) (HG11.out w12 hb12) f1 f2 k3)
  clear hrk ho12 k1 k2 k3
  generalize r9.length = nr at HE f1 ⊢
  have HLX12:=Lib.hid (HLX11.out.below hb12 HLX11.out.lt)
  have HB12:=Lib.hid (HB11.out.trans (hb12.mono HB11.out.size))
  have HZ12:=Lib.hid ((HZ11.out.below hb12).more hb12.size)
  have HK12:=Lib.hid (HK11.out.below hb12 HK11.out.lt)
  have HG12:=Lib.hid (fun (W:World) (hb:Below w12.heap.size w12 W)=>HG11.out W (hb12.trans (hb.mono hb12.size)))
  clear hb12 HC a0 a1 a2 a3 a4 HB11 HZ11 HK11 HG11
  obtain ⟨a0,a1,a2,a3,a4⟩:=Blk.c5 HK12.out
  obtain ⟨l0,l1,l2,l3⟩:=Blk.c4 HLX12.out
  go_wp2_with fail
  refine HE.out.mono ?_
  rintro _ w13 ⟨rfl,n13,rfl⟩
  have hb13:Below w12.heap.size w12 (w12.drewN n13):=below_drewN (Below.refl _ _) _
  have HB13:=Lib.hid (HB12.out.trans (hb13.mono HB12.out.size))
  have HLX13:=Lib.hid (HLX12.out.below hb13 HLX12.out.lt)
  clear l0 l1 l2 l3 HE hb13 a0 a1 a2 a3 a4
  generalize w12.drewN n13 = w13 at HB13 HLX13 ⊢
  obtain ⟨l0,l1,l2,l3⟩:=Blk.c4 HLX13.out
  go_wp2
  go_ret
  exact ⟨rfl,HBL.out _ HB13.out⟩
end Go.Proofs.YtddhaidimadliaaGreat
