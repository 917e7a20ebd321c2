/- Verify's tables in memory; walk: facts.keeps. -/
import Derived.Test.YtdnmpndnpfklcaaXg
namespace Go.Proofs.Ytdnmpndnpfklcaa
open Go.RowKit Go Go.Maps
structure FV where
 x:AV
 n:Nat
 kb:Nat
 db:Nat
 rb:Nat
 mb:Nat
 fb:Nat
 cb:Nat
 K:List Bool
 D:List Int
 R:List Rm
 U:List Int
 F:List Int
def fvc (z:FV):List Value:=[.slice z.x.A z.x.na z.x.ca,.int .i64 z.x.a.st,.slice z.x.M z.x.nm z.x.cm,.slice z.x.E z.x.ne z.x.ce,.slice (some ⟨z.kb,0,none⟩) z.n z.n,.slice (some ⟨z.db,0,none⟩) z.n z.n,.slice (some ⟨z.rb,0,none⟩) z.n z.n,.slice (some ⟨z.mb,0,none⟩) z.n z.n,.slice (some ⟨z.fb,0,none⟩) z.n z.n,.slice (some ⟨z.cb,0,none⟩) 32 32]
def FV.m (z:FV):Mx:=⟨z.x.a,z.U,z.F⟩
structure FV.ok (w:World) (z:FV):Prop where
 x:z.x.ok w w.heap.size
 st:z.x.a.st = (z.n:Int)
 k:Blk w z.kb 4 (bvl z.K)
 kl:z.K.length = z.n
 d:Blk w z.db 3 (iv z.D)
 dl:z.D.length = z.n
 r:Blk w z.rb 63 (z.R.flatMap rmc)
 rl:z.R.length = z.n
 m:Blk w z.mb 4 (bvl (inF z.n z.x.a.ma))
 f:Blk w z.fb 4 (bvl (inF z.n z.F))
 c:Blk w z.cb 4 (bvl (inF 32 z.U))
theorem FV.ok.below {w w':World} {z:FV} (h:z.ok w) (hb:Below w.heap.size w w'):z.ok w' :=
 ⟨AutR.more (AutR.below h.x hb) hb.size,h.st,h.k.below hb h.k.lt,h.kl,h.d.below hb h.d.lt,h.dl,h.r.below hb h.r.lt,h.rl,h.m.below hb h.m.lt,h.f.below hb h.f.lt,h.c.below hb h.c.lt⟩
def RetB (P:Prop) (w:World) (e:Ending) (w':World):Prop:=∃ q:Bool,e = .returned (.bool q)∧(q = true ↔ P)∧Below w.heap.size w w'
def fwX (K:List Bool) (D:List Int) (G:List Bool) (x:Ed):List Bool:=if fl K x.f = true∧fl K x.t = true∧gI D x.t < gI D x.f then fset G x.f else G
def fwS (n:Nat) (K:List Bool) (D:List Int) (es:List Ed):List Bool:=es.foldl (fwX K D) (List.replicate n false)
theorem fwS_snoc {n:Nat} {K:List Bool} {D:List Int} {es:List Ed} {j:Nat} {x:Ed} (h:es[j]? = some x):fwS n K D (es.take (j + 1)) = fwX K D (fwS n K D (es.take j)) x:=by
 unfold fwS;rw [take_snoc' h,List.foldl_append];rfl
theorem fwX_len (K:List Bool) (D:List Int) (G:List Bool) (x:Ed):(fwX K D G x).length = G.length:=by
 unfold fwX
 split
 ·rw [fset_len]
 ·rfl
theorem fwF_len (K:List Bool) (D:List Int):∀ (es:List Ed) (G:List Bool),(es.foldl (fwX K D) G).length = G.length
 | [],_=>rfl
 | x :: r,G=>by rw [List.foldl_cons,fwF_len K D r,fwX_len]
theorem fwS_len (n:Nat) (K:List Bool) (D:List Int) (es:List Ed):(fwS n K D es).length = n:=by unfold fwS;rw [fwF_len,List.length_replicate]
theorem fwF_iff {n:Nat} {K:List Bool} {D:List Int} {s:Int} (h0:0 ≤ s):∀ (es:List Ed) (G:List Bool),G.length = n → (∀ x ∈ es,0 ≤ x.f∧x.f < (n:Int)) → (fl (es.foldl (fwX K D) G) s = true ↔ fl G s = true ∨ ∃ x ∈ es,x.f = s∧fl K x.f = true∧fl K x.t = true∧gI D x.t < gI D x.f)
 | [],G,_,_=>by simp
 | x :: r,G,hG,hr=>by
  have hx:=hr x List.mem_cons_self
  rw [List.foldl_cons,fwF_iff h0 r (fwX K D G x) (by rw [fwX_len];exact hG) (fun y hy=>hr y (List.mem_cons_of_mem _ hy))]
  have h1:fl (fwX K D G x) s = true ↔ fl G s = true ∨ (x.f = s∧fl K x.f = true∧fl K x.t = true∧gI D x.t < gI D x.f):=by
   unfold fwX
   by_cases hc:fl K x.f = true∧fl K x.t = true∧gI D x.t < gI D x.f
   ·rw [if_pos hc,fl_set (by rw [hG];exact hx) h0,Bool.or_eq_true,decide_eq_true_eq]
    constructor
    ·rintro (h | h)
     ·exact .inr ⟨h.symm,hc⟩
     ·exact .inl h
    ·rintro (h | h)
     ·exact .inr h
     ·exact .inl h.1.symm
   ·rw [if_neg hc]
    exact ⟨.inl,fun h=>h.elim id (fun h=>absurd h.2 hc)⟩
  rw [h1]
  constructor
  ·rintro ((h | h) | ⟨y,hy,h⟩)
   ·exact .inl h
   ·exact .inr ⟨x,List.mem_cons_self,h⟩
   ·exact .inr ⟨y,List.mem_cons_of_mem _ hy,h⟩
  ·rintro (h | ⟨y,hy,h⟩)
   ·exact .inl (.inl h)
   ·rcases List.mem_cons.1 hy with rfl | hy
    ·exact .inl (.inr h)
    ·exact .inr ⟨y,hy,h⟩
theorem fwS_iff {n:Nat} {K:List Bool} {D:List Int} {es:List Ed} {s:Int} (h0:0 ≤ s) (hr:∀ x ∈ es,0 ≤ x.f∧x.f < (n:Int)):fl (fwS n K D es) s = true ↔ ∃ x ∈ es,x.f = s∧fl K x.f = true∧fl K x.t = true∧gI D x.t < gI D x.f:=by
 unfold fwS
 rw [fwF_iff h0 es _ (List.length_replicate ..) hr,fl_rep]
 simp
theorem fl_self {N:List Bool} {s:Int} {q:Bool} (h:fl N s = q) (h0:0 ≤ s) (h1:s < (N.length:Int)):N.set s.toNat q = N:=by
 have h2:=fl_get h h0 h1
 apply List.ext_getElem?
 intro j
 rw [List.getElem?_set]
 by_cases hj:s.toNat = j
 ·subst hj;rw [if_pos rfl,if_pos (List.getElem?_eq_some_iff.1 h2).1,h2]
 ·rw [if_neg hj]
def KeE (p:Mx) (K:List Bool) (es:List Ed):Prop:=∀ x ∈ es,fl K x.f = true → fl K x.t = false → hasB p.u x.e = false
theorem KeE.snoc {p:Mx} {K:List Bool} {es:List Ed} {j:Nat} {x:Ed} (h:KeE p K (es.take j)) (hx:es[j]? = some x) (h1:fl K x.f = true → fl K x.t = false → hasB p.u x.e = false):KeE p K (es.take (j + 1)):=by
 intro y hy
 rw [take_snoc' hx] at hy
 rcases List.mem_append.1 hy with hy | hy
 ·exact h y hy
 ·rw [List.mem_singleton.1 hy];exact h1
def KeS (p:Mx) (K:List Bool) (D:List Int) (G:List Bool) (s:Int):Prop:=fl K s = true → s ∉ p.f∧0 ≤ gI D s∧(gI D s = 0 → s ∈ p.a.ma)∧(0 < gI D s → fl G s = true)
theorem keP_iff {p:Mx} (hw:WF p.a) {n:Nat} (hn:p.a.st = (n:Int)) {K:List Bool} {D:List Int} (he:KeE p K p.a.ed):(∀ j:Nat,j < n → KeS p K D (fwS n K D p.a.ed) (j:Int)) ↔ KeP p K D:=by
 have hr:∀ x ∈ p.a.ed,0 ≤ x.f∧x.f < (n:Int):=fun x hx=>by have:=hw.ev_rng hx;omega
 have hst:∀ s,0 ≤ s → s < p.a.st → (KeS p K D (fwS n K D p.a.ed) s ↔ (fl K s = true → s ∉ p.f∧0 ≤ gI D s∧(gI D s = 0 → s ∈ p.a.ma)∧(0 < gI D s → ∃ x ∈ p.a.ed,x.f = s∧fl K x.t = true∧gI D x.t < gI D s))):=by
  intro s h0 h1
  unfold KeS
  constructor
  ·intro h hk
   obtain ⟨a,b,c,d⟩:=h hk
   refine ⟨a,b,c,fun hp=>?_⟩
   obtain ⟨x,hx,e,e1,e2,e3⟩:=(fwS_iff h0 hr).1 (d hp)
   exact ⟨x,hx,e,e2,by rw [← e];exact e3⟩
  ·intro h hk
   obtain ⟨a,b,c,d⟩:=h hk
   refine ⟨a,b,c,fun hp=>?_⟩
   obtain ⟨x,hx,e,e2,e3⟩:=d hp
   exact (fwS_iff h0 hr).2 ⟨x,hx,e,by rw [e];exact hk,e2,by rw [e];exact e3⟩
 constructor
 ·intro h
  refine ⟨he,fun s h0 h1=>?_⟩
  have:=h s.toNat (by omega)
  rw [show ((s.toNat:Nat):Int) = s by omega] at this
  exact (hst s h0 h1).1 this
 ·intro h j hj
  exact (hst (j:Int) (by omega) (by omega)).2 (h.st (j:Int) (by omega) (by omega))
theorem notE {p:Mx} {K:List Bool} {D:List Int} {x:Ed} (hx:x ∈ p.a.ed) (h1:fl K x.f = true) (h2:fl K x.t = false) (h3:hasB p.u x.e = true):¬ KeP p K D:=fun h=>by
 have:=h.ed x hx h1 h2
 rw [h3] at this
 cases this
set_option maxRecDepth 100000 in
set_option maxHeartbeats 3200000 in
theorem max_keeps (z:FV) (w:World) (h:z.ok w) (hw:WF z.x.a) (hu:∀ s ∈ z.U,0 ≤ s∧s < 32) (hf:∀ s ∈ z.F,0 ≤ s∧s < (z.n:Int)) :
  Calls Try.prog 49 #[.agg (fvc z).toArray] w (RetB (KeP z.m z.K z.D) w):=by
 have hb1:=box_below w (.cells (fvc z).toArray 98)
 have kx:=Blk.new w 98 (fvc z)
 obtain ⟨w1,hw1⟩:∃ w1,w1 = w.alloc (.cells (fvc z).toArray 98):=⟨_,rfl⟩
 rw [← hw1] at hb1 kx
 have HZ:=Lib.hid (fun (W:World) (hb:Below w1.heap.size w1 W)=>h.below (hb1.trans (hb.mono hb1.size)))
 have HK:=Lib.hid (fun (W:World) (hb:Below w1.heap.size w1 W)=>kx.below hb kx.lt)
 have HB:=Lib.hid (fun (W:World) (hb:Below w1.heap.size w1 W)=>hb1.trans (hb.mono hb1.size))
 have HW1:=Lib.hid (show w.alloc (.cells (fvc z).toArray 98) = w1 from hw1.symm)
 have HIF:=Lib.hid (keP_iff (p:=z.m) hw h.st (K:=z.K) (D:=z.D))
 have HWF:=Lib.hid hw
 have HU:=Lib.hid hu
 have HF:=Lib.hid hf
 have hst1:=hw.st1
 rw [h.st] at hst1
 have hn4:z.n ≤ 4096:=by omega
 have hel:z.x.ne ≤ 1000000:=by have h1:=hw.ed_le;have h2:z.x.a.ed.length = z.x.ne:=h.x.le;omega
 have HLE:=Lib.hid (show z.x.a.ed.length = z.x.ne from h.x.le)
 have HER:=Lib.hid (show ∀ x ∈ z.x.a.ed,(0 ≤ x.f∧x.f < (z.n:Int))∧(0 ≤ x.t∧x.t < (z.n:Int))∧(0 ≤ x.e∧x.e < 32) from fun x hx=>by have:=hw.ev_rng hx;have:=h.st;omega)
 have HKL:=Lib.hid h.kl
 have HDL:=Lib.hid h.dl
 have hst:=h.st
 clear hb1 kx hw1 h hw hu hf hst1
 unfold fvc at HK HW1 ⊢
 unfold FV.m at HIF ⊢
 obtain ⟨⟨A,na,ca,M,nm,cm,E,ne,ce,a⟩,n,kb,db,rb,mb,fb,cb,K,D,R,U,F⟩:=z
 dsimp only at HK HW1 HIF HWF HU HF hn4 hel HLE HER HKL HDL hst ⊢
 rw [hst] at HK HW1 ⊢
 have HST:=Lib.hid hst
 have hm:∀ W:World,(Instr.makeSlice 87 (.int .i64 (n:Int)) (.int .i64 (n:Int))).run Try.prog W = .ok (.slice (some ⟨W.heap.size,0,none⟩) n n) (W.alloc (.cells (madeCells #[.bool false] n) 4)):=fun W=>run_make_row' 87 4 (.bool false) 1 Try.underlying87 bool_info rfl .i64 .i64 n (by omega) (by omega) W
 have HG0:=Lib.hid (show Blk (w1.alloc (.cells (madeCells #[.bool false] n) 4)) w1.heap.size 4 (bvl (fwS n K D (a.ed.take 0))) by rw [made_bools];exact Blk.new _ _ _)
 have HB0:=Lib.hid (box_below w1 (.cells (madeCells #[.bool false] n) 4))
 have a1:=(HK.out w1 (Below.refl _ _)).cell (j:=1) rfl
 have HE0:=Lib.hid (show KeE ⟨a,U,F⟩ K (a.ed.take 0) from fun x hx=>by simp at hx)
 clear hst
 go_enter Try.func49,Try.ntmps49
 go_upto_region 1 with fail
 rw [HW1.out]
 have a3:=((HK.out _ HB0.out).cell (j:=3) rfl)
 go_wp2
 clear a1 a3 hm
 go_loopw [5,17] (fun s5 s17 wr=>∃ (j:Nat) (v5:Value),s5 = v5∧s17 = .int .i64 j∧j ≤ ne∧Hid (Blk wr w1.heap.size 4 (bvl (fwS n K D (a.ed.take j))))∧Hid (KeE ⟨a,U,F⟩ K (a.ed.take j))∧Hid (Below w1.heap.size w1 wr)) (fun _ s17 _=>ne - (intOf s17).toNat)
 case atStart=>exact ⟨0,_,rfl,rfl,Nat.zero_le _,HG0,HE0,HB0⟩
 case round =>
  clear HG0 HE0 HB0
  obtain ⟨j,v5,rfl,rfl,hj,HG,HE,HB1⟩:=hrel
  by_cases hlt:j < ne
  case neg =>
   obtain ⟨jn,hjn⟩:∃ q,q = ne:=⟨_,rfl⟩
   obtain rfl:j = ne:=by omega
   have b1:¬ (j:Int) < (j:Int):=by omega
   have htk:a.ed.take j = a.ed:=List.take_of_length_le (by rw [HLE.out];exact Nat.le_refl _)
   rw [htk] at HG HE
   have HIF2:=Lib.hid (HIF.out HE.out)
   have d4:=(HK.out wr HB1.out).cell (j:=4) rfl
   have HS0:=Lib.hid (show ∀ i:Nat,i < 0 → KeS ⟨a,U,F⟩ K D (fwS n K D a.ed) (i:Int) from fun i hi=>absurd hi (Nat.not_lt_zero _))
   have HMA:=Lib.hid (show ∀ s ∈ a.ma,0 ≤ s∧s < (n:Int) from fun s hs=>by
    have h1:=HWF.out.mrng s hs
    have h2:=HST.out
    omega)
   clear htk hjn HE HIF
   go_wp2
   clear d4
   go_loopw [6,7,8,69] (fun s6 s7 s8 s69 wr=>∃ (i:Nat) (v6 v7 v8:Value),s6 = v6∧s7 = v7∧s8 = v8∧s69 = .int .i64 i∧i ≤ n∧Hid (∀ q:Nat,q < i → KeS ⟨a,U,F⟩ K D (fwS n K D a.ed) (q:Int))∧Hid (Blk wr w1.heap.size 4 (bvl (fwS n K D a.ed)))∧Hid (Below w1.heap.size w1 wr)) (fun _ _ _ s69 _=>n - (intOf s69).toNat)
   case atStart=>exact ⟨0,_,_,_,rfl,rfl,rfl,rfl,Nat.zero_le _,HS0,HG,HB1⟩
   case round =>
    clear HS0 HG HB1
    obtain ⟨i,v6,v7,v8,rfl,rfl,rfl,rfl,hi,HS,HG,HB1⟩:=hrel
    by_cases hlt2:i < n
    case neg =>
     have b2:¬ (i:Int) < (n:Int):=by omega
     have HKP:=Lib.hid (HIF2.out.1 (fun q hq=>HS.out q (by omega)))
     go_wp2
     go_ret
     exact ⟨true,rfl,⟨fun _=>HKP.out,fun _=>rfl⟩,HB.out _ HB1.out⟩
    have b2:(i:Int) < (n:Int):=by omega
    have hz:=HZ.out wr HB1.out
    have hk:=HK.out wr HB1.out
    obtain ⟨qk,hqk⟩:∃ q,fl K (i:Int) = q:=⟨_,rfl⟩
    obtain ⟨dv,hdv⟩:∃ q,gI D (i:Int) = q:=⟨_,rfl⟩
    obtain ⟨qf,hqf⟩:∃ q,fl (inF n F) (i:Int) = q:=⟨_,rfl⟩
    obtain ⟨qm,hqm⟩:∃ q,fl (inF n a.ma) (i:Int) = q:=⟨_,rfl⟩
    obtain ⟨qg,hqg⟩:∃ q,fl (fwS n K D a.ed) (i:Int) = q:=⟨_,rfl⟩
    have k4:wr.cell? ⟨kb,i,none⟩ = some (.bool qk):=hz.k.cell (by
     have h9:=fl_get hqk (by omega) (by rw [HKL.out];exact b2)
     rw [Int.toNat_natCast] at h9
     rw [bvl_get,h9];rfl)
    have k5:wr.cell? ⟨db,i,none⟩ = some (.int .i64 dv):=by rw [← hdv];exact hz.d.cell (iv_gI (by rw [HDL.out];exact hlt2))
    have k8:wr.cell? ⟨fb,i,none⟩ = some (.bool qf):=hz.f.cell (by
     have h9:=fl_get hqf (by omega) (by rw [inF_len];exact b2)
     rw [Int.toNat_natCast] at h9
     rw [bvl_get,h9];rfl)
    have k7:wr.cell? ⟨mb,i,none⟩ = some (.bool qm):=hz.m.cell (by
     have h9:=fl_get hqm (by omega) (by rw [inF_len];exact b2)
     rw [Int.toNat_natCast] at h9
     rw [bvl_get,h9];rfl)
    have k9:wr.cell? ⟨w1.heap.size,i,none⟩ = some (.bool qg):=HG.out.cell (by
     have h9:=fl_get hqg (by omega) (by rw [fwS_len];exact b2)
     rw [Int.toNat_natCast] at h9
     rw [bvl_get,h9];rfl)
    have c4:=hk.cell (j:=4) rfl
    have c5:=hk.cell (j:=5) rfl
    have c7:=hk.cell (j:=7) rfl
    have c8:=hk.cell (j:=8) rfl
    have hFm:qf = true ↔ (i:Int) ∈ F:=by rw [← hqf];exact inF_fl HF.out (by omega)
    have hMm:qm = true ↔ (i:Int) ∈ a.ma:=by rw [← hqm];exact inF_fl HMA.out (by omega)
    have HKS:=Lib.hid (show KeS ⟨a,U,F⟩ K D (fwS n K D a.ed) (i:Int) ↔ (qk = true → qf = false∧0 ≤ dv∧(dv = 0 → qm = true)∧(0 < dv → qg = true)) from by
     unfold KeS
     rw [hqk,hdv,hqg]
     show (qk = true → ¬ (i:Int) ∈ F∧_∧(_ → (i:Int) ∈ a.ma)∧_) ↔ _
     rw [← hFm,← hMm]
     cases qf <;> simp)
    have HNO:=Lib.hid (show ¬ KeS ⟨a,U,F⟩ K D (fwS n K D a.ed) (i:Int) → ¬ KeP ⟨a,U,F⟩ K D from fun hn hkp=>hn (HIF2.out.2 hkp i hlt2))
    have HYE:=Lib.hid (show KeS ⟨a,U,F⟩ K D (fwS n K D a.ed) (i:Int) → ∀ q:Nat,q < i + 1 → KeS ⟨a,U,F⟩ K D (fwS n K D a.ed) (q:Int) from fun h q hq=>by
     rcases Nat.lt_or_ge q i with h9 | h9
     ·exact HS.out q h9
     ·obtain rfl:q = i:=by omega
      exact h)
    clear hz hk hqk hdv hqf hqm hqg hFm hMm
    cases qk with
    | false =>
     have HS9:=Lib.hid (HYE.out (HKS.out.2 (fun h=>by cases h)))
     go_wp2
     go_roundw
     case rel=>exact ⟨i + 1,_,_,_,rfl,rfl,rfl,by go_num,by omega,HS9,HG,HB1⟩
     case measure=>simp [intOf];omega
    | true =>
     cases qf with
     | true =>
      have HN9:=Lib.hid (HNO.out (fun h=>by have:=(HKS.out.1 h rfl).1;cases this))
      go_wp2
      go_ret
      exact ⟨false,rfl,⟨(fun h=>by cases h),fun h=>absurd h HN9.out⟩,HB.out _ HB1.out⟩
     | false =>
      by_cases hd0:dv < 0
      ·have HN9:=Lib.hid (HNO.out (fun h=>by have:=(HKS.out.1 h rfl).2.1;omega))
       go_wp2
       go_ret
       exact ⟨false,rfl,⟨(fun h=>by cases h),fun h=>absurd h HN9.out⟩,HB.out _ HB1.out⟩
      by_cases hd1:dv = 0
      ·subst hd1
       cases qm with
       | false =>
        have HN9:=Lib.hid (HNO.out (fun h=>by have:=(HKS.out.1 h rfl).2.2.1 rfl;cases this))
        go_wp2
        go_ret
        exact ⟨false,rfl,⟨(fun h=>by cases h),fun h=>absurd h HN9.out⟩,HB.out _ HB1.out⟩
       | true =>
        have HS9:=Lib.hid (HYE.out (HKS.out.2 (fun _=>⟨rfl,Int.le_refl _,fun _=>rfl,fun h=>absurd h (by omega)⟩)))
        go_wp2
        go_roundw
        case rel=>exact ⟨i + 1,_,_,_,rfl,rfl,rfl,by go_num,by omega,HS9,HG,HB1⟩
        case measure=>simp [intOf];omega
      have hd2:0 < dv:=by omega
      have hd3:(dv == 0) = false:=by simpa using hd1
      cases qg with
      | false =>
       have HN9:=Lib.hid (HNO.out (fun h=>by have:=(HKS.out.1 h rfl).2.2.2 hd2;cases this))
       go_wp2
       go_ret
       exact ⟨false,rfl,⟨(fun h=>by cases h),fun h=>absurd h HN9.out⟩,HB.out _ HB1.out⟩
      | true =>
       have HS9:=Lib.hid (HYE.out (HKS.out.2 (fun _=>⟨rfl,by omega,fun h=>absurd h hd1,fun _=>rfl⟩)))
       go_wp2
       go_roundw
       case rel=>exact ⟨i + 1,_,_,_,rfl,rfl,rfl,by go_num,by omega,HS9,HG,HB1⟩
       case measure=>simp [intOf];omega
  have b1:(j:Int) < (ne:Int):=by omega
  obtain ⟨ad,x,rfl,hab,hx,g0,g1,g2⟩:=RdX.at_ (HZ.out wr HB1.out).x.re (k:=j) (by rw [HLE.out];exact hlt)
  have r1:wr.cell? ⟨(ad.add (j * 3)).block,(ad.add (j * 3)).off + 1,none⟩ = some (.int .i64 x.e):=st_cells (j:=0) g1
  have r2:wr.cell? ⟨(ad.add (j * 3)).block,(ad.add (j * 3)).off + 2,none⟩ = some (.int .i64 x.t):=st_cells (j:=1) g2
  obtain ⟨xf,xt,xe⟩:=HER.out x (List.mem_of_getElem? hx)
  have hbx:=box_below wr (.cells #[.int .i64 x.f,.int .i64 x.e,.int .i64 x.t] 67)
  have ke:Blk (wr.alloc (.cells #[.int .i64 x.f,.int .i64 x.e,.int .i64 x.t] 67)) wr.heap.size 67 [.int .i64 x.f,.int .i64 x.e,.int .i64 x.t]:=Blk.new _ _ [_,_,_]
  have HB5:=Lib.hid (HB1.out.trans (hbx.mono HB1.out.size))
  have HG5:=Lib.hid (HG.out.below hbx HG.out.lt)
  have HNB:=Lib.hid (show w1.heap.size ≠ wr.heap.size by have:=HG.out.lt;omega)
  have HX:=Lib.hid hx
  obtain ⟨q1,hq1⟩:∃ q,fl K x.f = q:=⟨_,rfl⟩
  obtain ⟨q2,hq2⟩:∃ q,fl K x.t = q:=⟨_,rfl⟩
  obtain ⟨q3,hq3⟩:∃ q,hasB U x.e = q:=⟨_,rfl⟩
  have HQ1:=Lib.hid hq1
  have HQ2:=Lib.hid hq2
  have HQ3:=Lib.hid hq3
  clear hab hx hbx hq1 hq2 hq3 HG HB1
  go_upto_region 5 with fail
  clear g0 g1 g2 r1 r2
  generalize wr.heap.size = bx at ke HNB ⊢
  generalize wr.alloc (.cells #[.int .i64 x.f,.int .i64 x.e,.int .i64 x.t] 67) = w5 at ke HB5 HG5 ⊢
  have hz:=HZ.out w5 HB5.out
  have hk:=HK.out w5 HB5.out
  have c0:=ke.cell (j:=0) rfl
  have c1:=ke.cell (j:=1) rfl
  have c2:=ke.cell (j:=2) rfl
  have c4:=hk.cell (j:=4) rfl
  have c9:=hk.cell (j:=9) rfl
  have d1:w5.cell? ⟨kb,x.f.toNat,none⟩ = some (.bool q1):=hz.k.cell (by rw [bvl_get,fl_get HQ1.out xf.1 (by rw [HKL.out];exact xf.2)];rfl)
  have d2:w5.cell? ⟨kb,x.t.toNat,none⟩ = some (.bool q2):=hz.k.cell (by rw [bvl_get,fl_get HQ2.out xt.1 (by rw [HKL.out];exact xt.2)];rfl)
  have d3:w5.cell? ⟨cb,x.e.toNat,none⟩ = some (.bool q3):=hz.c.cell (by rw [bvl_get,fl_get ((hardB HU.out xe.1).trans HQ3.out) xe.1 (by rw [inF_len];exact xe.2)];rfl)
  have t1:¬ x.f < 0:=by omega
  have t2:¬ x.t < 0:=by omega
  have t3:¬ x.e < 0:=by omega
  have t4:x.f < (n:Int):=xf.2
  have t5:x.t < (n:Int):=xt.2
  have t6:x.e < 32:=xe.2
  have HFS:=Lib.hid (fwS_snoc (n:=n) (K:=K) (D:=D) HX.out)
  clear hz hk
  cases q1 with
  | false =>
   have HE9:=Lib.hid (HE.out.snoc HX.out (fun h=>by rw [HQ1.out] at h;cases h))
   have HG9:=Lib.hid (show Blk w5 w1.heap.size 4 (bvl (fwS n K D (a.ed.take (j + 1)))) by rw [HFS.out];unfold fwX;rw [if_neg (by rw [HQ1.out];simp)];exact HG5.out)
   go_wp2
   go_roundw
   case rel=>exact ⟨j + 1,_,rfl,by go_num,by omega,HG9,HE9,HB5⟩
   case measure=>simp [intOf];omega
  | true =>
   cases q2 with
   | false =>
    cases q3 with
    | true =>
     have HNK:=Lib.hid (notE (p:=⟨a,U,F⟩) (D:=D) (List.mem_of_getElem? HX.out) HQ1.out HQ2.out HQ3.out)
     go_wp2
     go_ret
     exact ⟨false,rfl,⟨(fun h=>by cases h),fun h=>absurd h HNK.out⟩,HB.out _ HB5.out⟩
    | false =>
     have HE9:=Lib.hid (HE.out.snoc HX.out (fun _ _=>HQ3.out))
     have HG9:=Lib.hid (show Blk w5 w1.heap.size 4 (bvl (fwS n K D (a.ed.take (j + 1)))) by rw [HFS.out];unfold fwX;rw [if_neg (by rw [HQ2.out];simp)];exact HG5.out)
     go_wp2
     go_roundw
     case rel=>exact ⟨j + 1,_,rfl,by go_num,by omega,HG9,HE9,HB5⟩
     case measure=>simp [intOf];omega
   | true =>
    have HE9:=Lib.hid (HE.out.snoc HX.out (fun _ h=>by rw [HQ2.out] at h;cases h))
    go_upto_region 9 with fail
    clear c0 c1 c2 c4 c9 d1 d2 d3
    have HB6:=Lib.hid (HB5.out.trans ((below_dr w5).mono HB5.out.size))
    have k6:=ke.below (below_dr w5) ke.lt
    have HG6:=Lib.hid (HG5.out.below (below_dr w5) HG5.out.lt)
    obtain ⟨dt,hdt⟩:∃ q,gI D x.t = q:=⟨_,rfl⟩
    obtain ⟨df,hdf⟩:∃ q,gI D x.f = q:=⟨_,rfl⟩
    obtain ⟨qg,hqg⟩:∃ q,fl (fwS n K D (a.ed.take j)) x.f = q:=⟨_,rfl⟩
    have hz:=HZ.out _ HB6.out
    have d5:=(HK.out _ HB6.out).cell (j:=5) rfl
    have d1:w5.drew.cell? ⟨db,x.t.toNat,none⟩ = some (.int .i64 dt):=by
     have h9:=hz.d.cell (iv_gI (l:=D) (i:=x.t.toNat) (by rw [HDL.out];omega))
     rw [show ((x.t.toNat:Nat):Int) = x.t by omega,hdt] at h9
     exact h9
    have d2:w5.drew.cell? ⟨db,x.f.toNat,none⟩ = some (.int .i64 df):=by
     have h9:=hz.d.cell (iv_gI (l:=D) (i:=x.f.toNat) (by rw [HDL.out];omega))
     rw [show ((x.f.toNat:Nat):Int) = x.f by omega,hdf] at h9
     exact h9
    have hA0:(w5.drew.cell? ⟨bx,0,none⟩ = some (.int .i64 x.f)∧w5.drew.cell? ⟨bx,2,none⟩ = some (.int .i64 x.t))∧w5.drew.cell? ⟨w.heap.size,5,none⟩ = some (.slice (some ⟨db,0,none⟩) n n)∧w5.drew.cell? ⟨db,x.t.toNat,none⟩ = some (.int .i64 dt)∧w5.drew.cell? ⟨db,x.f.toNat,none⟩ = some (.int .i64 df):=⟨⟨k6.cell (j:=0) rfl,k6.cell (j:=2) rfl⟩,d5,d1,d2⟩
    refine wp_region_U (fun V=>(V.cell? ⟨bx,0,none⟩ = some (.int .i64 x.f)∧V.cell? ⟨bx,2,none⟩ = some (.int .i64 x.t))∧V.cell? ⟨w.heap.size,5,none⟩ = some (.slice (some ⟨db,0,none⟩) n n)∧V.cell? ⟨db,x.t.toNat,none⟩ = some (.int .i64 dt)∧V.cell? ⟨db,x.f.toNat,none⟩ = some (.int .i64 df)) (fun V=>V.cell? ⟨w1.heap.size,x.f.toNat,none⟩ = some (.bool qg)) 24 (by kernel_rfl) ?_
    change anyU _ _ _ _ _ _ _ 25 _ _ _
    have HQG:=Lib.hid hqg
    have HDT:=Lib.hid hdt
    have HDF:=Lib.hid hdf
    have HGW:=Lib.hid (show w.heap.size ≠ w1.heap.size by have:=(HK.out _ (Below.refl _ _)).lt;omega)
    have HDW:=Lib.hid (show db ≠ w1.heap.size from fun e=>by
     have h9:db < w1.heap.size:=(HZ.out _ (Below.refl _ _)).d.lt
     omega)
    clear d5 d1 d2 hz hqg hdt hdf ke
    generalize w5.drew = w6 at HB6 HG6 k6 hA0 ⊢
    have hB0:w6.cell? ⟨w1.heap.size,x.f.toNat,none⟩ = some (.bool qg):=HG6.out.cell (by rw [bvl_get,fl_get HQG.out xf.1 (by rw [fwS_len];exact xf.2)];rfl)
    have g2:w6.frozen? ⟨w1.heap.size,x.f.toNat,none⟩ = false:=HG6.out.free _
    have g3:w1.heap.size < w6.heap.size:=HG6.out.lt
    have HSET:=Lib.hid (fun (v:Bool)=>(show Blk (w6.setCell ⟨w1.heap.size,x.f.toNat,none⟩ (.bool v)) w1.heap.size 4 (bvl ((fwS n K D (a.ed.take j)).set x.f.toNat v)) from by
     have h9:=HG6.out.set (j:=x.f.toNat) (by rw [bvl_length,fwS_len];omega) (.bool v)
     rwa [bvl_set] at h9))
    have HA7:=Lib.hid (fun (v:Bool)=>(show ((w6.setCell ⟨w1.heap.size,x.f.toNat,none⟩ (.bool v)).cell? ⟨bx,0,none⟩ = some (.int .i64 x.f)∧(w6.setCell ⟨w1.heap.size,x.f.toNat,none⟩ (.bool v)).cell? ⟨bx,2,none⟩ = some (.int .i64 x.t))∧(w6.setCell ⟨w1.heap.size,x.f.toNat,none⟩ (.bool v)).cell? ⟨w.heap.size,5,none⟩ = some (.slice (some ⟨db,0,none⟩) n n)∧(w6.setCell ⟨w1.heap.size,x.f.toNat,none⟩ (.bool v)).cell? ⟨db,x.t.toNat,none⟩ = some (.int .i64 dt)∧(w6.setCell ⟨w1.heap.size,x.f.toNat,none⟩ (.bool v)).cell? ⟨db,x.f.toNat,none⟩ = some (.int .i64 df) from
     ⟨⟨(cell_far (fun e=>HNB.out e.symm)).trans hA0.1.1,(cell_far (fun e=>HNB.out e.symm)).trans hA0.1.2⟩,(cell_far HGW.out).trans hA0.2.1,(cell_far HDW.out).trans hA0.2.2.1,(cell_far HDW.out).trans hA0.2.2.2⟩))
    have HB7:=Lib.hid (fun (v:Bool)=>HB6.out.setCell (p:=⟨w1.heap.size,x.f.toNat,none⟩) (Nat.le_refl _) (.bool v))
    (refine uA 0 ?_ rfl hA0 hB0 (fun W hA=>?_) ?_;rotate_left;(· (go_simp;try with_reducible rfl));refine uA 1 ?_ rfl hA0 hB0 (fun W hA=>?_) ?_;rotate_left;(· (go_simp;try with_reducible rfl));(try simp only [Act.put,List.setIfInBounds_toArray,List.set_cons_zero,List.set_cons_succ]))
    (refine uA 2 ?_ rfl hA0 hB0 (fun W hA=>?_) ?_;rotate_left;(· (obtain ⟨⟨a0,a2⟩,_⟩:=hA;go_simp;try with_reducible rfl));(try simp only [Act.put,List.setIfInBounds_toArray,List.set_cons_zero,List.set_cons_succ]))
    (refine uA 3 ?_ rfl hA0 hB0 (fun W hA=>?_) ?_;rotate_left;(· (go_simp;try with_reducible rfl));refine uA 4 ?_ rfl hA0 hB0 (fun W hA=>?_) ?_;rotate_left;(· (go_simp;try with_reducible rfl));(try simp only [Act.put,List.setIfInBounds_toArray,List.set_cons_zero,List.set_cons_succ]))
    (refine uA 5 ?_ rfl hA0 hB0 (fun W hA=>?_) ?_;rotate_left;(· (obtain ⟨⟨a0,a2⟩,_⟩:=hA;go_simp;try with_reducible rfl));(try simp only [Act.put,List.setIfInBounds_toArray,List.set_cons_zero,List.set_cons_succ]))
    (refine uA 6 ?_ rfl hA0 hB0 (fun W hA=>?_) ?_;rotate_left;(· (go_simp;try with_reducible rfl));(try simp only [Act.put,List.setIfInBounds_toArray,List.set_cons_zero,List.set_cons_succ]))
    (refine uB 7 ?_ rfl hA0 hB0 (fun W hA hB=>?_) ?_;rotate_left;(· (go_simp;try with_reducible rfl));(try simp only [Act.put,List.setIfInBounds_toArray,List.set_cons_zero,List.set_cons_succ]))
    (refine uA 8 ?_ rfl hA0 hB0 (fun W hA=>?_) ?_;rotate_left;(· (go_simp;try with_reducible rfl));(try simp only [Act.put,List.setIfInBounds_toArray,List.set_cons_zero,List.set_cons_succ]))
    cases qg with
    | true =>
     have HG9:=Lib.hid (show Blk (w6.setCell ⟨w1.heap.size,x.f.toNat,none⟩ (.bool true)) w1.heap.size 4 (bvl (fwS n K D (a.ed.take (j + 1)))) by
      have h9:=HSET.out true
      rw [fl_self HQG.out xf.1 (by rw [fwS_len];exact xf.2)] at h9
      rw [HFS.out]
      unfold fwX
      split
      ·unfold fset
       rw [fl_self HQG.out xf.1 (by rw [fwS_len];exact xf.2)]
       exact h9
      ·exact h9)
     have hA9:=HA7.out true
     have HB9:=Lib.hid (HB7.out true)
     (refine uS 9 rfl hA0 hB0 ?_;refine uS 10 rfl hA0 hB0 ?_;refine uS 11 rfl hA0 hB0 ?_;(try simp only [Act.put,List.setIfInBounds_toArray,List.set_cons_zero,List.set_cons_succ]))
     (refine uS 12 rfl hA0 hB0 ?_;refine uS 13 rfl hA0 hB0 ?_;refine uS 14 rfl hA0 hB0 ?_;(try simp only [Act.put,List.setIfInBounds_toArray,List.set_cons_zero,List.set_cons_succ]))
     (refine uS 15 rfl hA0 hB0 ?_;refine uS 16 rfl hA0 hB0 ?_;refine uS 17 rfl hA0 hB0 ?_;(try simp only [Act.put,List.setIfInBounds_toArray,List.set_cons_zero,List.set_cons_succ]))
     (refine uS 18 rfl hA0 hB0 ?_;refine uS 19 rfl hA0 hB0 ?_;refine uS 20 rfl hA0 hB0 ?_;(try simp only [Act.put,List.setIfInBounds_toArray,List.set_cons_zero,List.set_cons_succ]))
     (refine uS 21 rfl hA0 hB0 ?_;(try simp only [Act.put,List.setIfInBounds_toArray,List.set_cons_zero,List.set_cons_succ]))
     (refine uA 22 ?_ rfl hA0 hB0 (fun W hA=>?_) ?_;rotate_left;(· (go_simp;try with_reducible rfl));refine uA 23 ?_ rfl hA0 hB0 (fun W hA=>?_) ?_;rotate_left;(· (go_simp;try with_reducible rfl));(try simp only [Act.put,List.setIfInBounds_toArray,List.set_cons_zero,List.set_cons_succ]))
     refine uOne (i:=24) rfl (by kernel_rfl) (fun K hK=>?_)
     go_simp
     (refine hK _ _ ⟨hA9,fun h=>absurd (h.symm.trans (by kernel_rfl:_ = true)) Bool.false_ne_true⟩ ?_;clear hK K;(try simp only [Act.put,List.setIfInBounds_toArray,List.set_cons_zero,List.set_cons_succ]))
     refine anyU_done (by kernel_rfl) ?_ _
     clear hA0 hB0 hA9 g2 g3 k6 HSET HA7 HB7 HG6 HB6
     generalize w6.setCell ⟨w1.heap.size,x.f.toNat,none⟩ (.bool true) = w9 at HG9 HB9 ⊢
     go_wp2
     go_roundw
     case rel=>exact ⟨j + 1,_,rfl,by go_num,by omega,HG9,HE9,HB9⟩
     case measure=>simp [intOf];omega
    | false =>
     have HG9:=Lib.hid (show Blk (w6.setCell ⟨w1.heap.size,x.f.toNat,none⟩ (.bool (decide (dt < df)))) w1.heap.size 4 (bvl (fwS n K D (a.ed.take (j + 1)))) by
      have h9:=HSET.out (decide (dt < df))
      rw [HFS.out]
      unfold fwX
      by_cases hlt9:dt < df
      ·rw [if_pos ⟨HQ1.out,HQ2.out,by rw [HDT.out,HDF.out];exact hlt9⟩]
       rw [decide_eq_true hlt9] at h9 ⊢
       exact h9
      ·rw [if_neg (fun h=>hlt9 (by have:=h.2.2;rwa [HDT.out,HDF.out] at this))]
       rw [decide_eq_false hlt9] at h9 ⊢
       rw [fl_self HQG.out xf.1 (by rw [fwS_len];exact xf.2)] at h9
       exact h9)
     have hA9:=HA7.out (decide (dt < df))
     have HB9:=Lib.hid (HB7.out (decide (dt < df)))
     (refine uA 9 ?_ rfl hA0 hB0 (fun W hA=>?_) ?_;rotate_left;(· (go_simp;try with_reducible rfl));(try simp only [Act.put,List.setIfInBounds_toArray,List.set_cons_zero,List.set_cons_succ]))
     (refine uA 10 ?_ rfl hA0 hB0 (fun W hA=>?_) ?_;rotate_left;(· (obtain ⟨_,a5,_⟩:=hA;go_simp;try with_reducible rfl));(try simp only [Act.put,List.setIfInBounds_toArray,List.set_cons_zero,List.set_cons_succ]))
     (refine uA 11 ?_ rfl hA0 hB0 (fun W hA=>?_) ?_;rotate_left;(· (go_simp;try with_reducible rfl));(try simp only [Act.put,List.setIfInBounds_toArray,List.set_cons_zero,List.set_cons_succ]))
     (refine uA 12 ?_ rfl hA0 hB0 (fun W hA=>?_) ?_;rotate_left;(· (obtain ⟨⟨a0,a2⟩,_⟩:=hA;go_simp;try with_reducible rfl));(try simp only [Act.put,List.setIfInBounds_toArray,List.set_cons_zero,List.set_cons_succ]))
     (refine uA 13 ?_ rfl hA0 hB0 (fun W hA=>?_) ?_;rotate_left;(· (go_simp;try with_reducible rfl));(try simp only [Act.put,List.setIfInBounds_toArray,List.set_cons_zero,List.set_cons_succ]))
     (refine uA 14 ?_ rfl hA0 hB0 (fun W hA=>?_) ?_;rotate_left;(· (obtain ⟨_,_,a6,a7⟩:=hA;go_simp;try with_reducible rfl));(try simp only [Act.put,List.setIfInBounds_toArray,List.set_cons_zero,List.set_cons_succ]))
     (refine uA 15 ?_ rfl hA0 hB0 (fun W hA=>?_) ?_;rotate_left;(· (go_simp;try with_reducible rfl));(try simp only [Act.put,List.setIfInBounds_toArray,List.set_cons_zero,List.set_cons_succ]))
     (refine uA 16 ?_ rfl hA0 hB0 (fun W hA=>?_) ?_;rotate_left;(· (obtain ⟨_,a5,_⟩:=hA;go_simp;try with_reducible rfl));(try simp only [Act.put,List.setIfInBounds_toArray,List.set_cons_zero,List.set_cons_succ]))
     (refine uA 17 ?_ rfl hA0 hB0 (fun W hA=>?_) ?_;rotate_left;(· (go_simp;try with_reducible rfl));(try simp only [Act.put,List.setIfInBounds_toArray,List.set_cons_zero,List.set_cons_succ]))
     (refine uA 18 ?_ rfl hA0 hB0 (fun W hA=>?_) ?_;rotate_left;(· (obtain ⟨⟨a0,a2⟩,_⟩:=hA;go_simp;try with_reducible rfl));(try simp only [Act.put,List.setIfInBounds_toArray,List.set_cons_zero,List.set_cons_succ]))
     (refine uA 19 ?_ rfl hA0 hB0 (fun W hA=>?_) ?_;rotate_left;(· (go_simp;try with_reducible rfl));(try simp only [Act.put,List.setIfInBounds_toArray,List.set_cons_zero,List.set_cons_succ]))
     (refine uA 20 ?_ rfl hA0 hB0 (fun W hA=>?_) ?_;rotate_left;(· (obtain ⟨_,_,a6,a7⟩:=hA;go_simp;try with_reducible rfl));(try simp only [Act.put,List.setIfInBounds_toArray,List.set_cons_zero,List.set_cons_succ]))
     (refine uA 21 ?_ rfl hA0 hB0 (fun W hA=>?_) ?_;rotate_left;(· (go_simp;try with_reducible rfl));(try simp only [Act.put,List.setIfInBounds_toArray,List.set_cons_zero,List.set_cons_succ]))
     (refine uA 22 ?_ rfl hA0 hB0 (fun W hA=>?_) ?_;rotate_left;(· (go_simp;try with_reducible rfl));refine uA 23 ?_ rfl hA0 hB0 (fun W hA=>?_) ?_;rotate_left;(· (go_simp;try with_reducible rfl));(try simp only [Act.put,List.setIfInBounds_toArray,List.set_cons_zero,List.set_cons_succ]))
     refine uOne (i:=24) rfl (by kernel_rfl) (fun K hK=>?_)
     go_simp
     (refine hK _ _ ⟨hA9,fun h=>absurd (h.symm.trans (by kernel_rfl:_ = true)) Bool.false_ne_true⟩ ?_;clear hK K;(try simp only [Act.put,List.setIfInBounds_toArray,List.set_cons_zero,List.set_cons_succ]))
     refine anyU_done (by kernel_rfl) ?_ _
     clear hA0 hB0 hA9 g2 g3 k6 HSET HA7 HB7 HG6 HB6
     generalize w6.setCell ⟨w1.heap.size,x.f.toNat,none⟩ (.bool (decide (dt < df))) = w9 at HG9 HB9 ⊢
     go_wp2
     go_roundw
     case rel=>exact ⟨j + 1,_,rfl,by go_num,by omega,HG9,HE9,HB9⟩
     case measure=>simp [intOf];omega
end Go.Proofs.Ytdnmpndnpfklcaa
