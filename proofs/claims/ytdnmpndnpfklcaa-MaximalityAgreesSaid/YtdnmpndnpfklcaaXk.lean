/- Walk: facts.removes. -/
import Derived.Test.YtdnmpndnpfklcaaXj
import Derived.Deep.Cut
import Derived.Deep.CutRange
namespace Go.Proofs.Ytdnmpndnpfklcaa
open Go.RowKit Go Go.Maps
def reB (U:List Int) (K:List Bool) (R:List Rm) (x:Ed):Bool:=x.e == (gR R x.f).e && hasB U x.e && !fl K x.t && decide ((gR R x.t).k < (gR R x.f).k)
def reX (U:List Int) (K:List Bool) (R:List Rm) (G:List Bool) (x:Ed):List Bool:=if fl K x.f = false∧(gR R x.f).r = 2∧reB U K R x = true then fset G x.f else G
def reS (n:Nat) (U:List Int) (K:List Bool) (R:List Rm) (es:List Ed):List Bool:=es.foldl (reX U K R) (List.replicate n false)
theorem reS_snoc {n:Nat} {U:List Int} {K:List Bool} {R:List Rm} {es:List Ed} {j:Nat} {x:Ed} (h:es[j]? = some x):reS n U K R (es.take (j + 1)) = reX U K R (reS n U K R (es.take j)) x:=by
 unfold reS;rw [take_snoc' h,List.foldl_append];rfl
theorem reX_len (U:List Int) (K:List Bool) (R:List Rm) (G:List Bool) (x:Ed):(reX U K R G x).length = G.length:=by
 unfold reX
 split
 ·rw [fset_len]
 ·rfl
theorem reF_len (U:List Int) (K:List Bool) (R:List Rm):∀ (es:List Ed) (G:List Bool),(es.foldl (reX U K R) G).length = G.length
 | [],_=>rfl
 | x :: r,G=>by rw [List.foldl_cons,reF_len U K R r,reX_len]
theorem reS_len (n:Nat) (U:List Int) (K:List Bool) (R:List Rm) (es:List Ed):(reS n U K R es).length = n:=by unfold reS;rw [reF_len,List.length_replicate]
theorem reF_iff {n:Nat} {U:List Int} {K:List Bool} {R:List Rm} {s:Int} (h0:0 ≤ s):∀ (es:List Ed) (G:List Bool),G.length = n → (∀ x ∈ es,0 ≤ x.f∧x.f < (n:Int)) → (fl (es.foldl (reX U K R) G) s = true ↔ fl G s = true ∨ ∃ x ∈ es,x.f = s∧fl K x.f = false∧(gR R x.f).r = 2∧reB U K R x = true)
 | [],G,_,_=>by simp
 | x :: r,G,hG,hr=>by
  have hx:=hr x List.mem_cons_self
  rw [List.foldl_cons,reF_iff h0 r (reX U K R G x) (by rw [reX_len];exact hG) (fun y hy=>hr y (List.mem_cons_of_mem _ hy))]
  have h1:fl (reX U K R G x) s = true ↔ fl G s = true ∨ (x.f = s∧fl K x.f = false∧(gR R x.f).r = 2∧reB U K R x = true):=by
   unfold reX
   by_cases hc:fl K x.f = false∧(gR R x.f).r = 2∧reB U K R x = true
   ·rw [if_pos hc,fl_set (by rw [hG];exact hx) h0,Bool.or_eq_true,decide_eq_true_eq]
    constructor
    ·rintro (h | h)
     ·exact .inr ⟨h.symm,hc⟩
     ·exact .inl h
    ·rintro (h | h)
     ·exact .inr h
     ·exact .inl h.1.symm
   ·rw [if_neg hc]
    exact ⟨.inl,fun h=>h.elim id (fun h=>absurd h.2 hc)⟩
  rw [h1]
  constructor
  ·rintro ((h | h) | ⟨y,hy,h⟩)
   ·exact .inl h
   ·exact .inr ⟨x,List.mem_cons_self,h⟩
   ·exact .inr ⟨y,List.mem_cons_of_mem _ hy,h⟩
  ·rintro (h | ⟨y,hy,h⟩)
   ·exact .inl (.inl h)
   ·rcases List.mem_cons.1 hy with rfl | hy
    ·exact .inl (.inr h)
    ·exact .inr ⟨y,hy,h⟩
theorem reS_iff {n:Nat} {U:List Int} {K:List Bool} {R:List Rm} {es:List Ed} {s:Int} (h0:0 ≤ s) (hr:∀ x ∈ es,0 ≤ x.f∧x.f < (n:Int)):fl (reS n U K R es) s = true ↔ ∃ x ∈ es,x.f = s∧fl K x.f = false∧(gR R x.f).r = 2∧reB U K R x = true:=by
 unfold reS
 rw [reF_iff h0 es _ (List.length_replicate ..) hr,fl_rep]
 simp
def ReO (K:List Bool) (R:List Rm) (x:Ed):Prop:=fl K x.f = false → (gR R x.f).r = 3 → fl K x.t = false∧(gR R x.t).k ≤ (gR R x.f).k∧((gR R x.t).k = (gR R x.f).k → (gR R x.t).r = 3)
def ReE (K:List Bool) (R:List Rm) (es:List Ed):Prop:=∀ x ∈ es,ReO K R x
theorem ReE.snoc {K:List Bool} {R:List Rm} {es:List Ed} {j:Nat} {x:Ed} (h:ReE K R (es.take j)) (hx:es[j]? = some x) (h1:ReO K R x):ReE K R (es.take (j + 1)):=by
 intro y hy
 rw [take_snoc' hx] at hy
 rcases List.mem_append.1 hy with hy | hy
 ·exact h y hy
 ·rw [List.mem_singleton.1 hy];exact h1
def ReT (p:Mx) (K:List Bool) (R:List Rm) (G:List Bool) (s:Int):Prop:=fl K s = false → (1 ≤ (gR R s).k∧(gR R s).k ≤ 4097)∧((gR R s).r = 1 → (gR R s).e = -1∧s ∈ p.f)∧((gR R s).r = 2 → fl G s = true)∧((gR R s).r = 3 → (gR R s).e = -1∧s ∉ p.a.ma)
theorem reP_iff {p:Mx} (hw:WF p.a) {n:Nat} (hn:p.a.st = (n:Int)) {K:List Bool} {R:List Rm} (he:ReE K R p.a.ed):(∀ j:Nat,j < n → ReT p K R (reS n p.u K R p.a.ed) (j:Int)) ↔ ReP p K R:=by
 have hr:∀ x ∈ p.a.ed,0 ≤ x.f∧x.f < (n:Int):=fun x hx=>by have:=hw.ev_rng hx;omega
 have hst:∀ s,0 ≤ s → s < p.a.st → (ReT p K R (reS n p.u K R p.a.ed) s ↔ (fl K s = false → (1 ≤ (gR R s).k∧(gR R s).k ≤ 4097)∧((gR R s).r = 1 → (gR R s).e = -1∧s ∈ p.f) ∧
  ((gR R s).r = 2 → ∃ x ∈ p.a.ed,x.f = s∧x.e = (gR R s).e∧hasB p.u x.e = true∧fl K x.t = false∧(gR R x.t).k < (gR R s).k)∧((gR R s).r = 3 → (gR R s).e = -1∧s ∉ p.a.ma))):=by
  intro s h0 h1
  unfold ReT
  constructor
  ·intro h hk
   obtain ⟨a,b,c,d⟩:=h hk
   refine ⟨a,b,fun h2=>?_,d⟩
   obtain ⟨x,hx,e,e1,e2,e3⟩:=(reS_iff h0 hr).1 (c h2)
   unfold reB at e3
   simp only [Bool.and_eq_true,beq_iff_eq,Bool.not_eq_true',decide_eq_true_eq] at e3
   exact ⟨x,hx,e,by rw [← e];exact e3.1.1.1,e3.1.1.2,e3.1.2,by rw [← e];exact e3.2⟩
  ·intro h hk
   obtain ⟨a,b,c,d⟩:=h hk
   refine ⟨a,b,fun h2=>?_,d⟩
   obtain ⟨x,hx,e,e1,e2,e3,e4⟩:=c h2
   refine (reS_iff h0 hr).2 ⟨x,hx,e,by rw [e];exact hk,by rw [e];exact h2,?_⟩
   unfold reB
   simp only [Bool.and_eq_true,beq_iff_eq,Bool.not_eq_true',decide_eq_true_eq]
   exact ⟨⟨⟨by rw [e];exact e1,e2⟩,e3⟩,by rw [e];exact e4⟩
 constructor
 ·intro h
  refine ⟨he,fun s h0 h1=>?_⟩
  have:=h s.toNat (by omega)
  rw [show ((s.toNat:Nat):Int) = s by omega] at this
  exact (hst s h0 h1).1 this
 ·intro h j hj
  exact (hst (j:Int) (by omega) (by omega)).2 (h.st (j:Int) (by omega) (by omega))
theorem notR {p:Mx} {K:List Bool} {R:List Rm} {x:Ed} (hx:x ∈ p.a.ed) (h:¬ ReO K R x):¬ ReP p K R:=fun h9=>h (h9.ed x hx)
theorem gR_get {R:List Rm} {s:Int} (h1:s.toNat < R.length):R[s.toNat]? = some (gR R s):=by
 unfold gR
 rw [List.getD_eq_getElem?_getD,List.getElem?_eq_getElem h1]
 rfl
theorem rm_cells {w:World} {g:Nat} {t:TypeId} {R:List Rm} (h:Blk w g t (R.flatMap rmc)) {i:Nat} {r:Rm} (hr:R[i]? = some r) :
  w.cell? ⟨g,i * 4,none⟩ = some (.int .i64 r.s)∧w.cell? ⟨g,i * 4 + 1,none⟩ = some (.int .i64 r.k)∧w.cell? ⟨g,i * 4 + 2,none⟩ = some (.int .i64 r.r)∧w.cell? ⟨g,i * 4 + 3,none⟩ = some (.int .i64 r.e):=by
 have hg:∀ (j:Nat) (u:Value),(rmc r)[j]? = some u → w.cell? ⟨g,i * 4 + j,none⟩ = some u:=fun j u hu=>h.cell (flat_get rmc 4 R (fun _ _=>rfl) i r j u hr hu)
 exact ⟨hg 0 _ rfl,hg 1 _ rfl,hg 2 _ rfl,hg 3 _ rfl⟩
theorem reX_set {U:List Int} {K:List Bool} {R:List Rm} {G:List Bool} {x:Ed} (h1:fl K x.f = false) (h2:(gR R x.f).r = 2) (h0:0 ≤ x.f) (hl:x.f < (G.length:Int)):reX U K R G x = G.set x.f.toNat (fl G x.f || reB U K R x):=by
 unfold reX
 cases hb:reB U K R x with
 | true=>rw [if_pos ⟨h1,h2,rfl⟩,Bool.or_true];rfl
 | false=>rw [if_neg (by simp),Bool.or_false,fl_self rfl h0 hl]
theorem rm_size:(Try.prog.info? 63).map (·.size) = some 4:=by kernel_rfl
def z4c:List Value:=[.int .i64 0,.int .i64 0,.int .i64 0,.int .i64 0]
theorem rm_put {w:World} {b:Nat} (k:Blk w b 63 z4c) (r:Rm):Blk (w.setCells b 0 (rmc r)) b 63 (rmc r)∧w.grownBy (w.setCells b 0 (rmc r)) (some b)∧w.there b 0 4 :=
 ⟨(k.sets (rmc r) (o:=0) (by simp [z4c,rmc])).1,(k.sets (rmc r) (o:=0) (by simp [z4c,rmc])).2,k.there (o:=0) (n:=4) (by simp [z4c])⟩
theorem rm_one (r:Rm):∀ v ∈ [Value.int .i64 r.s,.int .i64 r.k,.int .i64 r.r,.int .i64 r.e],v.oneCell' = true:=by
 intro v hv
 simp at hv
 rcases hv with rfl | rfl | rfl | rfl <;> rfl
set_option maxRecDepth 100000 in
set_option maxHeartbeats 6400000 in
theorem max_removes (z:FV) (w:World) (h:z.ok w) (hw:WF z.x.a) (hu:∀ s ∈ z.U,0 ≤ s∧s < 32) (hf:∀ s ∈ z.F,0 ≤ s∧s < (z.n:Int)) :
  Calls Try.prog 50 #[.agg (fvc z).toArray] w (RetB (ReP z.m z.K z.R) w):=by
 have hb1:=box_below w (.cells (fvc z).toArray 98)
 have kx:=Blk.new w 98 (fvc z)
 obtain ⟨w1,hw1⟩:∃ w1,w1 = w.alloc (.cells (fvc z).toArray 98):=⟨_,rfl⟩
 rw [← hw1] at hb1 kx
 have HZ:=Lib.hid (fun (W:World) (hb:Below w1.heap.size w1 W)=>h.below (hb1.trans (hb.mono hb1.size)))
 have HK:=Lib.hid (fun (W:World) (hb:Below w1.heap.size w1 W)=>kx.below hb kx.lt)
 have HB:=Lib.hid (fun (W:World) (hb:Below w1.heap.size w1 W)=>hb1.trans (hb.mono hb1.size))
 have HW1:=Lib.hid (show w.alloc (.cells (fvc z).toArray 98) = w1 from hw1.symm)
 have HIF:=Lib.hid (reP_iff (p:=z.m) hw h.st (K:=z.K) (R:=z.R))
 have HWF:=Lib.hid hw
 have HU:=Lib.hid hu
 have HF:=Lib.hid hf
 have hst1:=hw.st1
 rw [h.st] at hst1
 have hn4:z.n ≤ 4096:=by omega
 have hel:z.x.ne ≤ 1000000:=by have h1:=hw.ed_le;have h2:z.x.a.ed.length = z.x.ne:=h.x.le;omega
 have HLE:=Lib.hid (show z.x.a.ed.length = z.x.ne from h.x.le)
 have HER:=Lib.hid (show ∀ x ∈ z.x.a.ed,(0 ≤ x.f∧x.f < (z.n:Int))∧(0 ≤ x.t∧x.t < (z.n:Int))∧(0 ≤ x.e∧x.e < 32) from fun x hx=>by have:=hw.ev_rng hx;have:=h.st;omega)
 have HKL:=Lib.hid h.kl
 have HRL:=Lib.hid h.rl
 have hst:=h.st
 clear hb1 kx hw1 h hw hu hf hst1
 unfold fvc at HK HW1 ⊢
 unfold FV.m at HIF ⊢
 obtain ⟨⟨A,na,ca,M,nm,cm,E,ne,ce,a⟩,n,kb,db,rb,mb,fb,cb,K,D,R,U,F⟩:=z
 dsimp only at HK HW1 HIF HWF HU HF hn4 hel HLE HER HKL HRL hst ⊢
 rw [hst] at HK HW1 ⊢
 have HST:=Lib.hid hst
 have hm:∀ W:World,(Instr.makeSlice 87 (.int .i64 (n:Int)) (.int .i64 (n:Int))).run Try.prog W = .ok (.slice (some ⟨W.heap.size,0,none⟩) n n) (W.alloc (.cells (madeCells #[.bool false] n) 4)):=fun W=>run_make_row' 87 4 (.bool false) 1 Try.underlying87 bool_info rfl .i64 .i64 n (by omega) (by omega) W
 have HG0:=Lib.hid (show Blk (w1.alloc (.cells (madeCells #[.bool false] n) 4)) w1.heap.size 4 (bvl (reS n U K R (a.ed.take 0))) by rw [made_bools];exact Blk.new _ _ _)
 have HB0:=Lib.hid (box_below w1 (.cells (madeCells #[.bool false] n) 4))
 have a1:=(HK.out w1 (Below.refl _ _)).cell (j:=1) rfl
 have HE0:=Lib.hid (show ReE K R (a.ed.take 0) from fun x hx=>by simp at hx)
 have HGW:=Lib.hid (show w.heap.size ≠ w1.heap.size by have:=(HK.out _ (Below.refl _ _)).lt;omega)
 clear hst
 go_enter Try.func50,Try.ntmps50
 go_upto_region 1 with fail
 rw [HW1.out]
 have a3:=((HK.out _ HB0.out).cell (j:=3) rfl)
 go_wp2
 clear a1 a3 hm
 go_loopw [5,6,7,18] (fun s5 s6 s7 s18 wr=>∃ (j:Nat) (v5 v6 v7:Value),s5 = v5∧s6 = v6∧s7 = v7∧s18 = .int .i64 j∧j ≤ ne∧Hid (Blk wr w1.heap.size 4 (bvl (reS n U K R (a.ed.take j))))∧Hid (ReE K R (a.ed.take j))∧Hid (Below w1.heap.size w1 wr)) (fun _ _ _ s18 _=>ne - (intOf s18).toNat)
 case atStart=>exact ⟨0,_,_,_,rfl,rfl,rfl,rfl,Nat.zero_le _,HG0,HE0,HB0⟩
 case round =>
  clear HG0 HE0 HB0
  obtain ⟨j,v5,v6,v7,rfl,rfl,rfl,rfl,hj,HG,HE,HB1⟩:=hrel
  by_cases hlt:j < ne
  case neg =>
   obtain ⟨jn,hjn⟩:∃ q,q = ne:=⟨_,rfl⟩
   obtain rfl:j = ne:=by omega
   have b1:¬ (j:Int) < (j:Int):=by omega
   have htk:a.ed.take j = a.ed:=List.take_of_length_le (by rw [HLE.out];exact Nat.le_refl _)
   rw [htk] at HG HE
   have HIF2:=Lib.hid (HIF.out HE.out)
   have d6:=(HK.out wr HB1.out).cell (j:=6) rfl
   have HS0:=Lib.hid (show ∀ i:Nat,i < 0 → ReT ⟨a,U,F⟩ K R (reS n U K R a.ed) (i:Int) from fun i hi=>absurd hi (Nat.not_lt_zero _))
   have HMA:=Lib.hid (show ∀ s ∈ a.ma,0 ≤ s∧s < (n:Int) from fun s hs=>by
    have h1:=HWF.out.mrng s hs
    have h2:=HST.out
    omega)
   clear htk hjn HE HIF
   go_wp2
   clear d6
   go_loopw [8,9,118] (fun s8 s9 s118 wr=>∃ (i:Nat) (v8 v9:Value),s8 = v8∧s9 = v9∧s118 = .int .i64 i∧i ≤ n∧Hid (∀ q:Nat,q < i → ReT ⟨a,U,F⟩ K R (reS n U K R a.ed) (q:Int))∧Hid (Blk wr w1.heap.size 4 (bvl (reS n U K R a.ed)))∧Hid (Below w1.heap.size w1 wr)) (fun _ _ s118 _=>n - (intOf s118).toNat)
   case atStart=>exact ⟨0,_,_,rfl,rfl,rfl,Nat.zero_le _,HS0,HG,HB1⟩
   case round =>
    clear HS0 HG HB1
    obtain ⟨i,v8,v9,rfl,rfl,rfl,hi,HS,HG,HB1⟩:=hrel
    by_cases hlt2:i < n
    case neg =>
     have b2:¬ (i:Int) < (n:Int):=by omega
     have HKP:=Lib.hid (HIF2.out.1 (fun q hq=>HS.out q (by omega)))
     go_wp2
     go_ret
     exact ⟨true,rfl,⟨fun _=>HKP.out,fun _=>rfl⟩,HB.out _ HB1.out⟩
    have b2:(i:Int) < (n:Int):=by omega
    have hgr:=gR_get (R:=R) (s:=(i:Int)) (by rw [HRL.out];omega)
    rw [Int.toNat_natCast] at hgr
    obtain ⟨r,hr⟩:∃ q,gR R (i:Int) = q:=⟨_,rfl⟩
    rw [hr] at hgr
    obtain ⟨e0,e1,e2,e3⟩:=rm_cells (HZ.out wr HB1.out).r hgr
    obtain ⟨rs,rk,rr,re⟩:=r
    dsimp only at e0 e1 e2 e3
    have hbx:=box_below wr (.cells #[.int .i64 rs,.int .i64 rk,.int .i64 rr,.int .i64 re] 63)
    have ke:Blk (wr.alloc (.cells #[.int .i64 rs,.int .i64 rk,.int .i64 rr,.int .i64 re] 63)) wr.heap.size 63 [.int .i64 rs,.int .i64 rk,.int .i64 rr,.int .i64 re]:=Blk.new _ _ [_,_,_,_]
    have HB9:=Lib.hid (HB1.out.trans (hbx.mono HB1.out.size))
    have HG9:=Lib.hid (HG.out.below hbx HG.out.lt)
    have HR:=Lib.hid hr
    clear hbx hr hgr HG HB1
    go_upto_region 16 with fail
    clear e0 e1 e2 e3
    generalize wr.heap.size = bx at ke ⊢
    generalize wr.alloc (.cells #[.int .i64 rs,.int .i64 rk,.int .i64 rr,.int .i64 re] 63) = w5 at ke HB9 HG9 ⊢
    have hz:=HZ.out w5 HB9.out
    have hk:=HK.out w5 HB9.out
    obtain ⟨qk,hqk⟩:∃ q,fl K (i:Int) = q:=⟨_,rfl⟩
    obtain ⟨qf,hqf⟩:∃ q,fl (inF n F) (i:Int) = q:=⟨_,rfl⟩
    obtain ⟨qm,hqm⟩:∃ q,fl (inF n a.ma) (i:Int) = q:=⟨_,rfl⟩
    obtain ⟨qg,hqg⟩:∃ q,fl (reS n U K R a.ed) (i:Int) = q:=⟨_,rfl⟩
    have k4:w5.cell? ⟨kb,i,none⟩ = some (.bool qk):=hz.k.cell (by
     have h9:=fl_get hqk (by omega) (by rw [HKL.out];exact b2)
     rw [Int.toNat_natCast] at h9
     rw [bvl_get,h9];rfl)
    have k8:w5.cell? ⟨fb,i,none⟩ = some (.bool qf):=hz.f.cell (by
     have h9:=fl_get hqf (by omega) (by rw [inF_len];exact b2)
     rw [Int.toNat_natCast] at h9
     rw [bvl_get,h9];rfl)
    have k7:w5.cell? ⟨mb,i,none⟩ = some (.bool qm):=hz.m.cell (by
     have h9:=fl_get hqm (by omega) (by rw [inF_len];exact b2)
     rw [Int.toNat_natCast] at h9
     rw [bvl_get,h9];rfl)
    have k9:w5.cell? ⟨w1.heap.size,i,none⟩ = some (.bool qg):=HG9.out.cell (by
     have h9:=fl_get hqg (by omega) (by rw [reS_len];exact b2)
     rw [Int.toNat_natCast] at h9
     rw [bvl_get,h9];rfl)
    have c4:=hk.cell (j:=4) rfl
    have c7:=hk.cell (j:=7) rfl
    have c8:=hk.cell (j:=8) rfl
    have e1:=ke.cell (j:=1) rfl
    have e2:=ke.cell (j:=2) rfl
    have e3:=ke.cell (j:=3) rfl
    have hFm:qf = true ↔ (i:Int) ∈ F:=by rw [← hqf];exact inF_fl HF.out (by omega)
    have hMm:qm = true ↔ (i:Int) ∈ a.ma:=by rw [← hqm];exact inF_fl HMA.out (by omega)
    have HKS:=Lib.hid (show ReT ⟨a,U,F⟩ K R (reS n U K R a.ed) (i:Int) ↔ (qk = false → (1 ≤ rk∧rk ≤ 4097)∧(rr = 1 → re = -1∧qf = true)∧(rr = 2 → qg = true)∧(rr = 3 → re = -1∧qm = false)) from by
     unfold ReT
     rw [hqk,HR.out,hqg]
     show (qk = false → _∧(_ → _∧(i:Int) ∈ F)∧_∧(_ → _∧¬ (i:Int) ∈ a.ma)) ↔ _
     rw [← hFm,← hMm]
     cases qm <;> simp)
    have HNO:=Lib.hid (show ¬ ReT ⟨a,U,F⟩ K R (reS n U K R a.ed) (i:Int) → ¬ ReP ⟨a,U,F⟩ K R from fun hn hkp=>hn (HIF2.out.2 hkp i hlt2))
    have HYE:=Lib.hid (show ReT ⟨a,U,F⟩ K R (reS n U K R a.ed) (i:Int) → ∀ q:Nat,q < i + 1 → ReT ⟨a,U,F⟩ K R (reS n U K R a.ed) (q:Int) from fun h q hq=>by
     rcases Nat.lt_or_ge q i with h9 | h9
     ·exact HS.out q h9
     ·obtain rfl:q = i:=by omega
      exact h)
    clear hz hk hqk hqf hqm hqg hFm hMm
    cases qk with
    | true =>
     have HS9:=Lib.hid (HYE.out (HKS.out.2 (fun h=>by cases h)))
     go_wp2
     go_roundw
     case rel=>exact ⟨i + 1,_,_,rfl,rfl,by go_num,by omega,HS9,HG9,HB9⟩
     case measure=>simp [intOf];omega
    | false =>
    by_cases hk1:rk < 1
    ·have HN9:=Lib.hid (HNO.out (fun h=>by have:=(HKS.out.1 h rfl).1;omega))
     go_wp2
     go_ret
     exact ⟨false,rfl,⟨(fun h=>by cases h),fun h=>absurd h HN9.out⟩,HB.out _ HB9.out⟩
    by_cases hk2:4097 < rk
    ·have HN9:=Lib.hid (HNO.out (fun h=>by have:=(HKS.out.1 h rfl).1;omega))
     go_wp2
     go_ret
     exact ⟨false,rfl,⟨(fun h=>by cases h),fun h=>absurd h HN9.out⟩,HB.out _ HB9.out⟩
    by_cases hr1:rr = 1
    ·subst hr1
     by_cases hre:re = -1
     case neg =>
      have hre':(re != -1) = true:=by simpa using hre
      have HN9:=Lib.hid (HNO.out (fun h=>hre ((HKS.out.1 h rfl).2.1 rfl).1))
      go_wp2
      go_ret
      exact ⟨false,rfl,⟨(fun h=>by cases h),fun h=>absurd h HN9.out⟩,HB.out _ HB9.out⟩
     subst hre
     cases qf with
     | false =>
      have HN9:=Lib.hid (HNO.out (fun h=>by have:=((HKS.out.1 h rfl).2.1 rfl).2;cases this))
      go_wp2
      go_ret
      exact ⟨false,rfl,⟨(fun h=>by cases h),fun h=>absurd h HN9.out⟩,HB.out _ HB9.out⟩
     | true =>
      have HS9:=Lib.hid (HYE.out (HKS.out.2 (fun _=>⟨⟨by omega,by omega⟩,fun _=>⟨rfl,rfl⟩,fun h=>absurd h (by decide),fun h=>absurd h (by decide)⟩)))
      go_wp2
      go_roundw
      case rel=>exact ⟨i + 1,_,_,rfl,rfl,by go_num,by omega,HS9,HG9,HB9⟩
      case measure=>simp [intOf];omega
    by_cases hr2:rr = 2
    ·subst hr2
     clear hr1
     cases qg with
     | false =>
      have HN9:=Lib.hid (HNO.out (fun h=>by have:=(HKS.out.1 h rfl).2.2.1 rfl;cases this))
      go_wp2
      go_ret
      exact ⟨false,rfl,⟨(fun h=>by cases h),fun h=>absurd h HN9.out⟩,HB.out _ HB9.out⟩
     | true =>
      have HS9:=Lib.hid (HYE.out (HKS.out.2 (fun _=>⟨⟨by omega,by omega⟩,fun h=>absurd h (by decide),fun _=>rfl,fun h=>absurd h (by decide)⟩)))
      go_wp2
      go_roundw
      case rel=>exact ⟨i + 1,_,_,rfl,rfl,by go_num,by omega,HS9,HG9,HB9⟩
      case measure=>simp [intOf];omega
    by_cases hr3:rr = 3
    ·subst hr3
     clear hr1 hr2
     by_cases hre:re = -1
     case neg =>
      have hre':(re != -1) = true:=by simpa using hre
      have HN9:=Lib.hid (HNO.out (fun h=>hre ((HKS.out.1 h rfl).2.2.2 rfl).1))
      go_wp2
      go_ret
      exact ⟨false,rfl,⟨(fun h=>by cases h),fun h=>absurd h HN9.out⟩,HB.out _ HB9.out⟩
     subst hre
     cases qm with
     | true =>
      have HN9:=Lib.hid (HNO.out (fun h=>by have:=((HKS.out.1 h rfl).2.2.2 rfl).2;cases this))
      go_wp2
      go_ret
      exact ⟨false,rfl,⟨(fun h=>by cases h),fun h=>absurd h HN9.out⟩,HB.out _ HB9.out⟩
     | false =>
      have HS9:=Lib.hid (HYE.out (HKS.out.2 (fun _=>⟨⟨by omega,by omega⟩,fun h=>absurd h (by decide),fun h=>absurd h (by decide),fun _=>⟨rfl,rfl⟩⟩)))
      go_wp2
      go_roundw
      case rel=>exact ⟨i + 1,_,_,rfl,rfl,by go_num,by omega,HS9,HG9,HB9⟩
      case measure=>simp [intOf];omega
    have hr1':(rr == 1) = false:=by simpa using hr1
    have hr2':(rr == 2) = false:=by simpa using hr2
    have hr3':(rr == 3) = false:=by simpa using hr3
    have HS9:=Lib.hid (HYE.out (HKS.out.2 (fun _=>⟨⟨by omega,by omega⟩,fun h=>absurd h hr1,fun h=>absurd h hr2,fun h=>absurd h hr3⟩)))
    clear hr1 hr2 hr3
    go_wp2
    go_roundw
    case rel=>exact ⟨i + 1,_,_,rfl,rfl,by go_num,by omega,HS9,HG9,HB9⟩
    case measure=>simp [intOf];omega
  have b1:(j:Int) < (ne:Int):=by omega
  obtain ⟨ad,x,rfl,hab,hx,g0,g1,g2⟩:=RdX.at_ (HZ.out wr HB1.out).x.re (k:=j) (by rw [HLE.out];exact hlt)
  have r1:wr.cell? ⟨(ad.add (j * 3)).block,(ad.add (j * 3)).off + 1,none⟩ = some (.int .i64 x.e):=st_cells (j:=0) g1
  have r2:wr.cell? ⟨(ad.add (j * 3)).block,(ad.add (j * 3)).off + 2,none⟩ = some (.int .i64 x.t):=st_cells (j:=1) g2
  obtain ⟨xf,xt,xe⟩:=HER.out x (List.mem_of_getElem? hx)
  have hbx:=box_below wr (.cells #[.int .i64 x.f,.int .i64 x.e,.int .i64 x.t] 67)
  have ke:Blk (wr.alloc (.cells #[.int .i64 x.f,.int .i64 x.e,.int .i64 x.t] 67)) wr.heap.size 67 [.int .i64 x.f,.int .i64 x.e,.int .i64 x.t]:=Blk.new _ _ [_,_,_]
  have HB5:=Lib.hid (HB1.out.trans (hbx.mono HB1.out.size))
  have HG5:=Lib.hid (HG.out.below hbx HG.out.lt)
  have HNB:=Lib.hid (show w1.heap.size ≠ wr.heap.size by have:=HG.out.lt;omega)
  have HX:=Lib.hid hx
  have hfr:x.f.toNat < n:=by omega
  have htr:x.t.toNat < n:=by omega
  have HGF:=Lib.hid (gR_get (R:=R) (s:=x.f) (by rw [HRL.out];exact hfr))
  have HGT:=Lib.hid (gR_get (R:=R) (s:=x.t) (by rw [HRL.out];exact htr))
  obtain ⟨rf,hrf⟩:∃ q,gR R x.f = q:=⟨_,rfl⟩
  obtain ⟨rt,hrt⟩:∃ q,gR R x.t = q:=⟨_,rfl⟩
  rw [hrf] at HGF
  rw [hrt] at HGT
  have HRF:=Lib.hid hrf
  have HRT:=Lib.hid hrt
  obtain ⟨q1,hq1⟩:∃ q,fl K x.f = q:=⟨_,rfl⟩
  obtain ⟨q2,hq2⟩:∃ q,fl K x.t = q:=⟨_,rfl⟩
  obtain ⟨q3,hq3⟩:∃ q,hasB U x.e = q:=⟨_,rfl⟩
  have HQ1:=Lib.hid hq1
  have HQ2:=Lib.hid hq2
  have HQ3:=Lib.hid hq3
  have HFS:=Lib.hid (reS_snoc (n:=n) (U:=U) (K:=K) (R:=R) hx)
  clear hab hx hbx hq1 hq2 hq3 HG HB1 hrf hrt
  go_upto_region 5 with fail
  clear g0 g1 g2 r1 r2
  generalize wr.heap.size = bx at ke HNB ⊢
  generalize wr.alloc (.cells #[.int .i64 x.f,.int .i64 x.e,.int .i64 x.t] 67) = w5 at ke HB5 HG5 ⊢
  have t1:¬ x.f < 0:=by omega
  have t2:¬ x.t < 0:=by omega
  have t3:¬ x.e < 0:=by omega
  have t4:x.f < (n:Int):=xf.2
  have t5:x.t < (n:Int):=xt.2
  have t6:x.e < 32:=xe.2
  go_cut [6,7] from 19 to 114 (fun s6 s7 wx=>∃ (b6 b7:Nat),s6 = .pointer (some ⟨b6,0,none⟩)∧s7 = .pointer (some ⟨b7,0,none⟩)∧Hid (Blk wx b6 63 (rmc rf)∧Blk wx b7 63 (rmc rt)∧Blk wx bx 67 [.int .i64 x.f,.int .i64 x.e,.int .i64 x.t]∧Blk wx w1.heap.size 4 (bvl (reS n U K R (a.ed.take j)))∧Below w1.heap.size w1 wx))
  case first =>
   have HB6:=Lib.hid (HB5.out.trans ((below_dr w5).mono HB5.out.size))
   have k6:=ke.below (below_dr w5) ke.lt
   have HG6:=Lib.hid (HG5.out.below (below_dr w5) HG5.out.lt)
   refine wp_region_U (fun V=>V.cell? ⟨w.heap.size,6,none⟩ = some (.slice (some ⟨rb,0,none⟩) n n)∧(V.cell? ⟨bx,0,none⟩ = some (.int .i64 x.f)∧V.cell? ⟨bx,2,none⟩ = some (.int .i64 x.t))∧(V.cell? ⟨rb,x.f.toNat * 4,none⟩ = some (.int .i64 rf.s)∧V.cell? ⟨rb,x.f.toNat * 4 + 1,none⟩ = some (.int .i64 rf.k)∧V.cell? ⟨rb,x.f.toNat * 4 + 2,none⟩ = some (.int .i64 rf.r)∧V.cell? ⟨rb,x.f.toNat * 4 + 3,none⟩ = some (.int .i64 rf.e))∧(V.cell? ⟨rb,x.t.toNat * 4,none⟩ = some (.int .i64 rt.s)∧V.cell? ⟨rb,x.t.toNat * 4 + 1,none⟩ = some (.int .i64 rt.k)∧V.cell? ⟨rb,x.t.toNat * 4 + 2,none⟩ = some (.int .i64 rt.r)∧V.cell? ⟨rb,x.t.toNat * 4 + 3,none⟩ = some (.int .i64 rt.e))) (fun _=>True) 99 (by kernel_rfl) ?_
   change anyU _ _ _ _ _ _ _ 16 _ _ _
   generalize w5.drew = w6 at HB6 k6 HG6 ⊢
   have HAV:=Lib.hid (fun (V:World) (hb:Below w1.heap.size w1 V) (k:Blk V bx 67 [.int .i64 x.f,.int .i64 x.e,.int .i64 x.t])=>And.intro ((HK.out V hb).cell (j:=6) rfl) (And.intro (And.intro (k.cell (j:=0) rfl) (k.cell (j:=2) rfl)) (And.intro (rm_cells (HZ.out V hb).r HGF.out) (rm_cells (HZ.out V hb).r HGT.out))))
   have hA0:=HAV.out w6 HB6.out k6
   have hB0:True:=trivial
   (refine uA 0 ?_ rfl hA0 hB0 (fun W hA=>?_) ?_;rotate_left;(· (go_simp;try with_reducible rfl));(try simp only [Act.put,List.setIfInBounds_toArray,List.set_cons_zero,List.set_cons_succ]))
   (refine uA 1 ?_ rfl hA0 hB0 (fun W hA=>?_) ?_;rotate_left;(· (obtain ⟨a0,_⟩:=hA;go_simp;try with_reducible rfl));(try simp only [Act.put,List.setIfInBounds_toArray,List.set_cons_zero,List.set_cons_succ]))
   (refine uA 2 ?_ rfl hA0 hB0 (fun W hA=>?_) ?_;rotate_left;(· (go_simp;try with_reducible rfl));(try simp only [Act.put,List.setIfInBounds_toArray,List.set_cons_zero,List.set_cons_succ]))
   (refine uA 3 ?_ rfl hA0 hB0 (fun W hA=>?_) ?_;rotate_left;(· (obtain ⟨_,⟨a0,a1⟩,_⟩:=hA;go_simp;try with_reducible rfl));(try simp only [Act.put,List.setIfInBounds_toArray,List.set_cons_zero,List.set_cons_succ]))
   (refine uA 4 ?_ rfl hA0 hB0 (fun W hA=>?_) ?_;rotate_left;(· (go_simp;try with_reducible rfl));(try simp only [Act.put,List.setIfInBounds_toArray,List.set_cons_zero,List.set_cons_succ]))
   (refine uA 5 ?_ rfl hA0 hB0 (fun W hA=>?_) ?_;rotate_left;(· (obtain ⟨_,_,⟨a0,a1,a2,a3⟩,_⟩:=hA;go_simp;try with_reducible rfl));(try simp only [Act.put,List.setIfInBounds_toArray,List.set_cons_zero,List.set_cons_succ]))
   (refine uA 6 ?_ rfl hA0 hB0 (fun W hA=>?_) ?_;rotate_left;(· (go_simp;try with_reducible rfl));(try simp only [Act.put,List.setIfInBounds_toArray,List.set_cons_zero,List.set_cons_succ]))
   (refine uA 7 ?_ rfl hA0 hB0 (fun W hA=>?_) ?_;rotate_left;(· (obtain ⟨a0,_⟩:=hA;go_simp;try with_reducible rfl));(try simp only [Act.put,List.setIfInBounds_toArray,List.set_cons_zero,List.set_cons_succ]))
   (refine uA 8 ?_ rfl hA0 hB0 (fun W hA=>?_) ?_;rotate_left;(· (go_simp;try with_reducible rfl));(try simp only [Act.put,List.setIfInBounds_toArray,List.set_cons_zero,List.set_cons_succ]))
   (refine uA 9 ?_ rfl hA0 hB0 (fun W hA=>?_) ?_;rotate_left;(· (obtain ⟨_,⟨a0,a1⟩,_⟩:=hA;go_simp;try with_reducible rfl));(try simp only [Act.put,List.setIfInBounds_toArray,List.set_cons_zero,List.set_cons_succ]))
   (refine uA 10 ?_ rfl hA0 hB0 (fun W hA=>?_) ?_;rotate_left;(· (go_simp;try with_reducible rfl));(try simp only [Act.put,List.setIfInBounds_toArray,List.set_cons_zero,List.set_cons_succ]))
   (refine uA 11 ?_ rfl hA0 hB0 (fun W hA=>?_) ?_;rotate_left;(· (obtain ⟨_,_,_,⟨a0,a1,a2,a3⟩⟩:=hA;go_simp;try with_reducible rfl));(try simp only [Act.put,List.setIfInBounds_toArray,List.set_cons_zero,List.set_cons_succ]))
   have hb7:=box_below w6 (.cells #[.int .i64 0,.int .i64 0,.int .i64 0,.int .i64 0] 63)
   have k67:Blk (w6.alloc (.cells #[.int .i64 0,.int .i64 0,.int .i64 0,.int .i64 0] 63)) w6.heap.size 63 z4c:=Blk.new _ _ _
   have hs67:w1.heap.size ≤ w6.heap.size:=HB6.out.size
   have hB7:=HB6.out.trans (hb7.mono hs67)
   have kx7:=k6.below hb7 k6.lt
   have kg7:=HG6.out.below hb7 HG6.out.lt
   have hA7:=HAV.out _ hB7 kx7
   clear hb7
   refine uTwo (i:=12) (j:=13) rfl rfl (by kernel_rfl) (fun K hK=>?_) (fun K hK=>?_)
   ·go_simp
    obtain ⟨b6,hb6⟩:∃ b,w6.heap.size = b:=⟨_,rfl⟩
    rw [hb6] at k67 hs67 ⊢
    have hw7:w6.heap.size < (w6.alloc (.cells #[.int .i64 0,.int .i64 0,.int .i64 0,.int .i64 0] 63)).heap.size:=by simp
    rw [hb6] at hw7
    clear hb6
    generalize w6.alloc (.cells #[.int .i64 0,.int .i64 0,.int .i64 0,.int .i64 0] 63) = w7 at k67 hB7 kx7 kg7 hA7 hw7 ⊢
    clear hA0
    (refine hK _ _ ⟨hA7,fun _=>hB0⟩ ?_;clear hK K;(try simp only [Act.put,List.setIfInBounds_toArray,List.set_cons_zero,List.set_cons_succ]))
    refine uOne (i:=13) rfl (by kernel_rfl) (fun K hK=>?_)
    go_simp
    have hb8:=box_below w7 (.cells #[.int .i64 0,.int .i64 0,.int .i64 0,.int .i64 0] 63)
    have k68:=k67.below hb8 k67.lt
    have k78:Blk (w7.alloc (.cells #[.int .i64 0,.int .i64 0,.int .i64 0,.int .i64 0] 63)) w7.heap.size 63 z4c:=Blk.new _ _ _
    have kx8:=kx7.below hb8 kx7.lt
    have kg8:=kg7.below hb8 kg7.lt
    have hl7:=hB7.size
    have hb8':=hB7.trans (hb8.mono hl7)
    have hl6:=hs67
    have hA8:=HAV.out _ hb8' kx8
    obtain ⟨b7,hb7⟩:∃ b,w7.heap.size = b:=⟨_,rfl⟩
    rw [hb7] at k78 hl7 hw7 ⊢
    clear hb8 hb7 hA7 hB7 k67 kx7 kg7
    generalize w7.alloc (.cells #[.int .i64 0,.int .i64 0,.int .i64 0,.int .i64 0] 63) = w8 at k68 k78 kx8 kg8 hb8' hA8 ⊢
    have hb8:=hb8'
    (refine hK _ _ ⟨hA8,fun _=>hB0⟩ ?_;clear hK K;(try simp only [Act.put,List.setIfInBounds_toArray,List.set_cons_zero,List.set_cons_succ]))
    have hA0:=hA8
    clear hA8 hb8'
    have HXB:=Lib.hid (show Below w1.heap.size w1 w8 by exact hb8)
    obtain ⟨p1,p2,p3⟩:=rm_put k68 rf
    have hne67:b7 ≠ b6:=(by omega)
    have k79:=k78.kept p2 (fun e=>by injection e with e;exact hne67 e)
    obtain ⟨p4,p5,p6⟩:=rm_put k79 rt
    have p7:=p1.kept p5 (fun e=>by injection e with e;exact hne67 e.symm)
    have kx9:=kx8.kept p2 (fun e=>by injection e with e;exact blk_apart kx8 k68 (by decide) e)
    have kx10:=kx9.kept p5 (fun e=>by injection e with e;exact blk_apart kx9 k79 (by decide) e)
    have kg9:=kg8.kept p2 (fun e=>by injection e with e;exact blk_apart kg8 k68 (by decide) e)
    have kg10:=kg9.kept p5 (fun e=>by injection e with e;exact blk_apart kg9 k79 (by decide) e)
    have hb9:=hb8.grown p2 hb8.size (fun j e=>by injection e with e;subst e;exact hl6)
    have hb10:=hb9.grown p5 hb9.size (fun j e=>by injection e with e;subst e;exact hl7)
    have hA9:=HAV.out _ hb9 kx9
    have hA10:=HAV.out _ hb10 kx10
    have HF:=Lib.hid (And.intro p7 (And.intro p4 (And.intro kx10 (And.intro kg10 hb10))))
    have HT3:=Lib.hid p3
    have HT6:=Lib.hid p6
    unfold rmc at hA9 hA10 HF HT6
    clear p1 p2 p3 p4 p5 p6 p7 kx9 kx10 kg9 kg10 k79 kx8 kg8 hb9 hb10
    refine uOne (i:=14) rfl (by kernel_rfl) (fun K hK=>?_)
    refine step_store rfl 63 (.tmp 6) (.tmp 27) rfl b6 0 #[.int .i64 rf.s,.int .i64 rf.k,.int .i64 rf.r,.int .i64 rf.e] rfl rfl HT3.out rm_size (all_oneCell_toArray (rm_one rf)) ?_
    (refine hK _ _ ⟨hA9,fun h=>absurd (h.symm.trans (by kernel_rfl:_ = true)) Bool.false_ne_true⟩ ?_;clear hK K;simp only [Act.put])
    clear hA0
    refine uOne (i:=15) rfl (by kernel_rfl) (fun K hK=>?_)
    refine step_store rfl 63 (.tmp 7) (.tmp 33) rfl b7 0 #[.int .i64 rt.s,.int .i64 rt.k,.int .i64 rt.r,.int .i64 rt.e] rfl rfl HT6.out rm_size (all_oneCell_toArray (rm_one rt)) ?_
    (refine hK _ _ ⟨hA10,fun h=>absurd (h.symm.trans (by kernel_rfl:_ = true)) Bool.false_ne_true⟩ ?_;clear hK K;simp only [Act.put])
    refine anyU_done (by kernel_rfl) ?_ _
    clear hA9 hA10 HT3 HT6
    have hf:=HF.out
    clear HF
    have hf':Blk ((w8.setCells b6 0 [.int .i64 rf.s,.int .i64 rf.k,.int .i64 rf.r,.int .i64 rf.e]).setCells b7 0 [.int .i64 rt.s,.int .i64 rt.k,.int .i64 rt.r,.int .i64 rt.e]) b6 63 (rmc rf)∧Blk ((w8.setCells b6 0 [.int .i64 rf.s,.int .i64 rf.k,.int .i64 rf.r,.int .i64 rf.e]).setCells b7 0 [.int .i64 rt.s,.int .i64 rt.k,.int .i64 rt.r,.int .i64 rt.e]) b7 63 (rmc rt)∧Blk ((w8.setCells b6 0 [.int .i64 rf.s,.int .i64 rf.k,.int .i64 rf.r,.int .i64 rf.e]).setCells b7 0 [.int .i64 rt.s,.int .i64 rt.k,.int .i64 rt.r,.int .i64 rt.e]) bx 67 [.int .i64 x.f,.int .i64 x.e,.int .i64 x.t]∧Blk ((w8.setCells b6 0 [.int .i64 rf.s,.int .i64 rf.k,.int .i64 rf.r,.int .i64 rf.e]).setCells b7 0 [.int .i64 rt.s,.int .i64 rt.k,.int .i64 rt.r,.int .i64 rt.e]) w1.heap.size 4 (bvl (reS n U K R (a.ed.take j)))∧Below w1.heap.size w1 ((w8.setCells b6 0 [.int .i64 rf.s,.int .i64 rf.k,.int .i64 rf.r,.int .i64 rf.e]).setCells b7 0 [.int .i64 rt.s,.int .i64 rt.k,.int .i64 rt.r,.int .i64 rt.e]):=hf
    clear hf
    generalize (w8.setCells b6 0 [.int .i64 rf.s,.int .i64 rf.k,.int .i64 rf.r,.int .i64 rf.e]).setCells b7 0 [.int .i64 rt.s,.int .i64 rt.k,.int .i64 rt.r,.int .i64 rt.e] = w10 at hf' ⊢
    have HF:=Lib.hid hf'
    clear hf'
    go_wp2_with fail
    go_meet
    case rel=>exact ⟨b6,b7,rfl,rfl,HF⟩
   ·go_simp
    obtain ⟨b6,hb6⟩:∃ b,w6.heap.size = b:=⟨_,rfl⟩
    rw [hb6] at k67 hs67 ⊢
    have hw7:w6.heap.size < (w6.alloc (.cells #[.int .i64 0,.int .i64 0,.int .i64 0,.int .i64 0] 63)).heap.size:=by simp
    rw [hb6] at hw7
    clear hb6
    generalize w6.alloc (.cells #[.int .i64 0,.int .i64 0,.int .i64 0,.int .i64 0] 63) = w7 at k67 hB7 kx7 kg7 hA7 hw7 ⊢
    clear hA0
    (refine hK _ _ ⟨hA7,fun _=>hB0⟩ ?_;clear hK K;(try simp only [Act.put,List.setIfInBounds_toArray,List.set_cons_zero,List.set_cons_succ]))
    refine uOne (i:=12) rfl (by kernel_rfl) (fun K hK=>?_)
    go_simp
    have hb8:=box_below w7 (.cells #[.int .i64 0,.int .i64 0,.int .i64 0,.int .i64 0] 63)
    have k68:=k67.below hb8 k67.lt
    have k78:Blk (w7.alloc (.cells #[.int .i64 0,.int .i64 0,.int .i64 0,.int .i64 0] 63)) w7.heap.size 63 z4c:=Blk.new _ _ _
    have kx8:=kx7.below hb8 kx7.lt
    have kg8:=kg7.below hb8 kg7.lt
    have hl6:=hB7.size
    have hb8':=hB7.trans (hb8.mono hl6)
    have hl7:=hs67
    have hA8:=HAV.out _ hb8' kx8
    obtain ⟨b7,hb7⟩:∃ b,w7.heap.size = b:=⟨_,rfl⟩
    rw [hb7] at k78 hl6 hw7 ⊢
    clear hb8 hb7 hA7 hB7 k67 kx7 kg7
    generalize w7.alloc (.cells #[.int .i64 0,.int .i64 0,.int .i64 0,.int .i64 0] 63) = w8 at k68 k78 kx8 kg8 hb8' hA8 ⊢
    have hb8:=hb8'
    (refine hK _ _ ⟨hA8,fun _=>hB0⟩ ?_;clear hK K;(try simp only [Act.put,List.setIfInBounds_toArray,List.set_cons_zero,List.set_cons_succ]))
    have hA0:=hA8
    clear hA8 hb8'
    have HXB:=Lib.hid (show Below w1.heap.size w1 w8 by exact hb8)
    obtain ⟨p1,p2,p3⟩:=rm_put k78 rf
    have hne67:b6 ≠ b7:=(by omega)
    have k79:=k68.kept p2 (fun e=>by injection e with e;exact hne67 e)
    obtain ⟨p4,p5,p6⟩:=rm_put k79 rt
    have p7:=p1.kept p5 (fun e=>by injection e with e;exact hne67 e.symm)
    have kx9:=kx8.kept p2 (fun e=>by injection e with e;exact blk_apart kx8 k78 (by decide) e)
    have kx10:=kx9.kept p5 (fun e=>by injection e with e;exact blk_apart kx9 k79 (by decide) e)
    have kg9:=kg8.kept p2 (fun e=>by injection e with e;exact blk_apart kg8 k78 (by decide) e)
    have kg10:=kg9.kept p5 (fun e=>by injection e with e;exact blk_apart kg9 k79 (by decide) e)
    have hb9:=hb8.grown p2 hb8.size (fun j e=>by injection e with e;subst e;exact hl6)
    have hb10:=hb9.grown p5 hb9.size (fun j e=>by injection e with e;subst e;exact hl7)
    have hA9:=HAV.out _ hb9 kx9
    have hA10:=HAV.out _ hb10 kx10
    have HF:=Lib.hid (And.intro p7 (And.intro p4 (And.intro kx10 (And.intro kg10 hb10))))
    have HT3:=Lib.hid p3
    have HT6:=Lib.hid p6
    unfold rmc at hA9 hA10 HF HT6
    clear p1 p2 p3 p4 p5 p6 p7 kx9 kx10 kg9 kg10 k79 kx8 kg8 hb9 hb10
    refine uOne (i:=14) rfl (by kernel_rfl) (fun K hK=>?_)
    refine step_store rfl 63 (.tmp 6) (.tmp 27) rfl b7 0 #[.int .i64 rf.s,.int .i64 rf.k,.int .i64 rf.r,.int .i64 rf.e] rfl rfl HT3.out rm_size (all_oneCell_toArray (rm_one rf)) ?_
    (refine hK _ _ ⟨hA9,fun h=>absurd (h.symm.trans (by kernel_rfl:_ = true)) Bool.false_ne_true⟩ ?_;clear hK K;simp only [Act.put])
    clear hA0
    refine uOne (i:=15) rfl (by kernel_rfl) (fun K hK=>?_)
    refine step_store rfl 63 (.tmp 7) (.tmp 33) rfl b6 0 #[.int .i64 rt.s,.int .i64 rt.k,.int .i64 rt.r,.int .i64 rt.e] rfl rfl HT6.out rm_size (all_oneCell_toArray (rm_one rt)) ?_
    (refine hK _ _ ⟨hA10,fun h=>absurd (h.symm.trans (by kernel_rfl:_ = true)) Bool.false_ne_true⟩ ?_;clear hK K;simp only [Act.put])
    refine anyU_done (by kernel_rfl) ?_ _
    clear hA9 hA10 HT3 HT6
    have hf:=HF.out
    clear HF
    have hf':Blk ((w8.setCells b7 0 [.int .i64 rf.s,.int .i64 rf.k,.int .i64 rf.r,.int .i64 rf.e]).setCells b6 0 [.int .i64 rt.s,.int .i64 rt.k,.int .i64 rt.r,.int .i64 rt.e]) b7 63 (rmc rf)∧Blk ((w8.setCells b7 0 [.int .i64 rf.s,.int .i64 rf.k,.int .i64 rf.r,.int .i64 rf.e]).setCells b6 0 [.int .i64 rt.s,.int .i64 rt.k,.int .i64 rt.r,.int .i64 rt.e]) b6 63 (rmc rt)∧Blk ((w8.setCells b7 0 [.int .i64 rf.s,.int .i64 rf.k,.int .i64 rf.r,.int .i64 rf.e]).setCells b6 0 [.int .i64 rt.s,.int .i64 rt.k,.int .i64 rt.r,.int .i64 rt.e]) bx 67 [.int .i64 x.f,.int .i64 x.e,.int .i64 x.t]∧Blk ((w8.setCells b7 0 [.int .i64 rf.s,.int .i64 rf.k,.int .i64 rf.r,.int .i64 rf.e]).setCells b6 0 [.int .i64 rt.s,.int .i64 rt.k,.int .i64 rt.r,.int .i64 rt.e]) w1.heap.size 4 (bvl (reS n U K R (a.ed.take j)))∧Below w1.heap.size w1 ((w8.setCells b7 0 [.int .i64 rf.s,.int .i64 rf.k,.int .i64 rf.r,.int .i64 rf.e]).setCells b6 0 [.int .i64 rt.s,.int .i64 rt.k,.int .i64 rt.r,.int .i64 rt.e]):=hf
    clear hf
    generalize (w8.setCells b7 0 [.int .i64 rf.s,.int .i64 rf.k,.int .i64 rf.r,.int .i64 rf.e]).setCells b6 0 [.int .i64 rt.s,.int .i64 rt.k,.int .i64 rt.r,.int .i64 rt.e] = w10 at hf' ⊢
    have HF:=Lib.hid hf'
    clear hf'
    go_wp2_with fail
    go_meet
    case rel=>exact ⟨b7,b6,rfl,rfl,HF⟩
  case rest =>
   obtain ⟨b6,b7,rfl,rfl,HF9⟩:=hcut
   obtain ⟨k6,k7,kx,kg,hbw⟩:=HF9.out
   clear HF9 HG5 HB5 ke
   have HBX:=Lib.hid hbw
   have HKG:=Lib.hid kg
   have HRO:=Lib.hid (show ReO K R x ↔ (q1 = false → rf.r = 3 → q2 = false∧rt.k ≤ rf.k∧(rt.k = rf.k → rt.r = 3)) from by unfold ReO;rw [HQ1.out,HQ2.out,HRF.out,HRT.out])
   have HRB:=Lib.hid (show reB U K R x = (x.e == rf.e && q3 && !q2 && decide (rt.k < rf.k)) from by unfold reB;rw [HQ2.out,HQ3.out,HRF.out,HRT.out])
   have HFR:=Lib.hid (show (gR R x.f).r = rf.r by rw [HRF.out])
   unfold rmc at k6 k7
   obtain ⟨fr,hfr9⟩:∃ q,rf.r = q:=⟨_,rfl⟩
   obtain ⟨fk,hfk9⟩:∃ q,rf.k = q:=⟨_,rfl⟩
   obtain ⟨fe,hfe9⟩:∃ q,rf.e = q:=⟨_,rfl⟩
   obtain ⟨tk,htk9⟩:∃ q,rt.k = q:=⟨_,rfl⟩
   obtain ⟨tr,htr9⟩:∃ q,rt.r = q:=⟨_,rfl⟩
   rw [hfr9,hfk9,hfe9] at k6
   rw [htk9,htr9] at k7
   rw [hfr9,hfk9,htk9,htr9] at HRO
   rw [hfk9,hfe9,htk9] at HRB
   rw [hfr9] at HFR
   have hz:=HZ.out wc HBX.out
   have hk:=HK.out wc HBX.out
   have c0:=kx.cell (j:=0) rfl
   have c1:=kx.cell (j:=1) rfl
   have c2:=kx.cell (j:=2) rfl
   have e1:=k6.cell (j:=1) rfl
   have e2:=k6.cell (j:=2) rfl
   have e3:=k6.cell (j:=3) rfl
   have f1:=k7.cell (j:=1) rfl
   have f2:=k7.cell (j:=2) rfl
   have c4:=hk.cell (j:=4) rfl
   have c9:=hk.cell (j:=9) rfl
   have d1:wc.cell? ⟨kb,x.f.toNat,none⟩ = some (.bool q1):=hz.k.cell (by rw [bvl_get,fl_get HQ1.out xf.1 (by rw [HKL.out];exact xf.2)];rfl)
   have d2:wc.cell? ⟨kb,x.t.toNat,none⟩ = some (.bool q2):=hz.k.cell (by rw [bvl_get,fl_get HQ2.out xt.1 (by rw [HKL.out];exact xt.2)];rfl)
   have d3:wc.cell? ⟨cb,x.e.toNat,none⟩ = some (.bool q3):=hz.c.cell (by rw [bvl_get,fl_get ((hardB HU.out xe.1).trans HQ3.out) xe.1 (by rw [inF_len];exact xe.2)];rfl)
   have HN67:=Lib.hid (show b6 ≠ w1.heap.size∧b7 ≠ w1.heap.size∧bx ≠ w1.heap.size from ⟨blk_apart k6 kg (by decide),blk_apart k7 kg (by decide),blk_apart kx kg (by decide)⟩)
   have HK6:=Lib.hid k6
   have HK7:=Lib.hid k7
   have HKX:=Lib.hid kx
   clear hz hk hfr9 hfk9 hfe9 htk9 htr9 k6 k7 kx kg hbw
   have HNX:=Lib.hid (show (q1 = true ∨ fr ≠ 2) → reS n U K R (a.ed.take (j + 1)) = reS n U K R (a.ed.take j) from fun h=>by
    rw [HFS.out]
    unfold reX
    rw [if_neg]
    rintro ⟨h1,h2,_⟩
    rw [HQ1.out] at h1
    rw [HFR.out] at h2
    rcases h with h | h
    ·rw [h1] at h;cases h
    ·exact h h2)
   cases q1 with
   | true =>
    have HE9:=Lib.hid (HE.out.snoc HX.out (HRO.out.2 (fun h=>by cases h)))
    have HG9:=Lib.hid (show Blk wc w1.heap.size 4 (bvl (reS n U K R (a.ed.take (j + 1)))) by rw [HNX.out (.inl rfl)];exact HKG.out)
    go_wp2
    go_roundw
    case rel=>exact ⟨j + 1,_,_,_,rfl,rfl,rfl,by go_num,by omega,HG9,HE9,HBX⟩
    case measure=>simp [intOf];omega
   | false =>
   by_cases hr2:fr = 2
   case pos =>
    subst hr2
    have HE9:=Lib.hid (HE.out.snoc HX.out (HRO.out.2 (fun _ h=>absurd h (by decide))))
    go_upto_region 8 with fail
    clear c0 c1 c2 c4 c9 d1 d2 d3 e1 e2 e3 f1 f2
    have HB6:=Lib.hid (HBX.out.trans ((below_dr wc).mono HBX.out.size))
    have HG6:=Lib.hid (HKG.out.below (below_dr wc) HKG.out.lt)
    have HAV:=Lib.hid (fun (V:World) (hb:Below w1.heap.size w1 V) (k6:Blk V b6 63 [.int .i64 rf.s,.int .i64 fk,.int .i64 2,.int .i64 fe]) (k7:Blk V b7 63 [.int .i64 rt.s,.int .i64 tk,.int .i64 tr,.int .i64 rt.e]) (k:Blk V bx 67 [.int .i64 x.f,.int .i64 x.e,.int .i64 x.t]) =>
     (show (V.cell? ⟨bx,0,none⟩ = some (.int .i64 x.f)∧V.cell? ⟨bx,1,none⟩ = some (.int .i64 x.e)∧V.cell? ⟨bx,2,none⟩ = some (.int .i64 x.t))∧(V.cell? ⟨b6,1,none⟩ = some (.int .i64 fk)∧V.cell? ⟨b6,3,none⟩ = some (.int .i64 fe))∧V.cell? ⟨b7,1,none⟩ = some (.int .i64 tk)∧(V.cell? ⟨w.heap.size,4,none⟩ = some (.slice (some ⟨kb,0,none⟩) n n)∧V.cell? ⟨w.heap.size,9,none⟩ = some (.slice (some ⟨cb,0,none⟩) 32 32))∧V.cell? ⟨kb,x.t.toNat,none⟩ = some (.bool q2)∧V.cell? ⟨cb,x.e.toNat,none⟩ = some (.bool q3) from
      ⟨⟨k.cell (j:=0) rfl,k.cell (j:=1) rfl,k.cell (j:=2) rfl⟩,⟨k6.cell (j:=1) rfl,k6.cell (j:=3) rfl⟩,k7.cell (j:=1) rfl,⟨(HK.out V hb).cell (j:=4) rfl,(HK.out V hb).cell (j:=9) rfl⟩,
       (HZ.out V hb).k.cell (by rw [bvl_get,fl_get HQ2.out xt.1 (by rw [HKL.out];exact xt.2)];rfl),(HZ.out V hb).c.cell (by rw [bvl_get,fl_get ((hardB HU.out xe.1).trans HQ3.out) xe.1 (by rw [inF_len];exact xe.2)];rfl)⟩))
    have hA0:=HAV.out _ HB6.out (HK6.out.below (below_dr wc) HK6.out.lt) (HK7.out.below (below_dr wc) HK7.out.lt) (HKX.out.below (below_dr wc) HKX.out.lt)
    have HKS:=Lib.hid (And.intro (HK6.out.below (below_dr wc) HK6.out.lt) (And.intro (HK7.out.below (below_dr wc) HK7.out.lt) (HKX.out.below (below_dr wc) HKX.out.lt)))
    obtain ⟨qg,hqg⟩:∃ q,fl (reS n U K R (a.ed.take j)) x.f = q:=⟨_,rfl⟩
    have HQG:=Lib.hid hqg
    clear hqg
    refine wp_region_U (fun V=>(V.cell? ⟨bx,0,none⟩ = some (.int .i64 x.f)∧V.cell? ⟨bx,1,none⟩ = some (.int .i64 x.e)∧V.cell? ⟨bx,2,none⟩ = some (.int .i64 x.t))∧(V.cell? ⟨b6,1,none⟩ = some (.int .i64 fk)∧V.cell? ⟨b6,3,none⟩ = some (.int .i64 fe))∧V.cell? ⟨b7,1,none⟩ = some (.int .i64 tk)∧(V.cell? ⟨w.heap.size,4,none⟩ = some (.slice (some ⟨kb,0,none⟩) n n)∧V.cell? ⟨w.heap.size,9,none⟩ = some (.slice (some ⟨cb,0,none⟩) 32 32))∧V.cell? ⟨kb,x.t.toNat,none⟩ = some (.bool q2)∧V.cell? ⟨cb,x.e.toNat,none⟩ = some (.bool q3)) (fun V=>V.cell? ⟨w1.heap.size,x.f.toNat,none⟩ = some (.bool qg)) 40 (by kernel_rfl) ?_
    change anyU _ _ _ _ _ _ _ 41 _ _ _
    generalize wc.drew = w6 at HB6 HG6 hA0 HKS ⊢
    have hB0:w6.cell? ⟨w1.heap.size,x.f.toNat,none⟩ = some (.bool qg):=HG6.out.cell (by rw [bvl_get,fl_get HQG.out xf.1 (by rw [reS_len];exact xf.2)];rfl)
    have g2:w6.frozen? ⟨w1.heap.size,x.f.toNat,none⟩ = false:=HG6.out.free _
    have g3:w1.heap.size < w6.heap.size:=HG6.out.lt
    have HSET:=Lib.hid (fun (v:Bool) (hv:v = (qg || reB U K R x))=>(show Blk (w6.setCell ⟨w1.heap.size,x.f.toNat,none⟩ (.bool v)) w1.heap.size 4 (bvl (reS n U K R (a.ed.take (j + 1)))) from by
     have h9:=HG6.out.set (j:=x.f.toNat) (by rw [bvl_length,reS_len];omega) (.bool v)
     rw [bvl_set] at h9
     rw [HFS.out,reX_set HQ1.out HFR.out xf.1 (by rw [reS_len];exact xf.2),HQG.out,← hv]
     exact h9))
    have HB7:=Lib.hid (fun (v:Bool)=>HB6.out.setCell (p:=⟨w1.heap.size,x.f.toNat,none⟩) (Nat.le_refl _) (.bool v))
    have HA7:=Lib.hid (fun (v:Bool)=>HAV.out (w6.setCell ⟨w1.heap.size,x.f.toNat,none⟩ (.bool v)) (HB7.out v) (HKS.out.1.kept (grown_setCell w6 w1.heap.size x.f.toNat (.bool v)) (fun e=>by injection e with e;exact HN67.out.1 e)) (HKS.out.2.1.kept (grown_setCell w6 w1.heap.size x.f.toNat (.bool v)) (fun e=>by injection e with e;exact HN67.out.2.1 e)) (HKS.out.2.2.kept (grown_setCell w6 w1.heap.size x.f.toNat (.bool v)) (fun e=>by injection e with e;exact HN67.out.2.2 e)))
    (refine uA 0 ?_ rfl hA0 hB0 (fun W hA=>?_) ?_;rotate_left;(· (go_simp;try with_reducible rfl));refine uA 1 ?_ rfl hA0 hB0 (fun W hA=>?_) ?_;rotate_left;(· (go_simp;try with_reducible rfl));(try simp only [Act.put,List.setIfInBounds_toArray,List.set_cons_zero,List.set_cons_succ]))
    (refine uA 2 ?_ rfl hA0 hB0 (fun W hA=>?_) ?_;rotate_left;(· (obtain ⟨⟨a0,a1,a2⟩,_⟩:=hA;go_simp;try with_reducible rfl));(try simp only [Act.put,List.setIfInBounds_toArray,List.set_cons_zero,List.set_cons_succ]))
    (refine uA 3 ?_ rfl hA0 hB0 (fun W hA=>?_) ?_;rotate_left;(· (go_simp;try with_reducible rfl));refine uA 4 ?_ rfl hA0 hB0 (fun W hA=>?_) ?_;rotate_left;(· (go_simp;try with_reducible rfl));(try simp only [Act.put,List.setIfInBounds_toArray,List.set_cons_zero,List.set_cons_succ]))
    (refine uA 5 ?_ rfl hA0 hB0 (fun W hA=>?_) ?_;rotate_left;(· (obtain ⟨⟨a0,a1,a2⟩,_⟩:=hA;go_simp;try with_reducible rfl));(try simp only [Act.put,List.setIfInBounds_toArray,List.set_cons_zero,List.set_cons_succ]))
    (refine uA 6 ?_ rfl hA0 hB0 (fun W hA=>?_) ?_;rotate_left;(· (go_simp;try with_reducible rfl));(try simp only [Act.put,List.setIfInBounds_toArray,List.set_cons_zero,List.set_cons_succ]))
    (refine uB 7 ?_ rfl hA0 hB0 (fun W hA hB=>?_) ?_;rotate_left;(· (go_simp;try with_reducible rfl));(try simp only [Act.put,List.setIfInBounds_toArray,List.set_cons_zero,List.set_cons_succ]))
    (refine uA 8 ?_ rfl hA0 hB0 (fun W hA=>?_) ?_;rotate_left;(· (go_simp;try with_reducible rfl));(try simp only [Act.put,List.setIfInBounds_toArray,List.set_cons_zero,List.set_cons_succ]))
    cases qg with
    | true =>
     (refine uS 9 rfl hA0 hB0 ?_;refine uS 10 rfl hA0 hB0 ?_;refine uS 11 rfl hA0 hB0 ?_;(try simp only [Act.put,List.setIfInBounds_toArray,List.set_cons_zero,List.set_cons_succ]))
     (refine uS 12 rfl hA0 hB0 ?_;refine uS 13 rfl hA0 hB0 ?_;refine uS 14 rfl hA0 hB0 ?_;(try simp only [Act.put,List.setIfInBounds_toArray,List.set_cons_zero,List.set_cons_succ]))
     (refine uS 15 rfl hA0 hB0 ?_;refine uS 16 rfl hA0 hB0 ?_;refine uS 17 rfl hA0 hB0 ?_;(try simp only [Act.put,List.setIfInBounds_toArray,List.set_cons_zero,List.set_cons_succ]))
     (refine uS 18 rfl hA0 hB0 ?_;refine uS 19 rfl hA0 hB0 ?_;refine uS 20 rfl hA0 hB0 ?_;(try simp only [Act.put,List.setIfInBounds_toArray,List.set_cons_zero,List.set_cons_succ]))
     (refine uS 21 rfl hA0 hB0 ?_;refine uS 22 rfl hA0 hB0 ?_;refine uS 23 rfl hA0 hB0 ?_;(try simp only [Act.put,List.setIfInBounds_toArray,List.set_cons_zero,List.set_cons_succ]))
     (refine uS 24 rfl hA0 hB0 ?_;refine uS 25 rfl hA0 hB0 ?_;refine uS 26 rfl hA0 hB0 ?_;(try simp only [Act.put,List.setIfInBounds_toArray,List.set_cons_zero,List.set_cons_succ]))
     (refine uS 27 rfl hA0 hB0 ?_;refine uS 28 rfl hA0 hB0 ?_;refine uS 29 rfl hA0 hB0 ?_;(try simp only [Act.put,List.setIfInBounds_toArray,List.set_cons_zero,List.set_cons_succ]))
     (refine uS 30 rfl hA0 hB0 ?_;refine uS 31 rfl hA0 hB0 ?_;refine uS 32 rfl hA0 hB0 ?_;(try simp only [Act.put,List.setIfInBounds_toArray,List.set_cons_zero,List.set_cons_succ]))
     (refine uS 33 rfl hA0 hB0 ?_;refine uS 34 rfl hA0 hB0 ?_;refine uS 35 rfl hA0 hB0 ?_;(try simp only [Act.put,List.setIfInBounds_toArray,List.set_cons_zero,List.set_cons_succ]))
     (refine uS 36 rfl hA0 hB0 ?_;refine uS 37 rfl hA0 hB0 ?_;(try simp only [Act.put,List.setIfInBounds_toArray,List.set_cons_zero,List.set_cons_succ]))
     have HG9:=Lib.hid (HSET.out (true) (by simp))
     have hA9:=HA7.out (true)
     have HB9:=Lib.hid (HB7.out (true))
     (refine uA 38 ?_ rfl hA0 hB0 (fun W hA=>?_) ?_;rotate_left;(· (go_simp;try with_reducible rfl));refine uA 39 ?_ rfl hA0 hB0 (fun W hA=>?_) ?_;rotate_left;(· (go_simp;try with_reducible rfl));(try simp only [Act.put,List.setIfInBounds_toArray,List.set_cons_zero,List.set_cons_succ]))
     refine uOne (i:=40) rfl (by kernel_rfl) (fun K hK=>?_)
     go_simp
     (refine hK _ _ ⟨hA9,fun h=>absurd (h.symm.trans (by kernel_rfl:_ = true)) Bool.false_ne_true⟩ ?_;clear hK K;(try simp only [Act.put,List.setIfInBounds_toArray,List.set_cons_zero,List.set_cons_succ]))
     refine anyU_done (by kernel_rfl) ?_ _
     clear hA0 hB0 hA9 g2 g3 HSET HA7 HB7 HG6 HB6
     generalize w6.setCell ⟨w1.heap.size,x.f.toNat,none⟩ (.bool (true)) = w9 at HG9 HB9 ⊢
     go_wp2
     go_roundw
     case rel=>exact ⟨j + 1,_,_,_,rfl,rfl,rfl,by go_num,by omega,HG9,HE9,HB9⟩
     case measure=>simp [intOf];omega
    | false =>
    (refine uA 9 ?_ rfl hA0 hB0 (fun W hA=>?_) ?_;rotate_left;(· (go_simp;try with_reducible rfl));(try simp only [Act.put,List.setIfInBounds_toArray,List.set_cons_zero,List.set_cons_succ]))
    (refine uA 10 ?_ rfl hA0 hB0 (fun W hA=>?_) ?_;rotate_left;(· (obtain ⟨⟨a0,a1,a2⟩,_⟩:=hA;go_simp;try with_reducible rfl));(try simp only [Act.put,List.setIfInBounds_toArray,List.set_cons_zero,List.set_cons_succ]))
    (refine uA 11 ?_ rfl hA0 hB0 (fun W hA=>?_) ?_;rotate_left;(· (go_simp;try with_reducible rfl));(try simp only [Act.put,List.setIfInBounds_toArray,List.set_cons_zero,List.set_cons_succ]))
    (refine uA 12 ?_ rfl hA0 hB0 (fun W hA=>?_) ?_;rotate_left;(· (obtain ⟨_,⟨a3,a4⟩,_⟩:=hA;go_simp;try with_reducible rfl));(try simp only [Act.put,List.setIfInBounds_toArray,List.set_cons_zero,List.set_cons_succ]))
    by_cases hee:x.e = fe
    case neg =>
     have hee':(x.e == fe) = false:=by simpa using hee
     have HEE:=Lib.hid hee'
     (refine uA 13 ?_ rfl hA0 hB0 (fun W hA=>?_) ?_;rotate_left;(· (go_simp;try with_reducible rfl));refine uA 14 ?_ rfl hA0 hB0 (fun W hA=>?_) ?_;rotate_left;(· (go_simp;try with_reducible rfl));(try simp only [Act.put,List.setIfInBounds_toArray,List.set_cons_zero,List.set_cons_succ]))
     (refine uS 15 rfl hA0 hB0 ?_;refine uS 16 rfl hA0 hB0 ?_;refine uS 17 rfl hA0 hB0 ?_;(try simp only [Act.put,List.setIfInBounds_toArray,List.set_cons_zero,List.set_cons_succ]))
     (refine uS 18 rfl hA0 hB0 ?_;refine uS 19 rfl hA0 hB0 ?_;refine uS 20 rfl hA0 hB0 ?_;(try simp only [Act.put,List.setIfInBounds_toArray,List.set_cons_zero,List.set_cons_succ]))
     (refine uA 21 ?_ rfl hA0 hB0 (fun W hA=>?_) ?_;rotate_left;(· (go_simp;try with_reducible rfl));refine uA 22 ?_ rfl hA0 hB0 (fun W hA=>?_) ?_;rotate_left;(· (go_simp;try with_reducible rfl));(try simp only [Act.put,List.setIfInBounds_toArray,List.set_cons_zero,List.set_cons_succ]))
     (refine uS 23 rfl hA0 hB0 ?_;refine uS 24 rfl hA0 hB0 ?_;refine uS 25 rfl hA0 hB0 ?_;(try simp only [Act.put,List.setIfInBounds_toArray,List.set_cons_zero,List.set_cons_succ]))
     (refine uS 26 rfl hA0 hB0 ?_;refine uS 27 rfl hA0 hB0 ?_;(try simp only [Act.put,List.setIfInBounds_toArray,List.set_cons_zero,List.set_cons_succ]))
     (refine uS 28 rfl hA0 hB0 ?_;refine uS 29 rfl hA0 hB0 ?_;(try simp only [Act.put,List.setIfInBounds_toArray,List.set_cons_zero,List.set_cons_succ]))
     (refine uA 30 ?_ rfl hA0 hB0 (fun W hA=>?_) ?_;rotate_left;(· (go_simp;try with_reducible rfl));refine uA 31 ?_ rfl hA0 hB0 (fun W hA=>?_) ?_;rotate_left;(· (go_simp;try with_reducible rfl));(try simp only [Act.put,List.setIfInBounds_toArray,List.set_cons_zero,List.set_cons_succ]))
     (refine uS 32 rfl hA0 hB0 ?_;refine uS 33 rfl hA0 hB0 ?_;(try simp only [Act.put,List.setIfInBounds_toArray,List.set_cons_zero,List.set_cons_succ]))
     (refine uS 34 rfl hA0 hB0 ?_;refine uS 35 rfl hA0 hB0 ?_;(try simp only [Act.put,List.setIfInBounds_toArray,List.set_cons_zero,List.set_cons_succ]))
     (refine uS 36 rfl hA0 hB0 ?_;(try simp only [Act.put,List.setIfInBounds_toArray,List.set_cons_zero,List.set_cons_succ]))
     (refine uA 37 ?_ rfl hA0 hB0 (fun W hA=>?_) ?_;rotate_left;(· (go_simp;try with_reducible rfl));(try simp only [Act.put,List.setIfInBounds_toArray,List.set_cons_zero,List.set_cons_succ]))
     clear hee
     have HG9:=Lib.hid (HSET.out (false) (by rw [HRB.out,HEE.out];rfl))
     have hA9:=HA7.out (false)
     have HB9:=Lib.hid (HB7.out (false))
     (refine uA 38 ?_ rfl hA0 hB0 (fun W hA=>?_) ?_;rotate_left;(· (go_simp;try with_reducible rfl));refine uA 39 ?_ rfl hA0 hB0 (fun W hA=>?_) ?_;rotate_left;(· (go_simp;try with_reducible rfl));(try simp only [Act.put,List.setIfInBounds_toArray,List.set_cons_zero,List.set_cons_succ]))
     refine uOne (i:=40) rfl (by kernel_rfl) (fun K hK=>?_)
     go_simp
     (refine hK _ _ ⟨hA9,fun h=>absurd (h.symm.trans (by kernel_rfl:_ = true)) Bool.false_ne_true⟩ ?_;clear hK K;(try simp only [Act.put,List.setIfInBounds_toArray,List.set_cons_zero,List.set_cons_succ]))
     refine anyU_done (by kernel_rfl) ?_ _
     clear hA0 hB0 hA9 g2 g3 HSET HA7 HB7 HG6 HB6
     generalize w6.setCell ⟨w1.heap.size,x.f.toNat,none⟩ (.bool (false)) = w9 at HG9 HB9 ⊢
     go_wp2
     go_roundw
     case rel=>exact ⟨j + 1,_,_,_,rfl,rfl,rfl,by go_num,by omega,HG9,HE9,HB9⟩
     case measure=>simp [intOf];omega
    have hee':(x.e == fe) = true:=by simpa using hee
    have HEE:=Lib.hid hee'
    clear hee
    (refine uA 13 ?_ rfl hA0 hB0 (fun W hA=>?_) ?_;rotate_left;(· (go_simp;try with_reducible rfl));refine uA 14 ?_ rfl hA0 hB0 (fun W hA=>?_) ?_;rotate_left;(· (go_simp;try with_reducible rfl));(try simp only [Act.put,List.setIfInBounds_toArray,List.set_cons_zero,List.set_cons_succ]))
    (refine uA 15 ?_ rfl hA0 hB0 (fun W hA=>?_) ?_;rotate_left;(· (go_simp;try with_reducible rfl));(try simp only [Act.put,List.setIfInBounds_toArray,List.set_cons_zero,List.set_cons_succ]))
    (refine uA 16 ?_ rfl hA0 hB0 (fun W hA=>?_) ?_;rotate_left;(· (obtain ⟨_,_,_,⟨a5,a6⟩,_⟩:=hA;go_simp;try with_reducible rfl));(try simp only [Act.put,List.setIfInBounds_toArray,List.set_cons_zero,List.set_cons_succ]))
    (refine uA 17 ?_ rfl hA0 hB0 (fun W hA=>?_) ?_;rotate_left;(· (go_simp;try with_reducible rfl));(try simp only [Act.put,List.setIfInBounds_toArray,List.set_cons_zero,List.set_cons_succ]))
    (refine uA 18 ?_ rfl hA0 hB0 (fun W hA=>?_) ?_;rotate_left;(· (obtain ⟨⟨a0,a1,a2⟩,_⟩:=hA;go_simp;try with_reducible rfl));(try simp only [Act.put,List.setIfInBounds_toArray,List.set_cons_zero,List.set_cons_succ]))
    (refine uA 19 ?_ rfl hA0 hB0 (fun W hA=>?_) ?_;rotate_left;(· (go_simp;try with_reducible rfl));(try simp only [Act.put,List.setIfInBounds_toArray,List.set_cons_zero,List.set_cons_succ]))
    (refine uA 20 ?_ rfl hA0 hB0 (fun W hA=>?_) ?_;rotate_left;(· (obtain ⟨_,_,_,_,_,a7⟩:=hA;go_simp;try with_reducible rfl));(try simp only [Act.put,List.setIfInBounds_toArray,List.set_cons_zero,List.set_cons_succ]))
    (refine uA 21 ?_ rfl hA0 hB0 (fun W hA=>?_) ?_;rotate_left;(· (go_simp;try with_reducible rfl));refine uA 22 ?_ rfl hA0 hB0 (fun W hA=>?_) ?_;rotate_left;(· (go_simp;try with_reducible rfl));(try simp only [Act.put,List.setIfInBounds_toArray,List.set_cons_zero,List.set_cons_succ]))
    cases q3 with
    | false =>
     (refine uS 23 rfl hA0 hB0 ?_;refine uS 24 rfl hA0 hB0 ?_;refine uS 25 rfl hA0 hB0 ?_;(try simp only [Act.put,List.setIfInBounds_toArray,List.set_cons_zero,List.set_cons_succ]))
     (refine uS 26 rfl hA0 hB0 ?_;refine uS 27 rfl hA0 hB0 ?_;(try simp only [Act.put,List.setIfInBounds_toArray,List.set_cons_zero,List.set_cons_succ]))
     (refine uS 28 rfl hA0 hB0 ?_;refine uS 29 rfl hA0 hB0 ?_;(try simp only [Act.put,List.setIfInBounds_toArray,List.set_cons_zero,List.set_cons_succ]))
     (refine uA 30 ?_ rfl hA0 hB0 (fun W hA=>?_) ?_;rotate_left;(· (go_simp;try with_reducible rfl));refine uA 31 ?_ rfl hA0 hB0 (fun W hA=>?_) ?_;rotate_left;(· (go_simp;try with_reducible rfl));(try simp only [Act.put,List.setIfInBounds_toArray,List.set_cons_zero,List.set_cons_succ]))
     (refine uS 32 rfl hA0 hB0 ?_;refine uS 33 rfl hA0 hB0 ?_;(try simp only [Act.put,List.setIfInBounds_toArray,List.set_cons_zero,List.set_cons_succ]))
     (refine uS 34 rfl hA0 hB0 ?_;refine uS 35 rfl hA0 hB0 ?_;(try simp only [Act.put,List.setIfInBounds_toArray,List.set_cons_zero,List.set_cons_succ]))
     (refine uS 36 rfl hA0 hB0 ?_;(try simp only [Act.put,List.setIfInBounds_toArray,List.set_cons_zero,List.set_cons_succ]))
     (refine uA 37 ?_ rfl hA0 hB0 (fun W hA=>?_) ?_;rotate_left;(· (go_simp;try with_reducible rfl));(try simp only [Act.put,List.setIfInBounds_toArray,List.set_cons_zero,List.set_cons_succ]))
     have HG9:=Lib.hid (HSET.out (false) (by rw [HRB.out];simp))
     have hA9:=HA7.out (false)
     have HB9:=Lib.hid (HB7.out (false))
     (refine uA 38 ?_ rfl hA0 hB0 (fun W hA=>?_) ?_;rotate_left;(· (go_simp;try with_reducible rfl));refine uA 39 ?_ rfl hA0 hB0 (fun W hA=>?_) ?_;rotate_left;(· (go_simp;try with_reducible rfl));(try simp only [Act.put,List.setIfInBounds_toArray,List.set_cons_zero,List.set_cons_succ]))
     refine uOne (i:=40) rfl (by kernel_rfl) (fun K hK=>?_)
     go_simp
     (refine hK _ _ ⟨hA9,fun h=>absurd (h.symm.trans (by kernel_rfl:_ = true)) Bool.false_ne_true⟩ ?_;clear hK K;(try simp only [Act.put,List.setIfInBounds_toArray,List.set_cons_zero,List.set_cons_succ]))
     refine anyU_done (by kernel_rfl) ?_ _
     clear hA0 hB0 hA9 g2 g3 HSET HA7 HB7 HG6 HB6
     generalize w6.setCell ⟨w1.heap.size,x.f.toNat,none⟩ (.bool (false)) = w9 at HG9 HB9 ⊢
     go_wp2
     go_roundw
     case rel=>exact ⟨j + 1,_,_,_,rfl,rfl,rfl,by go_num,by omega,HG9,HE9,HB9⟩
     case measure=>simp [intOf];omega
    | true =>
    (refine uA 23 ?_ rfl hA0 hB0 (fun W hA=>?_) ?_;rotate_left;(· (go_simp;try with_reducible rfl));(try simp only [Act.put,List.setIfInBounds_toArray,List.set_cons_zero,List.set_cons_succ]))
    (refine uA 24 ?_ rfl hA0 hB0 (fun W hA=>?_) ?_;rotate_left;(· (obtain ⟨_,_,_,⟨a5,a6⟩,_⟩:=hA;go_simp;try with_reducible rfl));(try simp only [Act.put,List.setIfInBounds_toArray,List.set_cons_zero,List.set_cons_succ]))
    (refine uA 25 ?_ rfl hA0 hB0 (fun W hA=>?_) ?_;rotate_left;(· (go_simp;try with_reducible rfl));(try simp only [Act.put,List.setIfInBounds_toArray,List.set_cons_zero,List.set_cons_succ]))
    (refine uA 26 ?_ rfl hA0 hB0 (fun W hA=>?_) ?_;rotate_left;(· (obtain ⟨⟨a0,a1,a2⟩,_⟩:=hA;go_simp;try with_reducible rfl));(try simp only [Act.put,List.setIfInBounds_toArray,List.set_cons_zero,List.set_cons_succ]))
    (refine uA 27 ?_ rfl hA0 hB0 (fun W hA=>?_) ?_;rotate_left;(· (go_simp;try with_reducible rfl));(try simp only [Act.put,List.setIfInBounds_toArray,List.set_cons_zero,List.set_cons_succ]))
    (refine uA 28 ?_ rfl hA0 hB0 (fun W hA=>?_) ?_;rotate_left;(· (obtain ⟨_,_,_,_,a7,_⟩:=hA;go_simp;try with_reducible rfl));(try simp only [Act.put,List.setIfInBounds_toArray,List.set_cons_zero,List.set_cons_succ]))
    (refine uA 29 ?_ rfl hA0 hB0 (fun W hA=>?_) ?_;rotate_left;(· (go_simp;try with_reducible rfl));(try simp only [Act.put,List.setIfInBounds_toArray,List.set_cons_zero,List.set_cons_succ]))
    (refine uA 30 ?_ rfl hA0 hB0 (fun W hA=>?_) ?_;rotate_left;(· (go_simp;try with_reducible rfl));refine uA 31 ?_ rfl hA0 hB0 (fun W hA=>?_) ?_;rotate_left;(· (go_simp;try with_reducible rfl));(try simp only [Act.put,List.setIfInBounds_toArray,List.set_cons_zero,List.set_cons_succ]))
    cases q2 with
    | true =>
     (refine uS 32 rfl hA0 hB0 ?_;refine uS 33 rfl hA0 hB0 ?_;(try simp only [Act.put,List.setIfInBounds_toArray,List.set_cons_zero,List.set_cons_succ]))
     (refine uS 34 rfl hA0 hB0 ?_;refine uS 35 rfl hA0 hB0 ?_;(try simp only [Act.put,List.setIfInBounds_toArray,List.set_cons_zero,List.set_cons_succ]))
     (refine uS 36 rfl hA0 hB0 ?_;(try simp only [Act.put,List.setIfInBounds_toArray,List.set_cons_zero,List.set_cons_succ]))
     (refine uA 37 ?_ rfl hA0 hB0 (fun W hA=>?_) ?_;rotate_left;(· (go_simp;try with_reducible rfl));(try simp only [Act.put,List.setIfInBounds_toArray,List.set_cons_zero,List.set_cons_succ]))
     have HG9:=Lib.hid (HSET.out (false) (by rw [HRB.out];simp))
     have hA9:=HA7.out (false)
     have HB9:=Lib.hid (HB7.out (false))
     (refine uA 38 ?_ rfl hA0 hB0 (fun W hA=>?_) ?_;rotate_left;(· (go_simp;try with_reducible rfl));refine uA 39 ?_ rfl hA0 hB0 (fun W hA=>?_) ?_;rotate_left;(· (go_simp;try with_reducible rfl));(try simp only [Act.put,List.setIfInBounds_toArray,List.set_cons_zero,List.set_cons_succ]))
     refine uOne (i:=40) rfl (by kernel_rfl) (fun K hK=>?_)
     go_simp
     (refine hK _ _ ⟨hA9,fun h=>absurd (h.symm.trans (by kernel_rfl:_ = true)) Bool.false_ne_true⟩ ?_;clear hK K;(try simp only [Act.put,List.setIfInBounds_toArray,List.set_cons_zero,List.set_cons_succ]))
     refine anyU_done (by kernel_rfl) ?_ _
     clear hA0 hB0 hA9 g2 g3 HSET HA7 HB7 HG6 HB6
     generalize w6.setCell ⟨w1.heap.size,x.f.toNat,none⟩ (.bool (false)) = w9 at HG9 HB9 ⊢
     go_wp2
     go_roundw
     case rel=>exact ⟨j + 1,_,_,_,rfl,rfl,rfl,by go_num,by omega,HG9,HE9,HB9⟩
     case measure=>simp [intOf];omega
    | false =>
    (refine uA 32 ?_ rfl hA0 hB0 (fun W hA=>?_) ?_;rotate_left;(· (go_simp;try with_reducible rfl));(try simp only [Act.put,List.setIfInBounds_toArray,List.set_cons_zero,List.set_cons_succ]))
    (refine uA 33 ?_ rfl hA0 hB0 (fun W hA=>?_) ?_;rotate_left;(· (obtain ⟨_,_,a8,_⟩:=hA;go_simp;try with_reducible rfl));(try simp only [Act.put,List.setIfInBounds_toArray,List.set_cons_zero,List.set_cons_succ]))
    (refine uA 34 ?_ rfl hA0 hB0 (fun W hA=>?_) ?_;rotate_left;(· (go_simp;try with_reducible rfl));(try simp only [Act.put,List.setIfInBounds_toArray,List.set_cons_zero,List.set_cons_succ]))
    (refine uA 35 ?_ rfl hA0 hB0 (fun W hA=>?_) ?_;rotate_left;(· (obtain ⟨_,⟨a3,a4⟩,_⟩:=hA;go_simp;try with_reducible rfl));(try simp only [Act.put,List.setIfInBounds_toArray,List.set_cons_zero,List.set_cons_succ]))
    (refine uA 36 ?_ rfl hA0 hB0 (fun W hA=>?_) ?_;rotate_left;(· (go_simp;try with_reducible rfl));refine uA 37 ?_ rfl hA0 hB0 (fun W hA=>?_) ?_;rotate_left;(· (go_simp;try with_reducible rfl));(try simp only [Act.put,List.setIfInBounds_toArray,List.set_cons_zero,List.set_cons_succ]))
    have HG9:=Lib.hid (HSET.out (decide (tk < fk)) (by rw [HRB.out,HEE.out];simp))
    have hA9:=HA7.out (decide (tk < fk))
    have HB9:=Lib.hid (HB7.out (decide (tk < fk)))
    (refine uA 38 ?_ rfl hA0 hB0 (fun W hA=>?_) ?_;rotate_left;(· (go_simp;try with_reducible rfl));refine uA 39 ?_ rfl hA0 hB0 (fun W hA=>?_) ?_;rotate_left;(· (go_simp;try with_reducible rfl));(try simp only [Act.put,List.setIfInBounds_toArray,List.set_cons_zero,List.set_cons_succ]))
    refine uOne (i:=40) rfl (by kernel_rfl) (fun K hK=>?_)
    go_simp
    (refine hK _ _ ⟨hA9,fun h=>absurd (h.symm.trans (by kernel_rfl:_ = true)) Bool.false_ne_true⟩ ?_;clear hK K;(try simp only [Act.put,List.setIfInBounds_toArray,List.set_cons_zero,List.set_cons_succ]))
    refine anyU_done (by kernel_rfl) ?_ _
    clear hA0 hB0 hA9 g2 g3 HSET HA7 HB7 HG6 HB6
    generalize w6.setCell ⟨w1.heap.size,x.f.toNat,none⟩ (.bool (decide (tk < fk))) = w9 at HG9 HB9 ⊢
    go_wp2
    go_roundw
    case rel=>exact ⟨j + 1,_,_,_,rfl,rfl,rfl,by go_num,by omega,HG9,HE9,HB9⟩
    case measure=>simp [intOf];omega
   case neg =>
   have hr2':(fr == 2) = false:=by simpa using hr2
   have HG9:=Lib.hid (show Blk wc w1.heap.size 4 (bvl (reS n U K R (a.ed.take (j + 1)))) by rw [HNX.out (.inr hr2)];exact HKG.out)
   have HNR:=Lib.hid (fun (h:¬ ReO K R x)=>notR (p:=⟨a,U,F⟩) (List.mem_of_getElem? HX.out) h)
   by_cases hr3:fr = 3
   case neg =>
    have hr3':(fr == 3) = false:=by simpa using hr3
    have HE9:=Lib.hid (HE.out.snoc HX.out (HRO.out.2 (fun _ h=>absurd h hr3)))
    clear hr2 hr3
    go_wp2
    go_roundw
    case rel=>exact ⟨j + 1,_,_,_,rfl,rfl,rfl,by go_num,by omega,HG9,HE9,HBX⟩
    case measure=>simp [intOf];omega
   subst hr3
   clear hr2 hr2'
   cases q2 with
   | true =>
    have HN9:=Lib.hid (HNR.out (fun h=>by have:=(HRO.out.1 h rfl rfl).1;cases this))
    go_wp2
    go_ret
    exact ⟨false,rfl,⟨(fun h=>by cases h),fun h=>absurd h HN9.out⟩,HB.out _ HBX.out⟩
   | false =>
   by_cases hk1:fk < tk
   ·have HN9:=Lib.hid (HNR.out (fun h=>by have:=(HRO.out.1 h rfl rfl).2.1;omega))
    go_wp2
    go_ret
    exact ⟨false,rfl,⟨(fun h=>by cases h),fun h=>absurd h HN9.out⟩,HB.out _ HBX.out⟩
   by_cases hk2:tk = fk
   case neg =>
    have hk2':(tk == fk) = false:=by simpa using hk2
    have HE9:=Lib.hid (HE.out.snoc HX.out (HRO.out.2 (fun _ _=>⟨rfl,by omega,fun h=>absurd h hk2⟩)))
    go_wp2
    go_roundw
    case rel=>exact ⟨j + 1,_,_,_,rfl,rfl,rfl,by go_num,by omega,HG9,HE9,HBX⟩
    case measure=>simp [intOf];omega
   have hk2':(tk == fk) = true:=by simpa using hk2
   by_cases ht3:tr = 3
   ·have ht3':(tr != 3) = false:=by simpa using ht3
    have HE9:=Lib.hid (HE.out.snoc HX.out (HRO.out.2 (fun _ _=>⟨rfl,by omega,fun _=>ht3⟩)))
    clear ht3
    go_wp2
    go_roundw
    case rel=>exact ⟨j + 1,_,_,_,rfl,rfl,rfl,by go_num,by omega,HG9,HE9,HBX⟩
    case measure=>simp [intOf];omega
   ·have ht3':(tr != 3) = true:=by simpa using ht3
    have HN9:=Lib.hid (HNR.out (fun h=>ht3 ((HRO.out.1 h rfl rfl).2.2 hk2)))
    go_wp2
    go_ret
    exact ⟨false,rfl,⟨(fun h=>by cases h),fun h=>absurd h HN9.out⟩,HB.out _ HBX.out⟩
end Go.Proofs.Ytdnmpndnpfklcaa
