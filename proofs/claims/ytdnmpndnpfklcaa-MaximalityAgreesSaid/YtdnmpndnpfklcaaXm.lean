/- Walk: maximality.Verify. -/
import Derived.Test.YtdnmpndnpfklcaaXl
import Derived.Test.YtdnmpndnpfklcaaXh
import Derived.Deep.Cut
import Derived.Deep.CutRange
namespace Go.Proofs.Ytdnmpndnpfklcaa
open Go.RowKit Go Go.Maps
def RetVer (p:Mx) (c:Ce) (w:World) (e:Ending) (w':World):Prop:=∃ v,e = .returned (.int .i64 v)∧VerIs p c v∧Below w.heap.size w w'
def mkF (z:PB) (c:CV) (n kb db rb mb fb cb:Nat):FV:=⟨z.x,n,kb,db,rb,mb,fb,cb,inF n c.k.l,List.replicate n 0,List.replicate n ⟨0,0,0,0⟩,z.u.l,z.f.l⟩
def mkVF (z:PB) (c:CV) (n kb db rb mb fb cb:Nat) (D:List Int) (R:List Rm):FV:=⟨z.x,n,kb,db,rb,mb,fb,cb,inF n c.k.l,D,R,z.u.l,z.f.l⟩
theorem fvc_one (F:FV):∀ v ∈ fvc F,v.oneCell' = true:=by
 intro v hv
 unfold fvc at hv
 simp only [List.mem_cons,List.not_mem_nil,or_false] at hv
 rcases hv with rfl | rfl | rfl | rfl | rfl | rfl | rfl | rfl | rfl | rfl <;> rfl
theorem fv_one {z:PB} {c:CV} {n kb db rb mb fb cb:Nat} (hn:z.x.a.st = (n:Int)):∀ v ∈ [Value.slice z.x.A z.x.na z.x.ca,.int .i64 (n:Int),.slice z.x.M z.x.nm z.x.cm,.slice z.x.E z.x.ne z.x.ce,.slice (some ⟨kb,0,none⟩) n n,.slice (some ⟨db,0,none⟩) n n,.slice (some ⟨rb,0,none⟩) n n,.slice (some ⟨mb,0,none⟩) n n,.slice (some ⟨fb,0,none⟩) n n,.slice (some ⟨cb,0,none⟩) 32 32],v.oneCell' = true:=by
 have h:=fvc_one (mkF z c n kb db rb mb fb cb)
 unfold fvc mkF at h
 dsimp only at h
 rw [hn] at h
 exact h
theorem fv_size:(Try.prog.info? 98).map (·.size) = some 10:=by kernel_rfl
structure VtM (w5:World) (F:FV) (bx:Nat) (W:World):Prop where
 bel:Below w5.heap.size w5 W
 k:Blk W F.kb 4 (bvl F.K)
 m:Blk W F.mb 4 (bvl (inF F.n F.x.a.ma))
 f:Blk W F.fb 4 (bvl (inF F.n F.F))
 h:Blk W F.cb 4 (bvl (inF 32 F.U))
 d:Blk W F.db 3 (iv F.D)
 r:Blk W F.rb 63 (F.R.flatMap rmc)
 b:Blk W bx 98 (fvc F)
 dl:w5.heap.size ≤ F.db
 rl:w5.heap.size ≤ F.rb
theorem VtG.fin {w5 W:World} {F:FV} {bx:Nat} (h:VtG w5 F 4 true true true true bx W):VtM w5 F bx W:=by
 refine ⟨h.bel,h.k (by omega),h.m (by omega),h.f (by omega),h.h (by omega),(h.d rfl).1,(h.r rfl).1,?_,(h.d rfl).2,(h.r rfl).2⟩
 have:=(h.b rfl).1
 rwa [if_pos rfl] at this
theorem VtM.keep {w5 W W':World} {F:FV} {bx:Nat} (h:VtM w5 F bx W) (hb:Below W.heap.size W W'):VtM w5 F bx W' :=
 ⟨h.bel.trans (hb.mono h.bel.size),h.k.below hb h.k.lt,h.m.below hb h.m.lt,h.f.below hb h.f.lt,h.h.below hb h.h.lt,h.d.below hb h.d.lt,h.r.below hb h.r.lt,h.b.below hb h.b.lt,h.dl,h.rl⟩
theorem VtM.setD {w5 W:World} {F:FV} {bx:Nat} (h:VtM w5 F bx W) {i:Nat} (hi:i < F.D.length) (v:Int):VtM w5 { F with D:=F.D.set i v } bx (W.setCell ⟨F.db,i,none⟩ (.int .i64 v)):=by
 have hg:=grown_setCell W F.db i (.int .i64 v)
 have kp:∀ {b:Nat} {t:TypeId} {vs:List Value},Blk W b t vs → t ≠ 3 → Blk (W.setCell ⟨F.db,i,none⟩ (.int .i64 v)) b t vs:=fun hk ht=>hk.kept hg (fun e=>by injection e with e;exact blk_apart hk h.d ht e)
 refine ⟨h.bel.grown hg h.bel.size (fun j e=>by injection e with e;subst e;exact h.dl),kp h.k (by decide),kp h.m (by decide),kp h.f (by decide),kp h.h (by decide),?_,kp h.r (by decide),kp h.b (by decide),h.dl,h.rl⟩
 have h9:=h.d.set (j:=i) (by rw [iv_length];exact hi) (.int .i64 v)
 rw [iv_set] at h9
 exact h9
theorem VtM.setR {w5 W:World} {F:FV} {bx:Nat} (h:VtM w5 F bx W) {i:Nat} (hi:i < F.R.length) (r:Rm):VtM w5 { F with R:=F.R.set i r } bx (W.setCells F.rb (i * 4) (rmc r))∧W.there F.rb (i * 4) 4:=by
 have hl:(F.R.flatMap rmc).length = F.R.length * 4:=by
  clear h hi
  induction F.R with
  | nil=>rfl
  | cons a l ih=>rw [List.flatMap_cons,List.length_append,ih,List.length_cons];show 4 + _ = _;omega
 obtain ⟨k1,hg⟩:=h.r.sets (rmc r) (o:=i * 4) (by rw [hl];show i * 4 + 4 ≤ _;omega)
 have kp:∀ {b:Nat} {t:TypeId} {vs:List Value},Blk W b t vs → t ≠ 63 → Blk (W.setCells F.rb (i * 4) (rmc r)) b t vs:=fun hk ht=>hk.kept hg (fun e=>by injection e with e;exact blk_apart hk h.r ht e)
 refine ⟨⟨h.bel.grown hg h.bel.size (fun j e=>by injection e with e;subst e;exact h.rl),kp h.k (by decide),kp h.m (by decide),kp h.f (by decide),kp h.h (by decide),kp h.d (by decide),?_,kp h.b (by decide),h.dl,h.rl⟩,h.r.there (o:=i * 4) (n:=4) (by rw [hl];omega)⟩
 have e:∀ (l:List Rm) (i:Nat),i < l.length → setL (l.flatMap rmc) (i * 4) (rmc r) = (l.set i r).flatMap rmc:=by
  intro l
  induction l with
  | nil=>intro i hi;simp at hi
  | cons y m ih =>
   intro i hi
   cases i with
   | zero=>rw [List.set_cons_zero,List.flatMap_cons,List.flatMap_cons];rfl
   | succ i =>
    rw [List.set_cons_succ,List.flatMap_cons,List.flatMap_cons,show (i + 1) * 4 = (rmc y).length + i * 4 by rw [Nat.succ_mul,show (rmc y).length = 4 from rfl];omega,setL_app,ih i (by simpa using hi)]
 rw [e F.R i hi] at k1
 exact k1
theorem VtM.ok {w5 W:World} {F:FV} {bx:Nat} (h:VtM w5 F bx W) (hx:F.x.ok W W.heap.size) (hst:F.x.a.st = (F.n:Int)) (hK:F.K.length = F.n) (hD:F.D.length = F.n) (hR:F.R.length = F.n):F.ok W :=
 ⟨hx,hst,h.k,hK,h.d,hD,h.r,hR,h.m,h.f,h.h⟩
set_option maxRecDepth 100000 in
set_option maxHeartbeats 6400000 in
theorem max_Verify (z:PB) (c:CV) (w:World) (h:z.ok w w.heap.size) (hm:z.m.ok) (hc:c.ok w w.heap.size) (hrn:c.rn ≤ 1000000) :
  Calls Try.prog 15 #[.agg (pbc z).toArray,.agg (cvc c).toArray] w (RetVer z.m c.ce w):=by
 have HM:=Lib.hid hm
 have HC:=Lib.hid (fun (W:World) (h9:z.ok W W.heap.size)=>max_Check z W h9 hm)
 have HH:=Lib.hid (fun (W:World) (h9:z.ok W W.heap.size)=>max_hard z W h9 hm)
 have HFM:=Lib.hid (fun (W:World) (h9:c.ok W W.heap.size)=>max_form z c W h9 hrn)
 have hb1:=box_below w (.cells (pbc z).toArray 34)
 have kx:=Blk.new w 34 (pbc z)
 obtain ⟨w1,hw1⟩:∃ w1,w1 = w.alloc (.cells (pbc z).toArray 34):=⟨_,rfl⟩
 rw [← hw1] at hb1 kx
 have hb2:=box_below w1 (.cells (cvc c).toArray 38)
 have kx2:=kx.below hb2 kx.lt
 have kc:=Blk.new w1 38 (cvc c)
 have hs1:w1.heap.size = w.heap.size + 1:=by rw [hw1];simp
 rw [hs1] at kc
 obtain ⟨w2,hw2⟩:∃ w2,w2 = w1.alloc (.cells (cvc c).toArray 38):=⟨_,rfl⟩
 rw [← hw2] at hb2 kx2 kc
 have hb12:=hb1.trans (hb2.mono hb1.size)
 have HZ:=Lib.hid (fun (W:World) (hb:Below w2.heap.size w2 W)=>(h.below (hb12.trans (hb.mono hb12.size))).more (hb12.trans (hb.mono hb12.size)).size)
 have HZC:=Lib.hid (fun (W:World) (hb:Below w2.heap.size w2 W)=>(hc.below (hb12.trans (hb.mono hb12.size))).more (hb12.trans (hb.mono hb12.size)).size)
 have HK:=Lib.hid (fun (W:World) (hb:Below w2.heap.size w2 W)=>kx2.below hb kx2.lt)
 have HKC:=Lib.hid (fun (W:World) (hb:Below w2.heap.size w2 W)=>kc.below hb kc.lt)
 have HB:=Lib.hid (fun (W:World) (hb:Below w2.heap.size w2 W)=>hb12.trans (hb.mono hb12.size))
 have HW2:=Lib.hid (show (w.alloc (.cells (pbc z).toArray 34)).alloc (.cells (cvc c).toArray 38) = w2 by rw [hw2,hw1])
 have hst:0 ≤ z.x.a.st:=hm.wf.st0
 have hst1:z.x.a.st ≤ 4096:=hm.wf.st1
 obtain ⟨n,hn⟩:∃ n:Nat,z.x.a.st = (n:Int):=⟨z.x.a.st.toNat,by omega⟩
 have HN:=Lib.hid hn
 have hn4:n ≤ 4096:=by omega
 obtain ⟨RES,hRES⟩:∃ r,frmE z.x.a.st c.ce = r:=⟨_,rfl⟩
 rw [hRES] at HFM
 have HRES:=Lib.hid hRES
 have HKL:=Lib.hid hc.k.la
 have HDL:=Lib.hid hc.d.la
 have HRL:=Lib.hid hc.rl
 clear hst hst1 hb1 hb2 hb12 kx kx2 kc hw1 hw2 hs1 h hm hc hRES
 unfold pbc at HC HH HFM HK HW2 ⊢
 unfold cvc at HFM HKC HW2 ⊢
 rw [hn] at HC HH HFM HK HW2 ⊢
 obtain ⟨⟨a0,a1,a2,a3,a4⟩,a5⟩:=Blk.c6 (HK.out w2 (Below.refl _ _))
 clear hn
 go_enter Try.func15,Try.ntmps15
 go_upto_region 1 with fail
 rw [HW2.out]
 go_wp2_with fail
 refine (HC.out w2 (HZ.out w2 (Below.refl _ _))).mono ?_
 rintro _ w3 ⟨rfl,hb3⟩
 have HB3:=Lib.hid hb3
 clear a0 a1 a2 a3 a4 a5 HC hb3
 obtain ⟨⟨a0,a1,a2,a3,a4⟩,a5⟩:=Blk.c6 (HK.out w3 HB3.out)
 obtain ⟨c0,c1,c2⟩:=Blk.c3 (HKC.out w3 HB3.out)
 go_wp2_with fail
 refine (HFM.out w3 (HZC.out w3 HB3.out)).mono ?_
 rintro _ w4 ⟨rfl,hb4⟩
 have HB4:=Lib.hid (HB3.out.trans (hb4.mono HB3.out.size))
 clear a0 a1 a2 a3 a4 a5 c0 c1 c2 HFM hb4 HB3
 by_cases he:RES = 0
 case neg =>
  have he':(RES != 0) = true:=by simpa using he
  have HE:=Lib.hid he
  clear he
  go_wp2
  go_ret
  refine ⟨RES,rfl,.inl ⟨?_,?_⟩,HB.out _ HB4.out⟩
  ·show frmE z.x.a.st c.ce ≠ 0
   rw [HRES.out];exact HE.out
  ·exact HRES.out.symm
 subst he
 have HFO:=Lib.hid (frmE_ok HRES.out)
 have hkn:c.k.n ≤ 4096:=by
  have h1:=inc_len (n:=n) HFO.out.kinc (by rw [← show z.x.a.st = (n:Int) by exact HN.out];exact HFO.out.krng)
  have h2:c.ce.kp.length = c.k.n:=HKL.out
  omega
 have hrn4:c.rn ≤ 4096:=by
  have h1:=incR_len (k:=n) HFO.out.rinc (by rw [← show z.x.a.st = (n:Int) by exact HN.out];exact HFO.out.rrng)
  have h2:c.ce.rm.length = c.rn:=HRL.out
  omega
 obtain ⟨⟨a0,a1,a2,a3,a4⟩,a5⟩:=Blk.c6 (HK.out w4 HB4.out)
 go_upto_region 8 with fail
 clear a0 a1 a2 a3 a4 a5
 have hba:=box_below w4 (.cells #[.slice z.x.A z.x.na z.x.ca,.int .i64 (n:Int),.slice z.x.M z.x.nm z.x.cm,.slice z.x.E z.x.ne z.x.ce] 32)
 have ka:=Blk.new w4 32 [.slice z.x.A z.x.na z.x.ca,.int .i64 (n:Int),.slice z.x.M z.x.nm z.x.cm,.slice z.x.E z.x.ne z.x.ce]
 have HB6:=Lib.hid (HB4.out.trans (hba.mono HB4.out.size))
 obtain ⟨ba,hbae⟩:∃ b,w4.heap.size = b:=⟨_,rfl⟩
 rw [hbae] at ka ⊢
 have ka':Blk (w4.alloc (.cells #[.slice z.x.A z.x.na z.x.ca,.int .i64 (n:Int),.slice z.x.M z.x.nm z.x.cm,.slice z.x.E z.x.ne z.x.ce] 32)) ba 32 [.slice z.x.A z.x.na z.x.ca,.int .i64 (n:Int),.slice z.x.M z.x.nm z.x.cm,.slice z.x.E z.x.ne z.x.ce]:=ka
 clear hba ka hbae
 generalize w4.alloc (.cells #[.slice z.x.A z.x.na z.x.ca,.int .i64 (n:Int),.slice z.x.M z.x.nm z.x.cm,.slice z.x.E z.x.ne z.x.ce] 32) = w5 at ka' HB6 ⊢
 have HKA:=Lib.hid (fun (W:World) (hb:Below w5.heap.size w5 W)=>ka'.below hb ka'.lt)
 have HK5:=Lib.hid (fun (W:World) (hb:Below w5.heap.size w5 W)=>HK.out W (HB6.out.trans (hb.mono HB6.out.size)))
 have HZ5:=Lib.hid (fun (W:World) (hb:Below w5.heap.size w5 W)=>HZ.out W (HB6.out.trans (hb.mono HB6.out.size)))
 have HC5:=Lib.hid (fun (W:World) (hb:Below w5.heap.size w5 W)=>HZC.out W (HB6.out.trans (hb.mono HB6.out.size)))
 have HKC5:=Lib.hid (fun (W:World) (hb:Below w5.heap.size w5 W)=>HKC.out W (HB6.out.trans (hb.mono HB6.out.size)))
 have HB5:=Lib.hid (fun (W:World) (hb:Below w5.heap.size w5 W)=>HB.out W (HB6.out.trans (hb.mono HB6.out.size)))
 clear ka' HK HZ HKC HZC HB HB4 HB6
 have HKR:=Lib.hid (show ∀ s ∈ c.k.l,0 ≤ s∧s < (n:Int) from fun s hs=>by have:=HFO.out.krng s hs;have:=HN.out;omega)
 have HFR:=Lib.hid (show ∀ s ∈ z.f.l,0 ≤ s∧s < (n:Int) from fun s hs=>by have:=HM.out.frng s hs;have:z.m.a.st = (n:Int):=HN.out;omega)
 have HMR:=Lib.hid (show ∀ s ∈ z.x.a.ma,0 ≤ s∧s < (n:Int) from fun s hs=>by have:=HM.out.wf.mrng s hs;have:z.m.a.st = (n:Int):=HN.out;have e:z.m.a = z.x.a:=rfl;rw [e] at *;omega)
 go_cut [8] from 9 (fun s8 wx=>∃ (kb db rb mb fb cb bx:Nat),s8 = .pointer (some ⟨bx,0,none⟩)∧Hid (VtG w5 (mkF z c n kb db rb mb fb cb) 4 true true true true bx wx))
 case first =>
  refine wp_region_U (fun W=>C4 W ba (.slice z.x.A z.x.na z.x.ca) (.int .i64 (n:Int)) (.slice z.x.M z.x.nm z.x.cm) (.slice z.x.E z.x.ne z.x.ce)∧(C5 W w.heap.size (.slice z.x.A z.x.na z.x.ca) (.int .i64 (n:Int)) (.slice z.x.M z.x.nm z.x.cm) (.slice z.x.E z.x.ne z.x.ce) (.slice z.u.A z.u.n z.u.c)∧W.cell? ⟨w.heap.size,5,none⟩ = some (.slice z.f.A z.f.n z.f.c))∧W.cell? ⟨w.heap.size + 1,0,none⟩ = some (.slice c.k.A c.k.n c.k.c)) (fun _=>True) 26 (by kernel_rfl) ?_
  change anyU _ _ _ _ _ _ _ 27 _ _ _
  have hB0:True:=trivial
  have HBD:=Lib.hid (below_dr w5)
  have hmI:∀ W:World,(Instr.makeSlice 29 (.int .i64 (n:Int)) (.int .i64 (n:Int))).run Try.prog W = .ok (.slice (some ⟨W.heap.size,0,none⟩) n n) (W.alloc (.cells (madeCells #[.int .i64 0] n) 3)):=fun W=>run_make_row' 29 3 (.int .i64 0) 8 Try.underlying29 int_info rfl .i64 .i64 n (by omega) (by omega) W
  have hmR:=run_make_rms n hn4
  generalize w5.drew = wd at HBD ⊢
  have hA0:=And.intro (Blk.c4 (HKA.out wd HBD.out)) (And.intro (Blk.c6 (HK5.out wd HBD.out)) ((HKC5.out wd HBD.out).cell (j:=0) rfl))
  (refine uA 0 ?_ rfl hA0 hB0 (fun W hA=>?_) ?_;rotate_left;(· (obtain ⟨⟨a0,a1,a2,a3⟩,_⟩:=hA;go_simp;try with_reducible rfl));(try simp only [Act.put,List.setIfInBounds_toArray,List.set_cons_zero,List.set_cons_succ]))
  (refine uA 1 ?_ rfl hA0 hB0 (fun W hA=>?_) ?_;rotate_left;(· (go_simp;try with_reducible rfl));(try simp only [Act.put,List.setIfInBounds_toArray,List.set_cons_zero,List.set_cons_succ]))
  (refine uA 2 ?_ rfl hA0 hB0 (fun W hA=>?_) ?_;rotate_left;(· (obtain ⟨⟨a0,a1,a2,a3⟩,_⟩:=hA;go_simp;try with_reducible rfl));(try simp only [Act.put,List.setIfInBounds_toArray,List.set_cons_zero,List.set_cons_succ]))
  (refine uA 3 ?_ rfl hA0 hB0 (fun W hA=>?_) ?_;rotate_left;(· (go_simp;try with_reducible rfl));(try simp only [Act.put,List.setIfInBounds_toArray,List.set_cons_zero,List.set_cons_succ]))
  (refine uA 4 ?_ rfl hA0 hB0 (fun W hA=>?_) ?_;rotate_left;(· (obtain ⟨_,_,a0⟩:=hA;go_simp;try with_reducible rfl));(try simp only [Act.put,List.setIfInBounds_toArray,List.set_cons_zero,List.set_cons_succ]))
  (refine uA 6 ?_ rfl hA0 hB0 (fun W hA=>?_) ?_;rotate_left;(· (go_simp;try with_reducible rfl));(try simp only [Act.put,List.setIfInBounds_toArray,List.set_cons_zero,List.set_cons_succ]))
  (refine uA 7 ?_ rfl hA0 hB0 (fun W hA=>?_) ?_;rotate_left;(· (obtain ⟨⟨a0,a1,a2,a3⟩,_⟩:=hA;go_simp;try with_reducible rfl));(try simp only [Act.put,List.setIfInBounds_toArray,List.set_cons_zero,List.set_cons_succ]))
  (refine uA 9 ?_ rfl hA0 hB0 (fun W hA=>?_) ?_;rotate_left;(· (go_simp;try with_reducible rfl));(try simp only [Act.put,List.setIfInBounds_toArray,List.set_cons_zero,List.set_cons_succ]))
  (refine uA 10 ?_ rfl hA0 hB0 (fun W hA=>?_) ?_;rotate_left;(· (obtain ⟨⟨a0,a1,a2,a3⟩,_⟩:=hA;go_simp;try with_reducible rfl));(try simp only [Act.put,List.setIfInBounds_toArray,List.set_cons_zero,List.set_cons_succ]))
  (refine uA 12 ?_ rfl hA0 hB0 (fun W hA=>?_) ?_;rotate_left;(· (go_simp;try with_reducible rfl));(try simp only [Act.put,List.setIfInBounds_toArray,List.set_cons_zero,List.set_cons_succ]))
  (refine uA 13 ?_ rfl hA0 hB0 (fun W hA=>?_) ?_;rotate_left;(· (obtain ⟨⟨a0,a1,a2,a3⟩,_⟩:=hA;go_simp;try with_reducible rfl));(try simp only [Act.put,List.setIfInBounds_toArray,List.set_cons_zero,List.set_cons_succ]))
  (refine uA 14 ?_ rfl hA0 hB0 (fun W hA=>?_) ?_;rotate_left;(· (go_simp;try with_reducible rfl));(try simp only [Act.put,List.setIfInBounds_toArray,List.set_cons_zero,List.set_cons_succ]))
  (refine uA 15 ?_ rfl hA0 hB0 (fun W hA=>?_) ?_;rotate_left;(· (obtain ⟨⟨a0,a1,a2,a3⟩,_⟩:=hA;go_simp;try with_reducible rfl));(try simp only [Act.put,List.setIfInBounds_toArray,List.set_cons_zero,List.set_cons_succ]))
  (refine uA 17 ?_ rfl hA0 hB0 (fun W hA=>?_) ?_;rotate_left;(· (go_simp;try with_reducible rfl));(try simp only [Act.put,List.setIfInBounds_toArray,List.set_cons_zero,List.set_cons_succ]))
  (refine uA 18 ?_ rfl hA0 hB0 (fun W hA=>?_) ?_;rotate_left;(· (obtain ⟨⟨a0,a1,a2,a3⟩,_⟩:=hA;go_simp;try with_reducible rfl));(try simp only [Act.put,List.setIfInBounds_toArray,List.set_cons_zero,List.set_cons_succ]))
  (refine uA 19 ?_ rfl hA0 hB0 (fun W hA=>?_) ?_;rotate_left;(· (go_simp;try with_reducible rfl));(try simp only [Act.put,List.setIfInBounds_toArray,List.set_cons_zero,List.set_cons_succ]))
  (refine uA 20 ?_ rfl hA0 hB0 (fun W hA=>?_) ?_;rotate_left;(· (obtain ⟨_,⟨_,a5⟩,_⟩:=hA;go_simp;try with_reducible rfl));(try simp only [Act.put,List.setIfInBounds_toArray,List.set_cons_zero,List.set_cons_succ]))
  (refine uA 22 ?_ rfl hA0 hB0 (fun W hA=>?_) ?_;rotate_left;(· (obtain ⟨_,⟨⟨a0,a1,a2,a3,a4⟩,a5⟩,_⟩:=hA;go_simp;try with_reducible rfl));(try simp only [Act.put,List.setIfInBounds_toArray,List.set_cons_zero,List.set_cons_succ]))
  refine anyI_at (I:=fun a0 f L a' W=>∃ (q:Nat) (m1 m2 al b st:Bool) (kb db rb mb fb cb bx:Nat) (v31 v34 v37 v42 v47 v49 v8 v50:Value),L = VL q m1 m2 al b st∧f + q + m1.toNat + m2.toNat + al.toNat + b.toNat + st.toNat = 9∧q ≤ 4∧(b = true → q = 4∧m1 = true∧m2 = true)∧(st = true → b = true∧al = true)∧(1 ≤ q → v31 = .slice (some ⟨kb,0,none⟩) n n)∧(2 ≤ q → v42 = .slice (some ⟨mb,0,none⟩) n n)∧(3 ≤ q → v47 = .slice (some ⟨fb,0,none⟩) n n)∧(4 ≤ q → v49 = .slice (some ⟨cb,0,none⟩) 32 32)∧(m1 = true → v34 = .slice (some ⟨db,0,none⟩) n n)∧(m2 = true → v37 = .slice (some ⟨rb,0,none⟩) n n)∧(al = true → v8 = .pointer (some ⟨bx,0,none⟩))∧(b = true → v50 = .agg #[.slice z.x.A z.x.na z.x.ca,.int .i64 (n:Int),.slice z.x.M z.x.nm z.x.cm,.slice z.x.E z.x.ne z.x.ce,.slice (some ⟨kb,0,none⟩) n n,.slice (some ⟨db,0,none⟩) n n,.slice (some ⟨rb,0,none⟩) n n,.slice (some ⟨mb,0,none⟩) n n,.slice (some ⟨fb,0,none⟩) n n,.slice (some ⟨cb,0,none⟩) 32 32])∧a' = put8n a0 v31 v34 v37 v42 v47 v49 v8 v50∧Hid (VtG w5 (mkF z c n kb db rb mb fb cb) q m1 m2 al st bx W)) ?_ ?_
  ·exact ⟨0,false,false,false,false,false,0,0,0,0,0,0,0,undef,undef,undef,undef,undef,undef,undef,undef,rfl,rfl,(by omega),(by simp),(by simp),(by simp),(by simp),(by simp),(by simp),(by simp),(by simp),(by simp),(by simp),(by first | (simp only;done) | with_reducible rfl | simp only [put8n,List.setIfInBounds_toArray,List.set_cons_succ,List.set_cons_zero]),Lib.hid ⟨HBD.out,(by simp),(by simp),(by simp),(by simp),(by simp),(by simp),(by simp)⟩⟩
  ·clear HBD hA0
   rintro f L a' W ⟨q,m1,m2,al,b,st,kb,db,rb,mb,fb,cb,bx,v31,v34,v37,v42,v47,v49,v8,v50,rfl,hf,hq,g1,g2,e31,e42,e47,e49,e34,e37,e8,e50,rfl,HD⟩
   simp only [put8n,List.setIfInBounds_toArray,List.set_cons_succ,List.set_cons_zero]
   refine ⟨⟨And.intro (Blk.c4 (HKA.out W HD.out.bel)) (And.intro (Blk.c6 (HK5.out W HD.out.bel)) ((HKC5.out W HD.out.bel).cell (j:=0) rfl)),fun _=>trivial⟩,VR q m1 m2 al b st,?_,?_,?_,?_⟩
   ·clear HD e31 e42 e47 e49 e34 e37 e8 e50 hf hmI hmR
    cases st with
    | true =>
     obtain ⟨rfl,rfl⟩:=g2 rfl
     obtain ⟨rfl,rfl,rfl⟩:=g1 rfl
     kernel_rfl
    | false =>
     cases b with
     | true =>
      obtain ⟨rfl,rfl,rfl⟩:=g1 rfl
      cases al <;> kernel_rfl
     | false =>
      rcases (by omega:q = 0 ∨ q = 1 ∨ q = 2 ∨ q = 3 ∨ q = 4) with rfl | rfl | rfl | rfl | rfl <;> cases m1 <;> cases m2 <;> cases al <;> kernel_rfl
   ·intro hr0
    obtain ⟨rfl,rfl,rfl,rfl,rfl,rfl⟩:=VR_nil hq hr0
    obtain rfl:=e8 rfl
    clear g1 g2 e31 e42 e47 e49 e34 e37 e8 e50 hf hr0 hmI hmR
    go_wp2_with fail
    go_meet
    case rel=>exact ⟨kb,db,rb,mb,fb,cb,bx,rfl,HD⟩
   ·intro h0
    subst h0
    have:q = 4∧m1 = true∧m2 = true∧al = true∧b = true∧st = true:=by
     clear HD e31 e42 e47 e49 e34 e37 e8 e50
     have t1:=m1.toNat_le
     have t2:=m2.toNat_le
     have t3:=al.toNat_le
     have t4:=b.toNat_le
     have t5:=st.toNat_le
     refine ⟨by omega,?_,?_,?_,?_,?_⟩ <;> (rw [← Bool.toNat_eq_one];omega)
    obtain ⟨rfl,rfl,rfl,rfl,rfl,rfl⟩:=this
    rfl
   ·rintro i hi g rfl
    have hst:q < 4 ∨ m1 = false ∨ m2 = false ∨ b = false ∨ al = false → st = false:=fun h9=>by
     cases st with
     | false=>rfl
     | true =>
      obtain ⟨rfl,rfl⟩:=g2 rfl
      obtain ⟨rfl,rfl,rfl⟩:=g1 rfl
      simp at h9
    have hbf:q < 4 ∨ m1 = false ∨ m2 = false → b = false:=fun h9=>by
     cases b with
     | false=>rfl
     | true =>
      obtain ⟨rfl,rfl,rfl⟩:=g1 rfl
      simp at h9
    rcases VR_mem hi with ⟨rfl,rfl⟩ | ⟨rfl,rfl⟩ | ⟨rfl,rfl⟩ | ⟨rfl,rfl⟩ | ⟨rfl,rfl⟩ | ⟨rfl,rfl⟩ | ⟨rfl,rfl,rfl,rfl,rfl⟩ | ⟨rfl,rfl⟩ | ⟨rfl,rfl,rfl,rfl,rfl,rfl,rfl⟩
    ·obtain rfl:=hst (.inl (by omega))
     obtain rfl:=hbf (.inl (by omega))
     refine wpOp_at (i:=5) rfl (fun K hK=>?_)
     go_simp
     go_at_call 39
     refine (max_flags n c.k.A c.k.c c.k.n c.k.l W hn4 (HC5.out W HD.out.bel).k.la (HC5.out W HD.out.bel).k.ra HKR.out (HC5.out W HD.out.bel).k.ac (HC5.out W HD.out.bel).k.cA).mono ?_
     rintro e w9 ⟨b,rfl,hk,hl,hb⟩
     go_simp
     exact hK _ _ ⟨1,m1,m2,al,false,false,b,db,rb,mb,fb,cb,bx,_,v34,v37,v42,v47,v49,v8,v50,rfl,(by have e1:true.toNat = 1:=rfl;have e0:false.toNat = 0:=rfl;omega),(by omega),(by simp),(by simp),(fun _=>rfl),(fun h=>absurd h (by omega)),(fun h=>absurd h (by omega)),(fun h=>absurd h (by omega)),e34,e37,e8,(by simp),(by first | (simp only;done) | (unfold put8n;rfl) | (simp only [put8n,List.setIfInBounds_toArray,List.set_cons_succ,List.set_cons_zero];done)),Lib.hid (HD.out.ck hb hk)⟩
    ·obtain rfl:=hst (.inr (.inl rfl))
     obtain rfl:=hbf (.inr (.inl rfl))
     refine wpOp_at (i:=8) rfl (fun K hK=>?_)
     go_simp
     exact hK _ _ ⟨q,true,m2,al,false,false,kb,W.heap.size,rb,mb,fb,cb,bx,v31,_,v37,v42,v47,v49,v8,v50,rfl,(by have e1:true.toNat = 1:=rfl;have e0:false.toNat = 0:=rfl;omega),hq,(by simp),(by simp),e31,e42,e47,e49,(fun _=>rfl),e37,e8,(by simp),(by first | (simp only;done) | (unfold put8n;rfl) | (simp only [put8n,List.setIfInBounds_toArray,List.set_cons_succ,List.set_cons_zero];done)),Lib.hid (HD.out.md (box_below W _) (by rw [made_ints];exact Blk.new _ _ _) HD.out.bel.size)⟩
    ·obtain rfl:=hst (.inr (.inr (.inl rfl)))
     obtain rfl:=hbf (.inr (.inr rfl))
     refine wpOp_at (i:=11) rfl (fun K hK=>?_)
     go_simp
     exact hK _ _ ⟨q,m1,true,al,false,false,kb,db,W.heap.size,mb,fb,cb,bx,v31,v34,_,v42,v47,v49,v8,v50,rfl,(by have e1:true.toNat = 1:=rfl;have e0:false.toNat = 0:=rfl;omega),hq,(by simp),(by simp),e31,e42,e47,e49,e34,(fun _=>rfl),e8,(by simp),(by first | (simp only;done) | (unfold put8n;rfl) | (simp only [put8n,List.setIfInBounds_toArray,List.set_cons_succ,List.set_cons_zero];done)),Lib.hid (HD.out.mr (box_below W _) (by rw [made_rms];exact Blk.new _ _ _) HD.out.bel.size)⟩
    ·obtain rfl:=hst (.inl (by omega))
     obtain rfl:=hbf (.inl (by omega))
     obtain rfl:=e31 (by omega)
     refine wpOp_at (i:=16) rfl (fun K hK=>?_)
     go_simp
     go_at_call 39
     refine (max_flags n z.x.M z.x.cm z.x.nm z.x.a.ma W hn4 (HZ5.out W HD.out.bel).x.lm (HZ5.out W HD.out.bel).x.rm HMR.out (HZ5.out W HD.out.bel).x.mc (HZ5.out W HD.out.bel).x.cM).mono ?_
     rintro e w9 ⟨b,rfl,hk,hl,hb⟩
     go_simp
     exact hK _ _ ⟨2,m1,m2,al,false,false,kb,db,rb,b,fb,cb,bx,_,v34,v37,_,v47,v49,v8,v50,rfl,(by have e1:true.toNat = 1:=rfl;have e0:false.toNat = 0:=rfl;omega),(by omega),(by simp),(by simp),(fun _=>rfl),(fun _=>rfl),(fun h=>absurd h (by omega)),(fun h=>absurd h (by omega)),e34,e37,e8,(by simp),(by first | (simp only;done) | (unfold put8n;rfl) | (simp only [put8n,List.setIfInBounds_toArray,List.set_cons_succ,List.set_cons_zero];done)),Lib.hid (HD.out.cm hb hk)⟩
    ·obtain rfl:=hst (.inl (by omega))
     obtain rfl:=hbf (.inl (by omega))
     obtain rfl:=e31 (by omega)
     obtain rfl:=e42 (by omega)
     refine wpOp_at (i:=21) rfl (fun K hK=>?_)
     go_simp
     go_at_call 39
     refine (max_flags n z.f.A z.f.c z.f.n z.f.l W hn4 (HZ5.out W HD.out.bel).f.la (HZ5.out W HD.out.bel).f.ra HFR.out (HZ5.out W HD.out.bel).f.ac (HZ5.out W HD.out.bel).f.cA).mono ?_
     rintro e w9 ⟨b,rfl,hk,hl,hb⟩
     go_simp
     exact hK _ _ ⟨3,m1,m2,al,false,false,kb,db,rb,mb,b,cb,bx,_,v34,v37,_,_,v49,v8,v50,rfl,(by have e1:true.toNat = 1:=rfl;have e0:false.toNat = 0:=rfl;omega),(by omega),(by simp),(by simp),(fun _=>rfl),(fun _=>rfl),(fun _=>rfl),(fun h=>absurd h (by omega)),e34,e37,e8,(by simp),(by first | (simp only;done) | (unfold put8n;rfl) | (simp only [put8n,List.setIfInBounds_toArray,List.set_cons_succ,List.set_cons_zero];done)),Lib.hid (HD.out.cf hb hk)⟩
    ·obtain rfl:=hst (.inl (by omega))
     obtain rfl:=hbf (.inl (by omega))
     obtain rfl:=e31 (by omega)
     obtain rfl:=e42 (by omega)
     obtain rfl:=e47 (by omega)
     refine wpOp_at (i:=23) rfl (fun K hK=>?_)
     go_simp
     go_at_call 38
     refine (HH.out W (HZ5.out W HD.out.bel)).mono ?_
     rintro e w9 ⟨b,rfl,hk,hl,hb⟩
     go_simp
     exact hK _ _ ⟨4,m1,m2,al,false,false,kb,db,rb,mb,fb,b,bx,_,v34,v37,_,_,_,v8,v50,rfl,(by have e1:true.toNat = 1:=rfl;have e0:false.toNat = 0:=rfl;omega),(by omega),(by simp),(by simp),(fun _=>rfl),(fun _=>rfl),(fun _=>rfl),(fun _=>rfl),e34,e37,e8,(by simp),(by first | (simp only;done) | (unfold put8n;rfl) | (simp only [put8n,List.setIfInBounds_toArray,List.set_cons_succ,List.set_cons_zero];done)),Lib.hid (HD.out.ch hb hk)⟩
    ·obtain rfl:=hst (.inr (.inr (.inr (.inl rfl))))
     obtain rfl:=e31 (by omega)
     obtain rfl:=e42 (by omega)
     obtain rfl:=e47 (by omega)
     obtain rfl:=e49 (by omega)
     obtain rfl:=e34 rfl
     obtain rfl:=e37 rfl
     refine wpOp_at (i:=24) rfl (fun K hK=>?_)
     go_simp
     exact hK _ _ ⟨4,true,true,al,true,false,kb,db,rb,mb,fb,cb,bx,_,_,_,_,_,_,v8,_,rfl,(by have e1:true.toNat = 1:=rfl;have e0:false.toNat = 0:=rfl;omega),(by omega),(fun _=>⟨rfl,rfl,rfl⟩),(by simp),(fun _=>rfl),(fun _=>rfl),(fun _=>rfl),(fun _=>rfl),(fun _=>rfl),(fun _=>rfl),e8,(fun _=>rfl),(by first | (simp only;done) | (unfold put8n;rfl) | (simp only [put8n,List.setIfInBounds_toArray,List.set_cons_succ,List.set_cons_zero];done)),HD⟩
    ·obtain rfl:=hst (.inr (.inr (.inr (.inr rfl))))
     refine wpOp_at (i:=25) rfl (fun K hK=>?_)
     go_simp
     exact hK _ _ ⟨q,m1,m2,true,b,false,kb,db,rb,mb,fb,cb,W.heap.size,v31,v34,v37,v42,v47,v49,_,v50,rfl,(by have e1:true.toNat = 1:=rfl;have e0:false.toNat = 0:=rfl;omega),hq,g1,(by simp),e31,e42,e47,e49,e34,e37,(fun _=>rfl),e50,(by first | (simp only;done) | (unfold put8n;rfl) | (simp only [put8n,List.setIfInBounds_toArray,List.set_cons_succ,List.set_cons_zero];done)),Lib.hid HD.out.box⟩
    ·obtain rfl:=e31 (by omega)
     obtain rfl:=e42 (by omega)
     obtain rfl:=e47 (by omega)
     obtain rfl:=e49 (by omega)
     obtain rfl:=e34 rfl
     obtain rfl:=e37 rfl
     obtain rfl:=e8 rfl
     obtain rfl:=e50 rfl
     obtain ⟨p1,p2⟩:=HD.out.put
     have p3:Hid (VtG w5 (mkF z c n kb db rb mb fb cb) 4 true true true true bx (W.setCells bx 0 [.slice z.x.A z.x.na z.x.ca,.int .i64 (n:Int),.slice z.x.M z.x.nm z.x.cm,.slice z.x.E z.x.ne z.x.ce,.slice (some ⟨kb,0,none⟩) n n,.slice (some ⟨db,0,none⟩) n n,.slice (some ⟨rb,0,none⟩) n n,.slice (some ⟨mb,0,none⟩) n n,.slice (some ⟨fb,0,none⟩) n n,.slice (some ⟨cb,0,none⟩) 32 32])):=Lib.hid (by
      have e:fvc (mkF z c n kb db rb mb fb cb) = [.slice z.x.A z.x.na z.x.ca,.int .i64 (n:Int),.slice z.x.M z.x.nm z.x.cm,.slice z.x.E z.x.ne z.x.ce,.slice (some ⟨kb,0,none⟩) n n,.slice (some ⟨db,0,none⟩) n n,.slice (some ⟨rb,0,none⟩) n n,.slice (some ⟨mb,0,none⟩) n n,.slice (some ⟨fb,0,none⟩) n n,.slice (some ⟨cb,0,none⟩) 32 32]:=by
       unfold fvc mkF
       dsimp only
       rw [show z.x.a.st = (n:Int) by exact HN.out]
      rw [← e];exact p1)
     refine wpOp_at (i:=26) rfl (fun K hK=>?_)
     refine step_store rfl 98 (.tmp 8) (.tmp 50) rfl bx 0 #[.slice z.x.A z.x.na z.x.ca,.int .i64 (n:Int),.slice z.x.M z.x.nm z.x.cm,.slice z.x.E z.x.ne z.x.ce,.slice (some ⟨kb,0,none⟩) n n,.slice (some ⟨db,0,none⟩) n n,.slice (some ⟨rb,0,none⟩) n n,.slice (some ⟨mb,0,none⟩) n n,.slice (some ⟨fb,0,none⟩) n n,.slice (some ⟨cb,0,none⟩) 32 32] rfl rfl p2 fv_size (all_oneCell_toArray (fv_one (c:=c) HN.out)) ?_
     simp only [Act.put]
     exact hK _ _ ⟨4,true,true,true,true,true,kb,db,rb,mb,fb,cb,bx,_,_,_,_,_,_,_,_,rfl,(by have e1:true.toNat = 1:=rfl;have e0:false.toNat = 0:=rfl;omega),(by omega),(fun _=>⟨rfl,rfl,rfl⟩),(fun _=>⟨rfl,rfl⟩),(fun _=>rfl),(fun _=>rfl),(fun _=>rfl),(fun _=>rfl),(fun _=>rfl),(fun _=>rfl),(fun _=>rfl),(fun _=>rfl),(by first | (simp only;done) | (unfold put8n;rfl) | (simp only [put8n,List.setIfInBounds_toArray,List.set_cons_succ,List.set_cons_zero];done)),p3⟩
 case rest =>
  obtain ⟨kb,db,rb,mb,fb,cb,bx,rfl,HD⟩:=hcut
  have HV:=Lib.hid (show VtM w5 (mkVF z c n kb db rb mb fb cb (dsTb n ((c.k.l.zip c.d.l).take 0)) (rmTb n (c.rm.take 0))) bx wc from HD.out.fin)
  have HKE:=Lib.hid (fun (W:World) (D:List Int) (R:List Rm) (h9:(mkVF z c n kb db rb mb fb cb D R).ok W)=>max_keeps (mkVF z c n kb db rb mb fb cb D R) W h9 HM.out.wf HM.out.urng HFR.out)
  have HRE:=Lib.hid (fun (W:World) (D:List Int) (R:List Rm) (h9:(mkVF z c n kb db rb mb fb cb D R).ok W)=>max_removes (mkVF z c n kb db rb mb fb cb D R) W h9 HM.out.wf HM.out.urng HFR.out)
  have HFV:=Lib.hid (show ∀ (D:List Int) (R:List Rm),fvc (mkVF z c n kb db rb mb fb cb D R) = [.slice z.x.A z.x.na z.x.ca,.int .i64 (n:Int),.slice z.x.M z.x.nm z.x.cm,.slice z.x.E z.x.ne z.x.ce,.slice (some ⟨kb,0,none⟩) n n,.slice (some ⟨db,0,none⟩) n n,.slice (some ⟨rb,0,none⟩) n n,.slice (some ⟨mb,0,none⟩) n n,.slice (some ⟨fb,0,none⟩) n n,.slice (some ⟨cb,0,none⟩) 32 32] from fun D R=>by
   unfold fvc mkVF
   dsimp only
   rw [show z.x.a.st = (n:Int) by exact HN.out])
  have HTB:=Lib.hid (tb_of (p:=z.m) HFO.out (show z.m.a.st = (n:Int) from HN.out))
  have HPI:=Lib.hid (part_iff (p:=z.m) HFO.out HM.out.wf.st0)
  have HZL:=Lib.hid (show (c.k.l.zip c.d.l).length = c.k.n by
   have h1:c.d.l.length = c.k.l.length:=HFO.out.dlen
   have h2:=HKL.out
   rw [List.length_zip];omega)
  have HDN:=Lib.hid (show c.d.n = c.k.n by
   have h1:c.d.l.length = c.k.l.length:=HFO.out.dlen
   have h2:=HKL.out
   have h3:=HDL.out
   omega)
  have HRR:=Lib.hid (show ∀ r ∈ c.rm,0 ≤ r.s∧r.s < (n:Int) from fun r hr=>by have:=HFO.out.rrng r hr;have:=HN.out;omega)
  clear HD HFO HDL
  obtain ⟨c0,c1,c2⟩:=Blk.c3 (HKC5.out wc HV.out.bel)
  have h1:=(HKA.out wc HV.out.bel).cell (j:=1) rfl
  by_cases hsum:c.k.n + c.rn = n
  case neg =>
   have b1:((c.k.n:Int) + (c.rn:Int) != (n:Int)) = true:=by
    rw [bne_iff_ne]
    omega
   have HS:=Lib.hid hsum
   clear hsum
   go_wp2
   go_ret
   refine ⟨24,rfl,.inr ⟨HRES.out,.inr ⟨fun hv=>?_,rfl⟩⟩,HB5.out _ HV.out.bel⟩
   have h2:=(HPI.out.2 hv.part).1
   have h3:c.ce.kp.length = c.k.n:=HKL.out
   have h4:c.ce.rm.length = c.rn:=HRL.out
   have h5:z.m.a.st = (n:Int):=HN.out
   have h6:=HS.out
   omega
  have b1:((c.k.n:Int) + (c.rn:Int) != (n:Int)) = false:=by
   rw [bne_eq_false_iff_eq]
   omega
  have HSUM:=Lib.hid hsum
  clear hsum
  obtain ⟨⟨KA,kn,kc,kl⟩,⟨DA,dn,dc,dl⟩,RA,rn,rc,l⟩:=c
  dsimp only at HV HKE HRE HFV HTB HZL HDN HRR HKL HRL HSUM HKC5 HC5 HKR hkn hrn hrn4 c0 c1 c2 b1 ⊢
  go_wp2
  clear c0 c1 c2 h1 b1
  go_loopw [9,10,64] (fun s9 s10 s64 wr=>∃ (j:Nat) (v9 v10:Value),s9 = v9∧s10 = v10∧s64 = .int .i64 j∧j ≤ kn∧Hid (VtM w5 (mkVF z ⟨⟨KA,kn,kc,kl⟩,⟨DA,dn,dc,dl⟩,RA,rn,rc,l⟩ n kb db rb mb fb cb (dsTb n ((kl.zip dl).take j)) (rmTb n (l.take 0))) bx wr)) (fun _ _ s64 _=>kn - (intOf s64).toNat)
  case atStart=>exact ⟨0,_,_,rfl,rfl,rfl,Nat.zero_le _,HV⟩
  case round =>
   clear HV
   obtain ⟨j,v9,v10,rfl,rfl,rfl,hj,HV⟩:=hrel
   by_cases hlt:j < kn
   case pos =>
    have b1:(j:Int) < (kn:Int):=by omega
    obtain ⟨sd,s,hA,hsb,hss,hsc⟩:=(HC5.out wr HV.out.bel).k.ra.at_ (k:=j) (by rw [show kl.length = kn by exact HKL.out];exact hlt)
    have hA':KA = some sd:=hA
    subst hA'
    obtain ⟨s0,s1⟩:=HKR.out s (List.mem_of_getElem? hss)
    obtain ⟨dd,d,hA2,_,hds,_⟩:=(HC5.out wr HV.out.bel).d.ra.at_ (k:=j) (by have:=HZL.out;rw [List.length_zip] at this;show j < dl.length;omega)
    have hA2':DA = some dd:=hA2
    subst hA2'
    have HDC:=Lib.hid (show ∀ V:World,Below w5.heap.size w5 V → V.cell? (dd.add j) = some (.int .i64 d) from fun V hb=>by
     obtain ⟨ad,x,e1,_,e2,e3⟩:=(HC5.out V hb).d.ra.at_ (k:=j) (List.getElem?_eq_some_iff.1 hds).1
     have e1':some dd = some ad:=e1
     injection e1' with e1'
     subst e1'
     rw [hds] at e2
     injection e2 with e2
     rw [e2];exact e3)
    have HSN:=Lib.hid (show dsTb n ((kl.zip dl).take (j + 1)) = (dsTb n ((kl.zip dl).take j)).set s.toNat d from tbS_snoc (zip_at hss hds))
    have hdl:(dsTb n ((kl.zip dl).take j)).length = n:=tbS_len _
    obtain ⟨ov,hov⟩:∃ x,(iv (dsTb n ((kl.zip dl).take j)))[s.toNat]? = some x:=⟨_,List.getElem?_eq_getElem (by rw [iv_length,hdl];omega)⟩
    have HOV:=Lib.hid hov
    have HDL:=Lib.hid hdl
    clear hA hA2 hsb hss hds hov hdl
    go_upto_region 14 with fail
    clear hsc b1
    have HV6:=Lib.hid (HV.out.keep (below_dr wr))
    have bj:(j:Int) < (dn:Int):=by have:dn = kn:=HDN.out;omega
    have bj':j < dn:=by omega
    refine wp_region_U (fun V=>V.cell? ⟨bx,5,none⟩ = some (.slice (some ⟨db,0,none⟩) n n)∧V.cell? ⟨w.heap.size + 1,1,none⟩ = some (.slice (some dd) dn dc)∧V.cell? (dd.add j) = some (.int .i64 d)) (fun _=>True) 9 (by kernel_rfl) ?_
    change anyU _ _ _ _ _ _ _ 10 _ _ _
    have hB0:True:=trivial
    have HAV:=Lib.hid (fun (V:World) (D:List Int) (hv:VtM w5 (mkVF z ⟨⟨some sd,kn,kc,kl⟩,⟨some dd,dn,dc,dl⟩,RA,rn,rc,l⟩ n kb db rb mb fb cb D (rmTb n (l.take 0))) bx V)=>And.intro (show V.cell? ⟨bx,5,none⟩ = some (.slice (some ⟨db,0,none⟩) n n) from hv.b.cell (j:=5) rfl) (And.intro (show V.cell? ⟨w.heap.size + 1,1,none⟩ = some (.slice (some dd) dn dc) from (HKC5.out V hv.bel).cell (j:=1) rfl) (HDC.out V hv.bel)))
    generalize wr.drew = w6 at HV6 ⊢
    have hA0:=HAV.out w6 _ HV6.out
    have HV7:=Lib.hid (show VtM w5 (mkVF z ⟨⟨some sd,kn,kc,kl⟩,⟨some dd,dn,dc,dl⟩,RA,rn,rc,l⟩ n kb db rb mb fb cb (dsTb n ((kl.zip dl).take (j + 1))) (rmTb n (l.take 0))) bx (w6.setCell ⟨db,s.toNat,none⟩ (.int .i64 d)) from by
     rw [HSN.out]
     exact HV6.out.setD (i:=s.toNat) (by show s.toNat < (dsTb n ((kl.zip dl).take j)).length;rw [HDL.out];omega) d)
    have hA9:=HAV.out _ _ HV7.out
    have g1:w6.cell? ⟨db,s.toNat,none⟩ = some ov:=HV6.out.d.cell HOV.out
    have g2:w6.frozen? ⟨db,s.toNat,none⟩ = false:=HV6.out.d.free _
    have g3:db < w6.heap.size:=HV6.out.d.lt
    have t1:¬ s < 0:=by omega
    clear HOV HDL HSN HDC HAV HV
    (refine uA 0 ?_ rfl hA0 hB0 (fun W hA=>?_) ?_;rotate_left;(· (obtain ⟨a0,a1,a2⟩:=hA;go_simp;try with_reducible rfl));(try simp only [Act.put,List.setIfInBounds_toArray,List.set_cons_zero,List.set_cons_succ]))
    (refine uA 1 ?_ rfl hA0 hB0 (fun W hA=>?_) ?_;rotate_left;(· (obtain ⟨a0,a1,a2⟩:=hA;go_simp;try with_reducible rfl));(try simp only [Act.put,List.setIfInBounds_toArray,List.set_cons_zero,List.set_cons_succ]))
    (refine uA 2 ?_ rfl hA0 hB0 (fun W hA=>?_) ?_;rotate_left;(· (go_simp;try with_reducible rfl));(try simp only [Act.put,List.setIfInBounds_toArray,List.set_cons_zero,List.set_cons_succ]))
    (refine uA 3 ?_ rfl hA0 hB0 (fun W hA=>?_) ?_;rotate_left;(· (go_simp;try with_reducible rfl));(try simp only [Act.put,List.setIfInBounds_toArray,List.set_cons_zero,List.set_cons_succ]))
    (refine uA 4 ?_ rfl hA0 hB0 (fun W hA=>?_) ?_;rotate_left;(· (obtain ⟨a0,a1,a2⟩:=hA;go_simp;try with_reducible rfl));(try simp only [Act.put,List.setIfInBounds_toArray,List.set_cons_zero,List.set_cons_succ]))
    (refine uA 5 ?_ rfl hA0 hB0 (fun W hA=>?_) ?_;rotate_left;(· (go_simp;try with_reducible rfl));(try simp only [Act.put,List.setIfInBounds_toArray,List.set_cons_zero,List.set_cons_succ]))
    (refine uA 6 ?_ rfl hA0 hB0 (fun W hA=>?_) ?_;rotate_left;(· (go_simp;try with_reducible rfl));(try simp only [Act.put,List.setIfInBounds_toArray,List.set_cons_zero,List.set_cons_succ]))
    (refine uA 7 ?_ rfl hA0 hB0 (fun W hA=>?_) ?_;rotate_left;(· (obtain ⟨a0,a1,a2⟩:=hA;go_simp;try with_reducible rfl));(try simp only [Act.put,List.setIfInBounds_toArray,List.set_cons_zero,List.set_cons_succ]))
    (refine uA 8 ?_ rfl hA0 hB0 (fun W hA=>?_) ?_;rotate_left;(· (go_simp;try with_reducible rfl));(try simp only [Act.put,List.setIfInBounds_toArray,List.set_cons_zero,List.set_cons_succ]))
    refine uOne (i:=9) rfl (by kernel_rfl) (fun K hK=>?_)
    go_simp
    (refine hK _ _ ⟨hA9,fun h=>absurd (h.symm.trans (by kernel_rfl:_ = true)) Bool.false_ne_true⟩ ?_;clear hK K;(try simp only [Act.put,List.setIfInBounds_toArray,List.set_cons_zero,List.set_cons_succ]))
    refine anyU_done (by kernel_rfl) ?_ _
    clear hA0 hB0 hA9 g1 g2 g3 HV6
    generalize w6.setCell ⟨db,s.toNat,none⟩ (.int .i64 d) = w9 at HV7 ⊢
    go_wp2
    go_roundw
    case rel=>exact ⟨j + 1,_,_,rfl,rfl,by go_num,by omega,HV7⟩
    case measure=>simp [intOf];omega
   obtain rfl:j = kn:=by omega
   have b1:¬ (j:Int) < (j:Int):=by omega
   have htk:(kl.zip dl).take j = kl.zip dl:=List.take_of_length_le (by rw [HZL.out];exact Nat.le_refl _)
   rw [htk] at HV
   have HN0:=Lib.hid (show ∀ r ∈ l.take 0,r.s ∉ kl from fun r hr=>by simp at hr)
   obtain ⟨_,_,c2⟩:=Blk.c3 (HKC5.out wr HV.out.bel)
   clear htk
   go_wp2
   clear c2
   go_loopw [12,82] (fun s12 s82 wr=>∃ (i:Nat) (v12:Value),s12 = v12∧s82 = .int .i64 i∧i ≤ rn∧Hid (∀ r ∈ l.take i,r.s ∉ kl)∧Hid (VtM w5 (mkVF z ⟨⟨KA,j,kc,kl⟩,⟨DA,dn,dc,dl⟩,RA,rn,rc,l⟩ n kb db rb mb fb cb (dsTb n (kl.zip dl)) (rmTb n (l.take i))) bx wr)) (fun _ s82 _=>rn - (intOf s82).toNat)
   case atStart=>exact ⟨0,_,rfl,rfl,Nat.zero_le _,HN0,HV⟩
   case round =>
    clear HV HN0
    obtain ⟨i,v12,rfl,rfl,hi,HNO,HV⟩:=hrel
    by_cases hlt2:i < rn
    case neg =>
     obtain rfl:i = rn:=by omega
     have b2:¬ (i:Int) < (i:Int):=by omega
     have htk:l.take i = l:=List.take_of_length_le (by rw [show l.length = i by exact HRL.out];exact Nat.le_refl _)
     rw [htk] at HV HNO
     have HOK:=Lib.hid (fun (W:World) (hv:VtM w5 (mkVF z ⟨⟨KA,j,kc,kl⟩,⟨DA,dn,dc,dl⟩,RA,i,rc,l⟩ n kb db rb mb fb cb (dsTb n (kl.zip dl)) (rmTb n l)) bx W)=>VtM.ok hv (HZ5.out W hv.bel).x HN.out (by show (inF n kl).length = n;rw [inF_len]) (tbS_len _) (tbS_len _))
     have HPT:=Lib.hid (HPI.out.1 ⟨by
      show ((kl.length + l.length:Nat):Int) = z.m.a.st
      have h1:kl.length = j:=HKL.out
      have h2:l.length = i:=HRL.out
      have h3:z.m.a.st = (n:Int):=HN.out
      have h4:j + i = n:=HSUM.out
      omega,HNO.out⟩)
     have HTI:=Lib.hid (show (KeP z.m (inF n kl) (dsTb n (kl.zip dl))∧ReP z.m (inF n kl) (rmTb n l)) ↔ VOk z.m _ from tab_iff HM.out.wf (frmE_ok HRES.out) HPT.out HTB.out)
     have HB9:=Lib.hid (fun (W:World) (hv:Below w5.heap.size w5 W)=>HB5.out W hv)
     have kb9:=HV.out.b
     rw [HFV.out] at kb9
     have d0:=kb9.cell (j:=0) rfl
     have d1:=kb9.cell (j:=1) rfl
     have d2:=kb9.cell (j:=2) rfl
     have d3:=kb9.cell (j:=3) rfl
     have d4:=kb9.cell (j:=4) rfl
     have d5:=kb9.cell (j:=5) rfl
     have d6:=kb9.cell (j:=6) rfl
     have d7:=kb9.cell (j:=7) rfl
     have d8:=kb9.cell (j:=8) rfl
     have d9:=kb9.cell (j:=9) rfl
     have HKE9:=Lib.hid (HKE.out wr _ _ (HOK.out wr HV.out))
     rw [HFV.out] at HKE9
     clear kb9 htk HPT HNO HKE
     go_wp2_with fail
     clear d0 d1 d2 d3 d4 d5 d6 d7 d8 d9
     refine HKE9.out.mono ?_
     rintro _ w7 ⟨q1,rfl,hq1,hb7⟩
     have HQ1:=Lib.hid hq1
     have HV7:=Lib.hid (HV.out.keep hb7)
     clear hq1 hb7 HV HKE9
     cases q1 with
     | false =>
      go_wp2
      go_ret
      refine ⟨24,rfl,.inr ⟨HRES.out,.inr ⟨fun hv=>?_,rfl⟩⟩,HB9.out _ HV7.out.bel⟩
      have:=HQ1.out.2 (HTI.out.2 hv).1
      cases this
     | true =>
      have kb9:=HV7.out.b
      rw [HFV.out] at kb9
      have d0:=kb9.cell (j:=0) rfl
      have d1:=kb9.cell (j:=1) rfl
      have d2:=kb9.cell (j:=2) rfl
      have d3:=kb9.cell (j:=3) rfl
      have d4:=kb9.cell (j:=4) rfl
      have d5:=kb9.cell (j:=5) rfl
      have d6:=kb9.cell (j:=6) rfl
      have d7:=kb9.cell (j:=7) rfl
      have d8:=kb9.cell (j:=8) rfl
      have d9:=kb9.cell (j:=9) rfl
      have HRE9:=Lib.hid (HRE.out w7 _ _ (HOK.out w7 HV7.out))
      rw [HFV.out] at HRE9
      clear kb9 HRE
      go_wp2_with fail
      clear d0 d1 d2 d3 d4 d5 d6 d7 d8 d9
      refine HRE9.out.mono ?_
      rintro _ w8 ⟨q2,rfl,hq2,hb8⟩
      have HQ2:=Lib.hid hq2
      have HV8:=Lib.hid (HV7.out.keep hb8)
      clear hq2 hb8 HV7 HRE9
      cases q2 with
      | false =>
       go_wp2
       go_ret
       refine ⟨24,rfl,.inr ⟨HRES.out,.inr ⟨fun hv=>?_,rfl⟩⟩,HB9.out _ HV8.out.bel⟩
       have:=HQ2.out.2 (HTI.out.2 hv).2
       cases this
      | true =>
       go_wp2
       go_ret
       exact ⟨0,rfl,.inr ⟨HRES.out,.inl ⟨HTI.out.1 ⟨HQ1.out.1 trivial,HQ2.out.1 trivial⟩,rfl⟩⟩,HB9.out _ HV8.out.bel⟩
    have b2:(i:Int) < (rn:Int):=by omega
    obtain ⟨ad,x,hA,hab,hx,hcl⟩:=(HC5.out wr HV.out.bel).rr.get (k:=i) (by rw [show l.length = rn by exact HRL.out];exact hlt2)
    have hA':RA = some ad:=hA
    subst hA'
    obtain ⟨s0,s1⟩:=HRR.out x (List.mem_of_getElem? hx)
    have g0:wr.cell? (ad.add (i * 4)) = some (.int .i64 x.s):=hcl 0 _ rfl
    have g1:wr.cell? ⟨(ad.add (i * 4)).block,(ad.add (i * 4)).off + 1,none⟩ = some (.int .i64 x.k):=st_cells (j:=0) (hcl 1 _ rfl)
    have g2:wr.cell? ⟨(ad.add (i * 4)).block,(ad.add (i * 4)).off + 2,none⟩ = some (.int .i64 x.r):=st_cells (j:=1) (hcl 2 _ rfl)
    have g3:wr.cell? ⟨(ad.add (i * 4)).block,(ad.add (i * 4)).off + 3,none⟩ = some (.int .i64 x.e):=st_cells (j:=2) (hcl 3 _ rfl)
    have hbx:=box_below wr (.cells #[.int .i64 x.s,.int .i64 x.k,.int .i64 x.r,.int .i64 x.e] 63)
    have ke:Blk (wr.alloc (.cells #[.int .i64 x.s,.int .i64 x.k,.int .i64 x.r,.int .i64 x.e] 63)) wr.heap.size 63 [.int .i64 x.s,.int .i64 x.k,.int .i64 x.r,.int .i64 x.e]:=Blk.new _ _ [_,_,_,_]
    have HV5:=Lib.hid (HV.out.keep hbx)
    have HX:=Lib.hid hx
    clear hcl hab hx hbx hA HV
    go_upto_region 19 with fail
    clear g0 g1 g2 g3 b2
    generalize wr.heap.size = b12 at ke ⊢
    generalize wr.alloc (.cells #[.int .i64 x.s,.int .i64 x.k,.int .i64 x.r,.int .i64 x.e] 63) = w6 at ke HV5 ⊢
    have e0:=ke.cell (j:=0) rfl
    have e1:=ke.cell (j:=1) rfl
    have e2:=ke.cell (j:=2) rfl
    have e3:=ke.cell (j:=3) rfl
    have kb9:=HV5.out.b
    rw [HFV.out] at kb9
    have d4:=kb9.cell (j:=4) rfl
    have d6:=kb9.cell (j:=6) rfl
    have t1:¬ x.s < 0:=by omega
    obtain ⟨q,hq⟩:∃ q,fl (inF n kl) x.s = q:=⟨_,rfl⟩
    have hkm:q = true ↔ x.s ∈ kl:=by rw [← hq];exact inF_fl HKR.out s0
    have g4:w6.cell? ⟨kb,x.s.toNat,none⟩ = some (.bool q):=HV5.out.k.cell (by
     show (bvl (inF n kl))[x.s.toNat]? = _
     rw [bvl_get,fl_get hq s0 (by rw [inF_len];exact s1)];rfl)
    have HKM:=Lib.hid hkm
    clear hq hkm kb9
    cases q with
    | true =>
     go_wp2
     go_ret
     refine ⟨24,rfl,.inr ⟨HRES.out,.inr ⟨fun hv=>?_,rfl⟩⟩,HB5.out _ HV5.out.bel⟩
     exact (HPI.out.2 hv.part).2 x (List.mem_of_getElem? HX.out) (HKM.out.1 trivial)
    | false =>
     have HNO9:=Lib.hid (show ∀ r ∈ l.take (i + 1),r.s ∉ kl from fun r hr=>by
      rw [take_snoc' HX.out] at hr
      rcases List.mem_append.1 hr with hr | hr
      ·exact HNO.out r hr
      ·rw [List.mem_singleton.1 hr]
       exact fun hk=>by have:=HKM.out.2 hk;cases this)
     obtain ⟨p1,p2⟩:=HV5.out.setR (i:=x.s.toNat) (by show x.s.toNat < (rmTb n (l.take i)).length;rw [show (rmTb n (l.take i)).length = n from tbS_len _];omega) x
     have HV9:=Lib.hid (show VtM w5 (mkVF z ⟨⟨KA,j,kc,kl⟩,⟨DA,dn,dc,dl⟩,some ad,rn,rc,l⟩ n kb db rb mb fb cb (dsTb n (kl.zip dl)) (rmTb n (l.take (i + 1)))) bx (w6.setCells rb (x.s.toNat * 4) [.int .i64 x.s,.int .i64 x.k,.int .i64 x.r,.int .i64 x.e]) from by
      rw [show rmTb n (l.take (i + 1)) = (rmTb n (l.take i)).set x.s.toNat x from tbS_snoc HX.out]
      exact p1)
     have HTH:=Lib.hid p2
     clear p1 p2
     go_wp2_with (first | (refine wpList_store_mid rfl 63 (.tmp 97) (.tmp 96) rfl rb (x.s.toNat * 4) #[.int .i64 x.s,.int .i64 x.k,.int .i64 x.r,.int .i64 x.e] rfl rfl HTH.out rm_size (all_oneCell_toArray (rm_one x)) ?_;generalize w6.setCells rb (x.s.toNat * 4) [.int .i64 x.s,.int .i64 x.k,.int .i64 x.r,.int .i64 x.e] = w9 at HV9 ⊢) | fail)
     go_roundw
     case rel=>exact ⟨i + 1,_,rfl,by go_num,by omega,HNO9,HV9⟩
     case measure=>simp [intOf];omega
end Go.Proofs.Ytdnmpndnpfklcaa
