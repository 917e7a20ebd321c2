/- Walk: maximality.Admissible. -/
import Derived.Test.YtdnmpndnpfklcaaBe
import Derived.Test.YtdnmpndnpfklcaaXh
import Derived.Test.YtdnmpndnpfklcaaKe
namespace Go.Proofs.Ytdnmpndnpfklcaa
open Go.RowKit Go Go.Maps
set_option maxHeartbeats 800000 in
theorem edgs_IndexFuncC (A:Option Addr) (c n:Nat) (l:List Ed) (g:Nat) (cap cap2:Value) (p:Ed → Bool) (w:World) (hl:l.length = n) (hR:RdX w w.heap.size A l) (hc:n ≤ 9223372036854775807)
  (eg:∀ args w,(callFunc g args).run Try.prog w = .ok (.enter g args) w)
  (hp:∀ x ∈ l,∀ W,Below w.heap.size w W → Calls Try.prog g #[.agg #[.int .i64 x.f,.int .i64 x.e,.int .i64 x.t],cap,cap2] W fun e w'=>e = .returned (.bool (p x))∧Below W.heap.size W w') :
  Calls Try.prog 87 #[.slice A n c,.func (.func g) #[] #[cap,cap2]] w fun e w'=>∃ r:Int,e = .returned (.int .i64 r)∧decide (0 ≤ r) = l.any p∧Below w.heap.size w w':=by
 have HP:=Lib.hid hp
 have HL:=Lib.hid hl
 clear hp
 go_enter Try.func87,Try.ntmps87
 go_wp2
 go_loopw [4,5,8] (fun s4 s5 s8 wr=>∃ (k:Nat) (v4 v5:Value),s4 = v4∧s5 = v5∧k ≤ n∧s8 = .int .i64 k∧Hid ((l.take k).any p = false)∧Hid (Below w.heap.size w wr)) (fun _ _ s8 _=>n - (intOf s8).toNat)
 case atStart=>exact ⟨0,_,_,rfl,rfl,Nat.zero_le _,rfl,Lib.hid rfl,Lib.hid (Below.refl _ _)⟩
 case round =>
  obtain ⟨k,v4,v5,rfl,rfl,hk,rfl,HN,HB⟩:=hrel
  by_cases hlt:k < n
  ·obtain ⟨ad,x,rfl,hab,hx,g0,g1,g2⟩:=(hR.below HB.out).at_ (k:=k) (by rw [HL.out];exact hlt)
   have r1:wr.cell? ⟨(ad.add (k * 3)).block,(ad.add (k * 3)).off + 1,none⟩ = some (.int .i64 x.e):=st_cells (j:=0) g1
   have r2:wr.cell? ⟨(ad.add (k * 3)).block,(ad.add (k * 3)).off + 2,none⟩ = some (.int .i64 x.t):=st_cells (j:=1) g2
   have b1:(k:Int) < (n:Int):=by omega
   have HC:=Lib.hid (HP.out x (List.mem_of_getElem? hx) wr HB.out)
   obtain ⟨q,hq⟩:∃ q,p x = q:=⟨_,rfl⟩
   rw [hq] at HC
   have HQ:=Lib.hid hq;clear hq
   have HX:=Lib.hid hx;clear hx
   clear hab
   cases q with
   | true =>
    have HR:=Lib.hid (show decide (0 ≤ (k:Int)) = l.any p by rw [decide_eq_true (by omega),List.any_eq_true.2 ⟨x,List.mem_of_getElem? HX.out,HQ.out⟩])
    go_wp2_with fail
    refine HC.out.mono ?_
    rintro e w2 ⟨rfl,hb2⟩
    have HB2:=Lib.hid (HB.out.trans (hb2.mono HB.out.size))
    clear HC g0 r1 r2 g1 g2 hb2
    go_wp2
    go_ret
    exact ⟨_,rfl,HR.out,HB2.out⟩
   | false =>
    have HN2:=Lib.hid (show (l.take (k + 1)).any p = false by rw [List.take_add_one,HX.out,List.any_append,HN.out];simp [HQ.out])
    go_wp2_with (go_at_fn g;refine HC.out.mono ?_;rintro e w2 ⟨rfl,hb2⟩;have HB2:=Lib.hid (HB.out.trans (hb2.mono HB.out.size)))
    go_roundw
    case rel=>exact ⟨k + 1,_,_,rfl,rfl,by omega,by go_num,HN2,HB2⟩
    case measure=>simp [intOf];omega
  ·obtain rfl:k = n:=by omega
   have b1:¬ (k:Int) < (k:Int):=by omega
   have HR:=Lib.hid (show decide (0 ≤ (-1:Int)) = l.any p by
    have:=HN.out
    rw [List.take_of_length_le (by rw [HL.out];exact Nat.le_refl _)] at this
    rw [this]
    decide)
   go_wp2
   go_ret
   exact ⟨_,rfl,HR.out,HB.out⟩
theorem edgs_ContainsFuncC (A:Option Addr) (c n:Nat) (l:List Ed) (g:Nat) (cap cap2:Value) (p:Ed → Bool) (q:Bool) (w:World) (hl:l.length = n) (hR:RdX w w.heap.size A l) (hc:n ≤ 9223372036854775807)
  (eg:∀ args w,(callFunc g args).run Try.prog w = .ok (.enter g args) w)
  (hp:∀ x ∈ l,∀ W,Below w.heap.size w W → Calls Try.prog g #[.agg #[.int .i64 x.f,.int .i64 x.e,.int .i64 x.t],cap,cap2] W fun e w'=>e = .returned (.bool (p x))∧Below W.heap.size W w') (hq:l.any p = q) :
  Calls Try.prog 63 #[.slice A n c,.func (.func g) #[] #[cap,cap2]] w fun e w'=>e = .returned (.bool q)∧Below w.heap.size w w':=by
 have HI:=Lib.hid (edgs_IndexFuncC A c n l g cap cap2 p w hl hR hc eg hp)
 rw [hq] at HI
 clear hp hR hq
 go_enter Try.func63,Try.ntmps63
 go_wp2_with fail
 refine HI.out.mono ?_
 rintro e w' ⟨r,rfl,hr,hb⟩
 have HB:=Lib.hid hb
 have HR:=Lib.hid hr
 clear hb hr
 go_wp2
 go_ret
 exact ⟨ret_bool HR.out,HB.out⟩
def DsV (w1:World) (D:List Int) (n:Nat) (W:World) (V:Value):Prop:=∃ b:Nat,V = .slice (some ⟨b,0,none⟩) n n∧Blk W b 3 (iv D)∧w1.heap.size ≤ b
theorem DsV.st (w1:World) (D:List Int) (n:Nat):PtS1 w1 29 29 (DsV w1 D n):=by
 refine ⟨fun ⟨b,e,h,hl⟩ hb=>⟨b,e,h.below hb h.lt,hl⟩,fun ⟨b,e,h,hl⟩ hg hk ht _=>⟨b,e,h.kept hg ?_,hl⟩⟩
 intro e9
 injection e9 with e9
 rcases ht with rfl | rfl
 ·exact blk_ne hk h (by decide) e9.symm
 ·exact blk_ne hk h (by decide) e9.symm
theorem IntoV.st2 (w1:World) (ed:List Ed):PtS1 w1 29 29 (IntoV w1 ed) :=
 ⟨fun ⟨o,m,g,e,h⟩ hb=>⟨o,m,g,e,h.quiet hb⟩,fun ⟨o,m,g,e,h⟩ hg hk ht hp=>⟨o,m,g,e,h.kept hg hk (by rcases ht with rfl | rfl <;> decide) hp⟩⟩
theorem PtG.s2n {w1 W:World} {P1 P2:World → Value → Prop} {z1 z2 V1 V2:Value} {t1 t2:TypeId} {p1 p2:Nat} (s1:PtS1 w1 t1 t2 P1) (s2:PtS1 w1 t1 t2 P2) (h:PtG w1 P1 P2 z1 z2 t1 t2 true true false true false false V1 V2 p1 p2 W):PtG w1 P1 P2 z1 z2 t1 t2 true true false true false true V1 V2 p1 p2 (W.setCell ⟨p2,0,none⟩ V2):=by
 have hg:=grown_setCell W p2 0 V2
 exact ⟨h.bel.setCell (p:=⟨p2,0,none⟩) (h.m2 rfl).2 _,fun _=>s1.s (h.k1 rfl) hg (h.m2 rfl).1 (.inr rfl) (h.m2 rfl).2,fun _=>s2.s (h.k2 rfl) hg (h.m2 rfl).1 (.inr rfl) (h.m2 rfl).2,fun e=>(by cases e),fun _=>⟨(h.m2 rfl).1.set (j:=0) (by simp) _,(h.m2 rfl).2⟩,fun e=>(by cases e)⟩
def R4i (i1 i2 i4 i6:Nat) (d1 d2 b2 b4:Bool):List Nat:=(if d1 = true then [] else [i1]) ++ (if d1 = true∧d2 = false then [i2] else []) ++ (if b2 = true then [] else [i4]) ++ (if d1 = true∧d2 = true∧b2 = true∧b4 = false then [i6] else [])
theorem R4i_mem {i1 i2 i4 i6:Nat} {d1 d2 b2 b4:Bool} {i:Nat} (h:i ∈ R4i i1 i2 i4 i6 d1 d2 b2 b4):(i = i1∧d1 = false) ∨ (i = i2∧d1 = true∧d2 = false) ∨ (i = i4∧b2 = false) ∨ (i = i6∧b4 = false∧d1 = true∧d2 = true∧b2 = true):=by
 cases d1 <;> cases d2 <;> cases b2 <;> cases b4 <;> simp [R4i] at h ⊢ <;> omega
def put3n (a:Act) (s1 s2 s3:Nat) (v1 v2 v3:Value):Act:={ a with tmps:=((a.tmps.setIfInBounds s1 v1).setIfInBounds s2 v2).setIfInBounds s3 v3 }
def adB (p:Mx) (n:Nat) (set:List Int):Bool:=!(p.f.any (fl (inF n set))) && !(p.a.ed.any fun x=>fl (inF n set) x.f && !fl (inF n set) x.t && fl (inF 32 p.u) x.e) && !(set.any fun s=>decide (gI (dsS p.a.ed (inF n set) p.a.ma).1 s < 0))
def RetAd (q:Bool) (w:World) (e:Ending) (w':World):Prop:=e = .returned (.tuple #[.bool q,.int .i64 0])∧Below w.heap.size w w'
set_option maxRecDepth 100000 in
set_option maxHeartbeats 6400000 in
theorem max_Admissible (z:PB) (n:Nat) (S:Option Addr) (cs ns:Nat) (set:List Int) (w:World) (h:z.ok w w.heap.size) (hm:z.m.ok) (hn:z.x.a.st = (n:Int)) (hsl:set.length = ns) (hS:RdI w w.heap.size S set) (hs1:ns ≤ cs) (hs2:cs ≤ 9223372036854775807) (hse:setErr set (n:Int) = 0) (hsr:∀ t ∈ set,0 ≤ t∧t < (n:Int)) :
  Calls Try.prog 27 #[.agg (pbc z).toArray,.slice S ns cs] w (RetAd (adB z.m n set) w):=by
 have hn4:n ≤ 4096:=by have h1:=hm.wf.st1;have e:z.m.a.st = z.x.a.st:=rfl;omega
 have HC:=Lib.hid (fun (W:World) (h9:z.ok W W.heap.size)=>max_Check z W h9 hm)
 have HH:=Lib.hid (fun (W:World) (h9:z.ok W W.heap.size)=>max_hard z W h9 hm)
 have HI:=Lib.hid (fun (W:World) (h9:z.ok W W.heap.size)=>max_into z.x W h9.x hm.wf)
 have hb1:=box_below w (.cells (pbc z).toArray 34)
 have kx:=Blk.new w 34 (pbc z)
 obtain ⟨w1,hw1⟩:∃ w1,w1 = w.alloc (.cells (pbc z).toArray 34):=⟨_,rfl⟩
 rw [← hw1] at hb1 kx
 have HZ:=Lib.hid (fun (W:World) (hb:Below w1.heap.size w1 W)=>(h.below (hb1.trans (hb.mono hb1.size))).more (hb1.trans (hb.mono hb1.size)).size)
 have HSX:=Lib.hid (fun (W:World) (hb:Below w1.heap.size w1 W)=>(hS.below (hb1.trans (hb.mono hb1.size))).more (hb1.trans (hb.mono hb1.size)).size)
 have HK:=Lib.hid (fun (W:World) (hb:Below w1.heap.size w1 W)=>kx.below hb kx.lt)
 have HB:=Lib.hid (fun (W:World) (hb:Below w1.heap.size w1 W)=>hb1.trans (hb.mono hb1.size))
 have HW1:=Lib.hid (show w.alloc (.cells (pbc z).toArray 34) = w1 from hw1.symm)
 have HM:=Lib.hid hm
 have HN:=Lib.hid hn
 have HFL:=Lib.hid (fun (W:World) (hb:Below w1.heap.size w1 W)=>max_flags n S cs ns set W hn4 hsl (HSX.out W hb) hsr hs1 hs2)
 have HCS:=Lib.hid (fun (W:World) (hb:Below w1.heap.size w1 W)=>alphabet_CheckSet_n S cs ns set n 0 W hsl hse (HSX.out W hb) hs1 hs2)
 have HDI:=Lib.hid (fun (o m:Nat) (g:Int → Option Hd) (B:Nat) (w0 W:World) (hx:z.x.ok W W.heap.size) {ib:Nat} (hib:Blk W ib 4 (bvl (inF n set))) (hI:InM B w0 W o m z.x.a.ed g)=>max_distances z.x ib n o m (inF n set) g B w0 W hx hm.wf hn (inF_len _ _) hib hI)
 have HDL:=Lib.hid ((dsS_spec (es:=z.x.a.ed) (N:=inF n set) (ma:=z.x.a.ma) (fun x hx=>by rw [inF_len];have h9:=hm.wf.ev_rng hx;have e:z.m.a.st = z.x.a.st:=rfl;omega) (fun s hs=>by rw [inF_len,← hn];exact hm.wf.mrng s hs) (hm.wf.minc.imp (fun h=>by omega))).1.trans (inF_len n set))
 have HSL:=Lib.hid hsl
 have HRG:=Lib.hid (show ∀ x ∈ z.x.a.ed,(0 ≤ x.f∧x.f < (n:Int))∧(0 ≤ x.t∧x.t < (n:Int))∧(0 ≤ x.e∧x.e < 32) from fun x hx=>by
  have h1:=hm.wf.ev_rng hx
  have e:z.m.a.st = z.x.a.st:=rfl
  omega)
 have HSR:=Lib.hid hsr
 obtain ⟨q,hq⟩:∃ q,adB z.m n set = q:=⟨_,rfl⟩
 have HQ:=Lib.hid hq
 have HPV:=Lib.hid (show pbc z = [.slice z.x.A z.x.na z.x.ca,.int .i64 z.x.a.st,.slice z.x.M z.x.nm z.x.cm,.slice z.x.E z.x.ne z.x.ce,.slice z.u.A z.u.n z.u.c,.slice z.f.A z.f.n z.f.c] from rfl)
 rw [HPV.out] at HC HH HW1 HK ⊢
 rw [hn] at HC HH HW1 HK HI HDI ⊢
 rw [hq]
 clear hb1 kx hw1 h hm hn hsl hS hse hsr hq
 obtain ⟨⟨a0,a1,a2,a3,a4⟩,a5⟩:=Blk.c6 (HK.out w1 (Below.refl _ _))
 go_enter Try.func27,Try.ntmps27
 go_upto_region 1 with fail
 rw [HW1.out]
 go_wp2_with fail
 refine (HC.out w1 (HZ.out w1 (Below.refl _ _))).mono ?_
 rintro _ w3 ⟨rfl,hb3⟩
 have HB3:=Lib.hid hb3
 clear a0 a1 a2 a3 a4 a5 HC hb3
 obtain ⟨⟨a0,a1,a2,a3,a4⟩,a5⟩:=Blk.c6 (HK.out w3 HB3.out)
 go_upto_region 5 with fail
 clear a0 a1 a2 a3 a4 a5
 have hba:=box_below w3 (.cells #[.slice z.x.A z.x.na z.x.ca,.int .i64 (n:Int),.slice z.x.M z.x.nm z.x.cm,.slice z.x.E z.x.ne z.x.ce] 32)
 have ka:=Blk.new w3 32 [.slice z.x.A z.x.na z.x.ca,.int .i64 (n:Int),.slice z.x.M z.x.nm z.x.cm,.slice z.x.E z.x.ne z.x.ce]
 have HB4:=Lib.hid (HB3.out.trans (hba.mono HB3.out.size))
 obtain ⟨ba,hbae⟩:∃ b,w3.heap.size = b:=⟨_,rfl⟩
 rw [hbae] at ka ⊢
 have ka':Blk (w3.alloc (.cells #[.slice z.x.A z.x.na z.x.ca,.int .i64 (n:Int),.slice z.x.M z.x.nm z.x.cm,.slice z.x.E z.x.ne z.x.ce] 32)) ba 32 [.slice z.x.A z.x.na z.x.ca,.int .i64 (n:Int),.slice z.x.M z.x.nm z.x.cm,.slice z.x.E z.x.ne z.x.ce]:=ka
 clear hba ka HB3 hbae
 generalize w3.alloc (.cells #[.slice z.x.A z.x.na z.x.ca,.int .i64 (n:Int),.slice z.x.M z.x.nm z.x.cm,.slice z.x.E z.x.ne z.x.ce] 32) = w5 at ka' HB4 ⊢
 have HKA:=Lib.hid (fun (W:World) (hb:Below w5.heap.size w5 W)=>ka'.below hb ka'.lt)
 have H15:=Lib.hid (fun (W:World) (hb:Below w5.heap.size w5 W)=>HB4.out.trans (hb.mono HB4.out.size))
 clear ka' HB4
 obtain ⟨a0,a1,a2,a3⟩:=Blk.c4 (HKA.out w5 (Below.refl _ _))
 go_wp2_with fail
 refine (HCS.out w5 (H15.out w5 (Below.refl _ _))).mono ?_
 rintro _ w6 ⟨rfl,rfl⟩
 clear HCS
 go_upto_region 8 with fail
 clear a0 a1 a2 a3
 go_cut [9,10] from 11 (fun s9 s10 wx=>∃ (V1 V2:Value) (p1 p2:Nat),s9 = .pointer (some ⟨p1,0,none⟩)∧s10 = .pointer (some ⟨p2,0,none⟩)∧Hid (PtG w5 (FlgV w5 n (inF n set)) (FlgV w5 32 (inF 32 z.u.l)) (.slice none 0 0) (.slice none 0 0) 87 87 true true true true true true V1 V2 p1 p2 wx))
 case first =>
  refine wp_region_U (fun W=>C4 W ba (.slice z.x.A z.x.na z.x.ca) (.int .i64 (n:Int)) (.slice z.x.M z.x.nm z.x.cm) (.slice z.x.E z.x.ne z.x.ce)∧(C5 W w.heap.size (.slice z.x.A z.x.na z.x.ca) (.int .i64 (n:Int)) (.slice z.x.M z.x.nm z.x.cm) (.slice z.x.E z.x.ne z.x.ce) (.slice z.u.A z.u.n z.u.c)∧W.cell? ⟨w.heap.size,5,none⟩ = some (.slice z.f.A z.f.n z.f.c))) (fun _=>True) 9 (by kernel_rfl) ?_
  change anyU _ _ _ _ _ _ _ 10 _ _ _
  have hB0:True:=trivial
  have HBD:=Lib.hid (below_dr w5)
  have HSA:=Lib.hid (FlgV.st w5 n (inF n set) (t1:=87) (t2:=87) (by decide) (by decide))
  have HSB:=Lib.hid (FlgV.st w5 32 (inF 32 z.u.l) (t1:=87) (t2:=87) (by decide) (by decide))
  generalize w5.drew = wd at HBD ⊢
  have hA0:=And.intro (Blk.c4 (HKA.out wd HBD.out)) (Blk.c6 (HK.out wd (H15.out wd HBD.out)))
  (refine uA 0 ?_ rfl hA0 hB0 (fun W hA=>?_) ?_;rotate_left;(· (obtain ⟨⟨a0,a1,a2,a3⟩,_⟩:=hA;go_simp;try with_reducible rfl));(try simp only [Act.put,List.setIfInBounds_toArray,List.set_cons_zero,List.set_cons_succ]))
  (refine uA 1 ?_ rfl hA0 hB0 (fun W hA=>?_) ?_;rotate_left;(· (obtain ⟨⟨a0,a1,a2,a3⟩,_⟩:=hA;go_simp;try with_reducible rfl));(try simp only [Act.put,List.setIfInBounds_toArray,List.set_cons_zero,List.set_cons_succ]))
  (refine uA 2 ?_ rfl hA0 hB0 (fun W hA=>?_) ?_;rotate_left;(· (obtain ⟨⟨a0,a1,a2,a3⟩,_⟩:=hA;go_simp;try with_reducible rfl));(try simp only [Act.put,List.setIfInBounds_toArray,List.set_cons_zero,List.set_cons_succ]))
  (refine uA 4 ?_ rfl hA0 hB0 (fun W hA=>?_) ?_;rotate_left;(· (obtain ⟨_,⟨a0,a1,a2,a3,a4⟩,a5⟩:=hA;go_simp;try with_reducible rfl));(try simp only [Act.put,List.setIfInBounds_toArray,List.set_cons_zero,List.set_cons_succ]))
  refine anyI_at (I:=fun a0 f L a' W=>∃ (d1 d2 b1 b2 b3 b4:Bool) (V1 V2:Value) (p1 p2:Nat) (v9 v10 v29 v31:Value),L = #[true,true,true,d1,true,d2,b1,b2,b3,b4]∧f + d1.toNat + d2.toNat + b1.toNat + b2.toNat + b3.toNat + b4.toNat = 6∧(d2 = true → d1 = true)∧(b3 = true → d1 = true∧d2 = true∧b1 = true∧b2 = true)∧(b4 = true → d1 = true∧d2 = true∧b1 = true∧b2 = true∧b3 = true)∧(d1 = true → v29 = V1)∧(d2 = true → v31 = V2)∧(b1 = true → v9 = .pointer (some ⟨p1,0,none⟩))∧(b2 = true → v10 = .pointer (some ⟨p2,0,none⟩))∧a' = put4n a0 9 10 29 31 v9 v10 v29 v31∧Hid (PtG w5 (FlgV w5 n (inF n set)) (FlgV w5 32 (inF 32 z.u.l)) (.slice none 0 0) (.slice none 0 0) 87 87 d1 d2 b1 b2 b3 b4 V1 V2 p1 p2 W)) ?_ ?_
  ·exact ⟨false,false,false,false,false,false,undef,undef,0,0,undef,undef,undef,undef,rfl,rfl,(by simp),(by simp),(by simp),(by simp),(by simp),(by simp),(by simp),rfl,Lib.hid ⟨HBD.out,(by simp),(by simp),(by simp),(by simp),(by simp)⟩⟩
  ·clear HBD hA0
   rintro f L a' W ⟨d1,d2,b1,b2,b3,b4,V1,V2,p1,p2,v6,v7,v30,v32,rfl,hf,g1,g2,g3,g4,g5,g6,g7,rfl,HD⟩
   simp only [put4n,List.setIfInBounds_toArray,List.set_cons_succ,List.set_cons_zero]
   refine ⟨⟨And.intro (Blk.c4 (HKA.out W HD.out.bel)) (Blk.c6 (HK.out W (H15.out W HD.out.bel))),fun _=>trivial⟩,R6i 3 5 6 7 8 9 d1 d2 b1 b2 b3 b4,?_,?_,?_,?_⟩
   ·clear HD g4 g5 g6 g7 hf
    cases d1 <;> cases d2 <;> cases b1 <;> cases b2 <;> cases b3 <;> cases b4 <;> first | (exfalso;revert g1 g2 g3;simp;done) | kernel_rfl
   ·intro hr0
    have:d1 = true∧d2 = true∧b1 = true∧b2 = true∧b3 = true∧b4 = true:=by
     clear HD g4 g5 g6 g7 hf
     revert g1 g2 g3 hr0
     cases d1 <;> cases d2 <;> cases b1 <;> cases b2 <;> cases b3 <;> cases b4 <;> simp [R6i]
    obtain ⟨rfl,rfl,rfl,rfl,rfl,rfl⟩:=this
    obtain rfl:=g6 rfl
    obtain rfl:=g7 rfl
    clear g1 g2 g3 g4 g5 g6 g7 hf hr0
    go_wp2_with fail
    go_meet
    case rel=>exact ⟨V1,V2,p1,p2,rfl,rfl,HD⟩
   ·intro h0
    have:d1 = true∧d2 = true∧b1 = true∧b2 = true∧b3 = true∧b4 = true:=by
     clear HD g4 g5 g6 g7
     subst h0
     revert g1 g2 g3 hf
     cases d1 <;> cases d2 <;> cases b1 <;> cases b2 <;> cases b3 <;> cases b4 <;> simp
    obtain ⟨rfl,rfl,rfl,rfl,rfl,rfl⟩:=this
    rfl
   ·rintro i hi g rfl
    rcases R6i_mem hi with ⟨rfl,rfl⟩ | ⟨rfl,rfl,rfl⟩ | ⟨rfl,rfl⟩ | ⟨rfl,rfl⟩ | ⟨rfl,rfl,rfl,rfl,rfl,rfl⟩ | ⟨rfl,rfl,rfl,rfl,rfl,rfl,rfl⟩
    ·have h3:b3 = false:=by cases b3 with | false=>rfl | true=>exact absurd (g2 rfl).1 (by simp)
     have h4:b4 = false:=by cases b4 with | false=>rfl | true=>exact absurd (g3 rfl).1 (by simp)
     refine wpOp_at (i:=3) rfl (fun K hK=>?_)
     go_simp
     go_at_call 39
     refine (HFL.out W (H15.out W HD.out.bel)).mono ?_
     rintro e w9 ⟨b,rfl,hk,hl,hb⟩
     go_simp
     exact hK _ _ ⟨true,d2,b1,b2,b3,b4,_,V2,p1,p2,v6,v7,_,v32,rfl,(by simp only [Bool.toNat_true,Bool.toNat_false] at hf ⊢;omega),(fun _=>rfl),(fun h=>absurd h (by simp [h3])),(fun h=>absurd h (by simp [h4])),(fun _=>rfl),g5,g6,g7,rfl,Lib.hid (HD.out.c1 HSA.out HSB.out h3 hb ⟨b,rfl,hk,Nat.le_trans HD.out.bel.size hl⟩)⟩
    ·have h3:b3 = false:=by cases b3 with | false=>rfl | true=>exact absurd (g2 rfl).2.1 (by simp)
     have h4:b4 = false:=by cases b4 with | false=>rfl | true=>exact absurd (g3 rfl).2.1 (by simp)
     obtain rfl:=g4 rfl
     refine wpOp_at (i:=5) rfl (fun K hK=>?_)
     go_simp
     go_at_call 38
     refine (HH.out W (HZ.out W (H15.out W HD.out.bel))).mono ?_
     rintro e w9 ⟨b,rfl,hk,hl,hb⟩
     go_simp
     exact hK _ _ ⟨true,true,b1,b2,b3,b4,_,_,p1,p2,v6,v7,_,_,rfl,(by simp only [Bool.toNat_true,Bool.toNat_false] at hf ⊢;omega),(fun _=>rfl),(fun h=>absurd h (by simp [h3])),(fun h=>absurd h (by simp [h4])),(fun _=>rfl),(fun _=>rfl),g6,g7,rfl,Lib.hid (HD.out.c2 HSA.out HSB.out h4 hb ⟨b,rfl,hk,Nat.le_trans HD.out.bel.size hl⟩)⟩
    ·have h3:b3 = false:=by cases b3 with | false=>rfl | true=>exact absurd (g2 rfl).2.2.1 (by simp)
     have h4:b4 = false:=by cases b4 with | false=>rfl | true=>exact absurd (g3 rfl).2.2.1 (by simp)
     refine wpOp_at (i:=6) rfl (fun K hK=>?_)
     go_simp
     exact hK _ _ ⟨d1,d2,true,b2,b3,b4,V1,V2,W.heap.size,p2,_,v7,v30,v32,rfl,(by simp only [Bool.toNat_true,Bool.toNat_false] at hf ⊢;omega),g1,(fun h=>absurd h (by simp [h3])),(fun h=>absurd h (by simp [h4])),g4,g5,(fun _=>rfl),g7,rfl,Lib.hid (HD.out.a1 HSA.out HSB.out h3)⟩
    ·have h3:b3 = false:=by cases b3 with | false=>rfl | true=>exact absurd (g2 rfl).2.2.2 (by simp)
     have h4:b4 = false:=by cases b4 with | false=>rfl | true=>exact absurd (g3 rfl).2.2.2.1 (by simp)
     refine wpOp_at (i:=7) rfl (fun K hK=>?_)
     go_simp
     exact hK _ _ ⟨d1,d2,b1,true,b3,b4,V1,V2,p1,W.heap.size,v6,_,v30,v32,rfl,(by simp only [Bool.toNat_true,Bool.toNat_false] at hf ⊢;omega),g1,(fun h=>absurd h (by simp [h3])),(fun h=>absurd h (by simp [h4])),g4,g5,g6,(fun _=>rfl),rfl,Lib.hid (HD.out.a2 HSA.out HSB.out h4)⟩
    ·have h4:b4 = false:=by cases b4 with | false=>rfl | true=>exact absurd (g3 rfl).2.2.2.2 (by simp)
     subst h4
     obtain ⟨b9,he9,_⟩:=HD.out.k1 rfl
     subst he9
     obtain rfl:=g4 rfl
     obtain rfl:=g5 rfl
     obtain rfl:=g6 rfl
     obtain rfl:=g7 rfl
     have c0:=(HD.out.m1 rfl).1.cell (j:=0) rfl
     have f0:=(HD.out.m1 rfl).1.free 0
     have l0:=(HD.out.m1 rfl).1.lt
     refine wpOp_at (i:=8) rfl (fun K hK=>?_)
     go_simp
     exact hK _ _ ⟨true,true,true,true,true,false,_,_,p1,p2,_,_,_,_,rfl,(by simp only [Bool.toNat_true,Bool.toNat_false] at hf ⊢;omega),g1,(fun _=>⟨rfl,rfl,rfl,rfl⟩),(fun h=>by cases h),(fun _=>rfl),(fun _=>rfl),(fun _=>rfl),(fun _=>rfl),rfl,Lib.hid (HD.out.s1 HSA.out HSB.out)⟩
    ·obtain ⟨b9,he9,_⟩:=HD.out.k2 rfl
     subst he9
     obtain rfl:=g4 rfl
     obtain rfl:=g5 rfl
     obtain rfl:=g6 rfl
     obtain rfl:=g7 rfl
     have c0:=(HD.out.m2 rfl).1.cell (j:=0) rfl
     have f0:=(HD.out.m2 rfl).1.free 0
     have l0:=(HD.out.m2 rfl).1.lt
     refine wpOp_at (i:=9) rfl (fun K hK=>?_)
     go_simp
     exact hK _ _ ⟨true,true,true,true,true,true,_,_,p1,p2,_,_,_,_,rfl,(by simp only [Bool.toNat_true,Bool.toNat_false] at hf ⊢;omega),g1,(fun _=>⟨rfl,rfl,rfl,rfl⟩),(fun _=>⟨rfl,rfl,rfl,rfl,rfl⟩),(fun _=>rfl),(fun _=>rfl),(fun _=>rfl),(fun _=>rfl),rfl,Lib.hid (HD.out.s2 HSA.out HSB.out)⟩
 case rest =>
  obtain ⟨V1,V2,p1,p2,rfl,rfl,HD⟩:=hcut
  obtain ⟨hm1,hp1⟩:=HD.out.m1 rfl
  obtain ⟨hm2,hp2⟩:=HD.out.m2 rfl
  rw [if_pos rfl] at hm1 hm2
  obtain ⟨fb,rfl,hkf,hfb⟩:=HD.out.k1 rfl
  obtain ⟨cb,rfl,hkc,hcb⟩:=HD.out.k2 rfl
  have HBC:=Lib.hid HD.out.bel
  obtain ⟨w7,rfl⟩:∃ w7,w7 = wc:=⟨_,rfl⟩
  have HM1:=Lib.hid (fun (W:World) (hb:Below w7.heap.size w7 W)=>hm1.below hb hm1.lt)
  have HM2:=Lib.hid (fun (W:World) (hb:Below w7.heap.size w7 W)=>hm2.below hb hm2.lt)
  have HKF:=Lib.hid (fun (W:World) (hb:Below w7.heap.size w7 W)=>hkf.below hb hkf.lt)
  have HKC:=Lib.hid (fun (W:World) (hb:Below w7.heap.size w7 W)=>hkc.below hb hkc.lt)
  have H57:=Lib.hid (fun (W:World) (hb:Below w7.heap.size w7 W)=>HBC.out.trans (hb.mono HBC.out.size))
  have H17:=Lib.hid (fun (W:World) (hb:Below w7.heap.size w7 W)=>H15.out W (HBC.out.trans (hb.mono HBC.out.size)))
  clear hm1 hm2 hkf hkc hp1 hp2 hfb hcb HD
  obtain ⟨q1,hq1⟩:∃ q,z.f.l.any (fl (inF n set)) = q:=⟨_,rfl⟩
  obtain ⟨q2,hq2⟩:∃ q,(z.x.a.ed.any fun x=>fl (inF n set) x.f && !fl (inF n set) x.t && fl (inF 32 z.u.l) x.e) = q:=⟨_,rfl⟩
  obtain ⟨q3,hq3⟩:∃ q,(set.any fun s=>decide (gI (dsS z.x.a.ed (inF n set) z.x.a.ma).1 s < 0)) = q:=⟨_,rfl⟩
  have HQE:=Lib.hid (show q = (!q1 && !q2 && !q3) by rw [← HQ.out,← hq1,← hq2,← hq3];rfl)
  have HF:=Lib.hid (ints_ContainsFuncB z.f.A z.f.c z.f.n z.f.l 62 (.pointer (some ⟨p1,0,none⟩)) (fl (inF n set)) q1 w7 (HZ.out w7 (H17.out w7 (Below.refl _ _))).f.la (HZ.out w7 (H17.out w7 (Below.refl _ _))).f.ra (by have h1:=(HZ.out w7 (H17.out w7 (Below.refl _ _))).f.ac;have h2:=(HZ.out w7 (H17.out w7 (Below.refl _ _))).f.cA;omega) (fun _ _=>rfl) (fun x hx W hb=>(max_adm1 p1 fb n (inF n set) x W (HM1.out W hb) (HKF.out W hb) (inF_len _ _) (HM.out.frng x hx).1 (by have h1:=(HM.out.frng x hx).2;have e:z.m.a.st = z.x.a.st:=rfl;have h2:=HN.out;omega) _ rfl).mono (fun e w' h9=>⟨h9.1,h9.2 ▸ Below.refl _ _⟩)) hq1)
  have HE:=Lib.hid (fun (W:World) (hb:Below w7.heap.size w7 W)=>edgs_ContainsFuncC z.x.E z.x.ce z.x.ne z.x.a.ed 64 (.pointer (some ⟨p1,0,none⟩)) (.pointer (some ⟨p2,0,none⟩)) (fun x=>fl (inF n set) x.f && !fl (inF n set) x.t && fl (inF 32 z.u.l) x.e) q2 W (HZ.out W (H17.out W hb)).x.le (HZ.out W (H17.out W hb)).x.re (by have h1:=(HZ.out W (H17.out W hb)).x.ec;have h2:=(HZ.out W (H17.out W hb)).x.cE;omega) (fun _ _=>rfl) (fun x hx V hv=>max_adm2 p1 fb p2 cb n (inF n set) (inF 32 z.u.l) x V (HM1.out V (hb.trans (hv.mono hb.size))) (HKF.out V (hb.trans (hv.mono hb.size))) (inF_len _ _) (HM2.out V (hb.trans (hv.mono hb.size))) (HKC.out V (hb.trans (hv.mono hb.size))) (inF_len _ _) (HRG.out x hx).1 (HRG.out x hx).2.1 (HRG.out x hx).2.2) hq2)
  clear hq1 hq2
  obtain ⟨⟨a0,a1,a2,a3,a4⟩,a5⟩:=Blk.c6 (HK.out w7 (H17.out w7 (Below.refl _ _)))
  go_wp2_with fail
  refine HF.out.mono ?_
  rintro _ w8 ⟨rfl,hb8⟩
  have HB8:=Lib.hid hb8
  clear a0 a1 a2 a3 a4 a5 HF hb8
  cases q1 with
  | true =>
   go_wp2
   go_ret2
   exact ⟨by rw [HQE.out];rfl,HB.out _ (H17.out _ HB8.out)⟩
  | false =>
   obtain ⟨a0,a1,a2,a3⟩:=Blk.c4 (HKA.out w8 (H57.out w8 HB8.out))
   go_wp2_with fail
   refine (HE.out w8 HB8.out).mono ?_
   rintro _ w9 ⟨rfl,hb9⟩
   have HB9:=Lib.hid (HB8.out.trans (hb9.mono HB8.out.size))
   clear a0 a1 a2 a3 HE hb9 HB8
   cases q2 with
   | true =>
    go_wp2
    go_ret2
    exact ⟨by rw [HQE.out];rfl,HB.out _ (H17.out _ HB9.out)⟩
   | false =>
    go_upto_region 13 with fail
    have H79:=Lib.hid (fun (W:World) (hb:Below w9.heap.size w9 W)=>HB9.out.trans (hb.mono HB9.out.size))
    go_cut [11] from 12 (fun s11 wx=>∃ (V1 V2:Value) (p3:Nat),s11 = .pointer (some ⟨p3,0,none⟩)∧Hid (PtG w9 (IntoV w9 z.x.a.ed) (DsV w9 (dsS z.x.a.ed (inF n set) z.x.a.ma).1 n) (.slice none 0 0) (.slice none 0 0) 29 29 true true false true false true V1 V2 0 p3 wx))
    case first =>
     refine wp_region_U (fun W=>C4 W ba (.slice z.x.A z.x.na z.x.ca) (.int .i64 (n:Int)) (.slice z.x.M z.x.nm z.x.cm) (.slice z.x.E z.x.ne z.x.ce)∧W.cell? ⟨p1,0,none⟩ = some (.slice (some ⟨fb,0,none⟩) n n)) (fun _=>True) 6 (by kernel_rfl) ?_
     change anyU _ _ _ _ _ _ _ 7 _ _ _
     have hB0:True:=trivial
     have HBD:=Lib.hid (below_dr w9)
     have HSA:=Lib.hid (IntoV.st2 w9 z.x.a.ed)
     have HSB:=Lib.hid (DsV.st w9 (dsS z.x.a.ed (inF n set) z.x.a.ma).1 n)
     have HA9:=Lib.hid (fun (W:World) (hb:Below w9.heap.size w9 W)=>And.intro (Blk.c4 (HKA.out W (H57.out W (H79.out W hb)))) ((HM1.out W (H79.out W hb)).cell (j:=0) rfl))
     generalize w9.drew = wd at HBD ⊢
     have hA0:=HA9.out wd HBD.out
     (refine uA 0 ?_ rfl hA0 hB0 (fun W hA=>?_) ?_;rotate_left;(· (obtain ⟨⟨a0,a1,a2,a3⟩,_⟩:=hA;go_simp;try with_reducible rfl));(try simp only [Act.put,List.setIfInBounds_toArray,List.set_cons_zero,List.set_cons_succ]))
     (refine uA 1 ?_ rfl hA0 hB0 (fun W hA=>?_) ?_;rotate_left;(· (obtain ⟨_,a0⟩:=hA;go_simp;try with_reducible rfl));(try simp only [Act.put,List.setIfInBounds_toArray,List.set_cons_zero,List.set_cons_succ]))
     (refine uA 2 ?_ rfl hA0 hB0 (fun W hA=>?_) ?_;rotate_left;(· (obtain ⟨⟨a0,a1,a2,a3⟩,_⟩:=hA;go_simp;try with_reducible rfl));(try simp only [Act.put,List.setIfInBounds_toArray,List.set_cons_zero,List.set_cons_succ]))
     refine anyI_at (I:=fun a0 f L a' W=>∃ (d1 d2 b2 b4:Bool) (V1 V2:Value) (p3:Nat) (v11 v43 v44:Value),L = #[true,true,true,d1,d2,b2,b4]∧f + d1.toNat + d2.toNat + b2.toNat + b4.toNat = 4∧(d2 = true → d1 = true)∧(b4 = true → d1 = true∧d2 = true∧b2 = true)∧(d1 = true → v43 = V1)∧(d2 = true → v44 = V2)∧(b2 = true → v11 = .pointer (some ⟨p3,0,none⟩))∧a' = put3n a0 11 43 44 v11 v43 v44∧Hid (PtG w9 (IntoV w9 z.x.a.ed) (DsV w9 (dsS z.x.a.ed (inF n set) z.x.a.ma).1 n) (.slice none 0 0) (.slice none 0 0) 29 29 d1 d2 false b2 false b4 V1 V2 0 p3 W)) ?_ ?_
     ·exact ⟨false,false,false,false,undef,undef,0,u11,u43,u44,rfl,rfl,(by simp),(by simp),(by simp),(by simp),(by simp),rfl,Lib.hid ⟨HBD.out,(by simp),(by simp),(by simp),(by simp),(by simp)⟩⟩
     ·clear HBD hA0
      rintro f L a' W ⟨d1,d2,b2,b4,V1,V2,p3,v6,v30,v32,rfl,hf,g1,g2,g4,g5,g6,rfl,HD⟩
      simp only [put3n,List.setIfInBounds_toArray,List.set_cons_succ,List.set_cons_zero]
      refine ⟨⟨HA9.out W HD.out.bel,fun _=>trivial⟩,R4i 3 4 5 6 d1 d2 b2 b4,?_,?_,?_,?_⟩
      ·clear HD g4 g5 g6 hf
       cases d1 <;> cases d2 <;> cases b2 <;> cases b4 <;> first | (exfalso;revert g1 g2;simp;done) | kernel_rfl
      ·intro hr0
       have:d1 = true∧d2 = true∧b2 = true∧b4 = true:=by
        clear HD g4 g5 g6 hf
        revert g1 g2 hr0
        cases d1 <;> cases d2 <;> cases b2 <;> cases b4 <;> simp [R4i]
       obtain ⟨rfl,rfl,rfl,rfl⟩:=this
       obtain rfl:=g6 rfl
       clear g1 g2 g4 g5 g6 hf hr0
       go_wp2_with fail
       go_meet
       case rel=>exact ⟨V1,V2,p3,rfl,HD⟩
      ·intro h0
       have:d1 = true∧d2 = true∧b2 = true∧b4 = true:=by
        clear HD g4 g5 g6
        subst h0
        revert g1 g2 hf
        cases d1 <;> cases d2 <;> cases b2 <;> cases b4 <;> simp
       obtain ⟨rfl,rfl,rfl,rfl⟩:=this
       rfl
      ·rintro i hi g rfl
       rcases R4i_mem hi with ⟨rfl,rfl⟩ | ⟨rfl,rfl,rfl⟩ | ⟨rfl,rfl⟩ | ⟨rfl,rfl,rfl,rfl,rfl⟩
       ·have h4:b4 = false:=by cases b4 with | false=>rfl | true=>exact absurd (g2 rfl).1 (by simp)
        refine wpOp_at (i:=3) rfl (fun K hK=>?_)
        go_simp
        go_at_call 37
        refine (HI.out W (HZ.out W (H17.out W (H79.out W HD.out.bel)))).mono ?_
        rintro e w9x ⟨o,m,g9,rfl,hi9⟩
        go_simp
        exact hK _ _ ⟨true,d2,b2,b4,_,V2,p3,v6,_,v32,rfl,(by simp only [Bool.toNat_true,Bool.toNat_false] at hf ⊢;omega),(fun _=>rfl),(fun h=>absurd h (by simp [h4])),(fun _=>rfl),g5,g6,rfl,Lib.hid (HD.out.c1 HSA.out HSB.out rfl hi9.bel ⟨o,m,g9,rfl,hi9.base HD.out.bel HD.out.bel.size⟩)⟩
       ·have h4:b4 = false:=by cases b4 with | false=>rfl | true=>exact absurd (g2 rfl).2.1 (by simp)
        obtain rfl:=g4 rfl
        obtain ⟨o9,m9,g9,he9,hin9⟩:=HD.out.k1 rfl
        subst he9
        refine wpOp_at (i:=4) rfl (fun K hK=>?_)
        go_simp
        go_at_call 43
        refine (HDI.out o9 m9 g9 w9.heap.size w9 W (HZ.out W (H17.out W (H79.out W HD.out.bel))).x (HKF.out W (H79.out W HD.out.bel)) hin9).mono ?_
        rintro e w9x ⟨b,rfl,hk,hl,hb⟩
        go_simp
        exact hK _ _ ⟨true,true,b2,b4,_,_,p3,v6,_,_,rfl,(by simp only [Bool.toNat_true,Bool.toNat_false] at hf ⊢;omega),(fun _=>rfl),(fun h=>absurd h (by simp [h4])),(fun _=>rfl),(fun _=>rfl),g6,rfl,Lib.hid (HD.out.c2 HSA.out HSB.out h4 hb ⟨b,rfl,hk,Nat.le_trans HD.out.bel.size hl⟩)⟩
       ·have h4:b4 = false:=by cases b4 with | false=>rfl | true=>exact absurd (g2 rfl).2.2 (by simp)
        refine wpOp_at (i:=5) rfl (fun K hK=>?_)
        go_simp
        exact hK _ _ ⟨d1,d2,true,b4,V1,V2,W.heap.size,_,v30,v32,rfl,(by simp only [Bool.toNat_true,Bool.toNat_false] at hf ⊢;omega),g1,(fun h=>absurd h (by simp [h4])),g4,g5,(fun _=>rfl),rfl,Lib.hid (HD.out.a2 HSA.out HSB.out h4)⟩
       ·obtain ⟨b9,he9,_⟩:=HD.out.k2 rfl
        subst he9
        obtain rfl:=g4 rfl
        obtain rfl:=g5 rfl
        obtain rfl:=g6 rfl
        have c0:=(HD.out.m2 rfl).1.cell (j:=0) rfl
        have f0:=(HD.out.m2 rfl).1.free 0
        have l0:=(HD.out.m2 rfl).1.lt
        refine wpOp_at (i:=6) rfl (fun K hK=>?_)
        go_simp
        exact hK _ _ ⟨true,true,true,true,_,_,p3,_,_,_,rfl,(by simp only [Bool.toNat_true,Bool.toNat_false] at hf ⊢;omega),g1,(fun _=>⟨rfl,rfl,rfl⟩),(fun _=>rfl),(fun _=>rfl),(fun _=>rfl),rfl,Lib.hid (PtG.s2n HSA.out HSB.out HD.out)⟩
    case rest =>
     obtain ⟨V1,V2,p3,rfl,HD⟩:=hcut
     obtain ⟨hm3,hp3⟩:=HD.out.m2 rfl
     rw [if_pos rfl] at hm3
     obtain ⟨ob,rfl,hkd,_⟩:=HD.out.k2 rfl
     have HBC9:=Lib.hid HD.out.bel
     obtain ⟨wt,rfl⟩:∃ wt,wt = wc:=⟨_,rfl⟩
     have HIN:=Lib.hid (ints_ContainsFuncB S cs ns set 65 (.pointer (some ⟨p3,0,none⟩)) (fun s=>decide (gI (dsS z.x.a.ed (inF n set) z.x.a.ma).1 s < 0)) q3 wt HSL.out (HSX.out wt (H17.out wt (H79.out wt HBC9.out))) (by omega) (fun _ _=>rfl) (fun x hx W hb=>(max_adm3 p3 ob n (dsS z.x.a.ed (inF n set) z.x.a.ma).1 x W (hm3.below hb hm3.lt) (hkd.below hb hkd.lt) HDL.out (HSR.out x hx).1 (HSR.out x hx).2 _ rfl).mono (fun e w' h9=>⟨h9.1,h9.2 ▸ Below.refl _ _⟩)) hq3)
     clear hm3 hp3 hkd HD hq3
     go_wp2_with fail
     refine HIN.out.mono ?_
     rintro _ we ⟨rfl,hbe⟩
     have HBE:=Lib.hid (HBC9.out.trans (hbe.mono HBC9.out.size))
     clear HIN hbe
     go_wp2
     go_ret2
     exact ⟨by rw [HQE.out];cases q3 <;> rfl,HB.out _ (H17.out _ (H79.out _ HBE.out))⟩
end Go.Proofs.Ytdnmpndnpfklcaa
