/- Walks: reach.Restrict. -/
import Derived.Test.YtdnmpndnpfklcaaBj
namespace Go.Proofs.Ytdnmpndnpfklcaa
open Go.RowKit Go Go.Maps
attribute [local go_sem] Oper.semAt_some
theorem QRow.down {W:World} {b b' n:Nat} {v:Value} {l:List Int} (h:QRow W b v n l) (hb:b' ≤ b):QRow W b' v n l:=by
 obtain ⟨h1,h2⟩:=h
 refine ⟨h1,h2.imp id ?_⟩
 rintro ⟨g,q,cap,cs,h3,h4,h5⟩
 exact ⟨g,q,cap,cs,h3,Nat.le_trans hb h4,h5⟩
structure AutQ (w:World) (b:Nat) (x:AV):Prop where
 oa:QRow w b (.slice x.A x.na x.ca) x.na x.a.al
 om:QRow w b (.slice x.M x.nm x.cm) x.nm x.a.ma
 le:x.a.ed.length = x.ne
 oe:w.ownsRow b 67 3 (.slice x.E x.ne x.ce) x.ne (x.a.ed.flatMap edc)
section
variable {w w':World} {b b':Nat} {x:AV}
theorem AutQ.ok (h:AutQ w b x):x.ok w w.heap.size:=by
 obtain ⟨r1,r2,r3,r4⟩:=h.oa.rdi
 obtain ⟨r5,r6,r7,r8⟩:=h.om.rdi
 exact ⟨r4,r2,r3,r1,r8,r6,r7,r5,h.le,(own_cap' h.oe).1,(own_cap' h.oe).2,RdR.of_own (by omega) (fun _ _=>rfl) h.oe⟩
theorem AutQ.down (h:AutQ w b x) (hb:b' ≤ b):AutQ w b' x:=⟨h.oa.down hb,h.om.down hb,h.le,own_base h.oe hb⟩
theorem AutQ.low (h:AutQ w b x) {r:Nat} (hg:w.grownBy w' (some r)) (hr:r < b):AutQ w' b x :=
 ⟨h.oa.kept hg (fun g e1 e2=>by have:=(h.oa.lt g e1).1;injection e2 with e2;omega),h.om.kept hg (fun g e1 e2=>by have:=(h.om.lt g e1).1;injection e2 with e2;omega),h.le,own_kept_low h.oe hg hr⟩
end
def RetAQ (a:Aut) (w:World) (e:Ending) (w':World):Prop:=∃ x:AV,e = .returned (.tuple #[.agg (avc x).toArray,.int .i64 0])∧AutQ w' w.heap.size x∧x.a = a∧Below w.heap.size w w'
def C5r (W:World) (b:Nat) (v0 v1 v2 v3 v4:Value):Prop:=W.cell? ⟨b,0,none⟩ = some v0∧W.cell? ⟨b,1,none⟩ = some v1∧W.cell? ⟨b,2,none⟩ = some v2∧W.cell? ⟨b,3,none⟩ = some v3∧W.cell? ⟨b,4,none⟩ = some v4
set_option maxRecDepth 100000 in
set_option maxHeartbeats 32000000 in
theorem reach_Restrict (x:AV) (n:Nat) (T:Option Addr) (ct nt:Nat) (tl:List Int) (w:World) (hx:x.ok w w.heap.size) (hw:WF x.a) (hn:x.a.st = (n:Int)) (htl:tl.length = nt) (hT:RdI w w.heap.size T tl) (hc1:nt ≤ ct) (hc2:ct ≤ 9223372036854775807) (hti:Inc tl) (htr:∀ s ∈ tl,0 ≤ s∧s < (n:Int)) :
  Calls Try.prog 28 #[.agg #[.slice x.A x.na x.ca,.int .i64 x.a.st,.slice x.M x.nm x.cm,.slice x.E x.ne x.ce],.slice T nt ct] w (RetAQ (rsA x.a tl) w):=by
 have hn4:n ≤ 4096:=by have:=hw.st1;omega
 obtain ⟨A,na,ca,M,nm,cm,E,ne,ce,a⟩:=x
 dsimp only at hw hn ⊢
 obtain ⟨x,hxe⟩:∃ z:AV,z = ⟨A,na,ca,M,nm,cm,E,ne,ce,a⟩:=⟨_,rfl⟩
 rw [← hxe] at hx
 have hxa:x.a = a:=by rw [hxe]
 have hst:a.st = (n:Int):=hn
 have hgc:∀ ba,grc x ba n = [.slice A na ca,.int .i64 (n:Int),.slice M nm cm,.slice E ne ce,.slice (some ⟨ba,0,none⟩) (n + 1) (n + 1)]:=fun ba=>by unfold grc;rw [hxe,← hst]
 have hbx:[.slice x.A x.na x.ca,.int .i64 (n:Int),.slice x.M x.nm x.cm,.slice x.E x.ne x.ce] = [Value.slice A na ca,.int .i64 (n:Int),.slice M nm cm,.slice E ne ce]:=by rw [hxe]
 have hag:(#[Value.slice x.A x.na x.ca,.int .i64 x.a.st,.slice x.M x.nm x.cm,.slice x.E x.ne x.ce]:Array Value) = #[.slice A na ca,.int .i64 (n:Int),.slice M nm cm,.slice E ne ce]:=by rw [hxe];dsimp only;rw [hst]
 have hna:x.na = na:=by rw [hxe]
 have hal:na ≤ 32:=by have h1:=hw.al_le;have h2:x.a.al.length = x.na:=hx.la;rw [hxa,hna] at h2;omega
 have hla:a.al.length = na:=by have h2:x.a.al.length = x.na:=hx.la;rw [hxa,hna] at h2;exact h2
 have hmr:∀ s ∈ a.ma,0 ≤ s∧s < (n:Int):=fun s hs=>by have:=hw.mrng s hs;omega
 have hmx:x.a.ma.length = x.nm∧x.nm ≤ x.cm∧x.cm ≤ 9223372036854775807:=⟨hx.lm,hx.mc,hx.cM⟩
 rw [show x.nm = nm by rw [hxe],show x.cm = cm by rw [hxe],hxa] at hmx
 rw [hn]
 have hb2:=(box_below w (.cells #[.slice A na ca,.int .i64 (n:Int),.slice M nm cm,.slice E ne ce] 32)).alloc (by simp) (.cells #[.slice none 0 0,.int .i64 0,.slice none 0 0,.slice none 0 0] 32)
 obtain ⟨w2,hw2⟩:∃ w2,w2 = (w.alloc (.cells #[.slice A na ca,.int .i64 (n:Int),.slice M nm cm,.slice E ne ce] 32)).alloc (.cells #[.slice none 0 0,.int .i64 0,.slice none 0 0,.slice none 0 0] 32):=⟨_,rfl⟩
 have k0:Blk w2 w.heap.size 32 [.slice A na ca,.int .i64 (n:Int),.slice M nm cm,.slice E ne ce]:=by rw [hw2];exact (Blk.new _ _ [_,_,_,_]).al _
 have k1:Blk w2 (w.heap.size + 1) 32 [.slice none 0 0,.int .i64 0,.slice none 0 0,.slice none 0 0]:=by rw [hw2];exact Blk.at_ _ _ [_,_,_,_] (by simp)
 rw [← hw2] at hb2
 have HX:=Lib.hid (fun (W:World) (hb:Below w.heap.size w W)=>(AutR.below hx hb).more hb.size)
 have HAX:=Lib.hid (show ∀ W,Below w.heap.size w W → AutR W W.heap.size A na ca M nm cm E ne ce a from fun W hb=>by have:=HX.out W hb;rw [hxe] at this;exact this)
 have HTX:=Lib.hid (fun (W:World) (hb:Below w.heap.size w W)=>(hT.below hb).more hb.size)
 have HCK:=Lib.hid (automaton_Check A na ca M nm cm E ne ce a w2 (HAX.out w2 hb2))
 rw [hw.chk,hn] at HCK
 have HW2:=Lib.hid hw2;clear hw2
 have HB2:=Lib.hid hb2;clear hb2
 have K0:=Lib.hid k0;clear k0
 have K1:=Lib.hid k1;clear k1
 have HXX:=Lib.hid hx;clear hx
 have HWF:=Lib.hid hw;clear hw
 have HST:=Lib.hid hst;clear hst
 have HGC:=Lib.hid hgc;clear hgc
 have HBX:=Lib.hid hbx;clear hbx
 have HXA:=Lib.hid hxa;clear hxa
 have HAG:=Lib.hid hag;clear hag
 have HNA:=Lib.hid hna;clear hna
 have HTI:=Lib.hid hti;clear hti
 have HTR:=Lib.hid htr;clear htr
 have HTL:=Lib.hid htl;clear htl
 have HMR:=Lib.hid hmr;clear hmr
 have HMX:=Lib.hid hmx;clear hmx
 have HLA:=Lib.hid hla;clear hla
 have HG0:=Lib.hid (fun (W:World) (hb:Below w2.heap.size w2 W)=>Blk.c4 (K0.out.below hb K0.out.lt))
 clear hT hn hxe
 obtain ⟨a0,a1,a2,a3⟩:=HG0.out w2 (Below.refl _ _)
 refine (callsIn_wide (n:=6)).1 ?_
 refine callsIn_of_wp_marks Try.func28 rfl trivial ?_ rfl
 simp only [Try.ntmps28,List.size_toArray,List.length_cons,List.length_nil,Nat.reduceAdd,Nat.reduceSub,Array.replicate_succ,Array.replicate_zero,List.push_toArray,List.append_toArray,List.nil_append,List.cons_append]
 refine wpIn_wide.2 ?_
 refine wp_mono ?_ noPanic_le
 go_wp2_with fail
 rw [← HW2.out]
 refine HCK.out.mono ?_
 rintro e w3 ⟨rfl,hb3⟩
 have HB3:=Lib.hid hb3
 clear a0 a1 a2 a3 HCK hb3
 obtain ⟨a0,a1,a2,a3⟩:=HG0.out w3 HB3.out
 go_wp2_with fail
 refine (reach_checkStates A na ca M nm cm E ne ce (n:Int) T ct nt tl 0 w3 HTL.out (setErr_fit HTI.out HTR.out) (HTX.out w3 (HB2.out.trans (HB3.out.mono HB2.out.size))) hc1 hc2).mono ?_
 rintro e w4 ⟨rfl,hb34⟩
 have HB4:=Lib.hid (HB3.out.trans (hb34.mono HB3.out.size))
 clear a0 a1 a2 a3 hb34
 obtain ⟨a0,a1,a2,a3⟩:=HG0.out w4 HB4.out
 go_wp2_with fail
 have HB24:=Lib.hid (HB2.out.trans (HB4.out.mono HB2.out.size))
 refine (slices_Clone_n A ca na a.al w4 HLA.out (HAX.out w4 HB24.out).ra (by omega)).mono ?_
 rintro e w5 ⟨v,rfl,ho,hb⟩
 clear a0 a1 a2 a3
 obtain ⟨VA,vc,rfl⟩:=own_shape ho
 rw [HLA.out] at ho ⊢
 go_upto_region 8 with fail
 have hbx:=box_below w5 (.cells #[.slice VA na vc,.int .i64 0,.slice none 0 0,.slice none 0 0] 32)
 have kO:=Lib.hid (Blk.new w5 32 [.slice VA na vc,.int .i64 0,.slice none 0 0,.slice none 0 0])
 have HB6:=Lib.hid (HB4.out.trans ((hb.mono HB4.out.size).trans (hbx.mono (by have:=HB4.out.size;have:=hb.size;omega))))
 have HOA:=Lib.hid (own_base (own_below ho hbx) HB24.out.size)
 have HLO:=Lib.hid (show w.heap.size + 2 ≤ w5.heap.size from by
  have:=HW2.out
  have h1:w2.heap.size = w.heap.size + 2:=by rw [this];simp
  have:=HB4.out.size
  have:=hb.size
  omega)
 obtain ⟨bO,hbO⟩:∃ b,w5.heap.size = b:=⟨_,rfl⟩
 rw [hbO] at kO HLO ⊢
 clear hbO ho hb
 have hbx6:=hbx
 clear hbx
 generalize w5.alloc (.cells #[.slice VA na vc,.int .i64 0,.slice none 0 0,.slice none 0 0] 32) = w6 at kO HB6 HOA hbx6 ⊢
 clear hbx6
 have HB26:=Lib.hid (HB2.out.trans (HB6.out.mono HB2.out.size))
 clear HB3 HB4 HB24
 have HEMPTY:=Lib.hid (show ∀ V,V.ownsRow w.heap.size 3 1 (.slice VA na vc) na (iv a.al) → Below w.heap.size w V → hasB tl 0 = false → RetAQ (rsA a tl) w (.returned (.tuple #[.agg #[.slice VA na vc,.int .i64 0,.slice none 0 0,.slice none 0 0],.int .i64 0])) V from fun V ho9 hV h0=>by
  exact ⟨⟨VA,na,vc,none,0,0,none,0,0,⟨a.al,0,[],[]⟩⟩,rfl,⟨QRow.of_own ho9,⟨rfl,.inl ⟨rfl,rfl⟩⟩,rfl,World.ownsRow_nil _ _ _ _⟩,(rsA_no h0).symm,hV⟩)
 have HG6:=Lib.hid (fun (W:World) (hb:Below w6.heap.size w6 W)=>HG0.out W (HB6.out.trans (hb.mono HB6.out.size)))
 cases tl with
 | nil =>
  have hnt:nt = 0:=by have:=HTL.out;simpa using this.symm
  subst hnt
  have kR9:=K1.out.below HB6.out K1.out.lt
  have hB9:=HB26.out
  have f0:=kR9.free 0
  have f1:=kR9.free 1
  have f2:=kR9.free 2
  have f3:=kR9.free 3
  have e0:=kR9.cell (j:=0) rfl
  have e1:=kR9.cell (j:=1) rfl
  have e2:=kR9.cell (j:=2) rfl
  have e3:=kR9.cell (j:=3) rfl
  have l9:w.heap.size + 1 < w6.heap.size:=kR9.lt
  have o0:=kO.out.cell (j:=0) rfl
  have o1:=kO.out.cell (j:=1) rfl
  have o2:=kO.out.cell (j:=2) rfl
  have o3:=kO.out.cell (j:=3) rfl
  go_wp2
  have hb4:=(((kR9.set (j:=0) (by simp) (.slice VA na vc)).set (j:=1) (by simp) (.int .i64 0)).set (j:=2) (by simp) (.slice none 0 0)).set (j:=3) (by simp) (.slice none 0 0)
  have hq:∀ k:Nat,w.heap.size ≤ (⟨w.heap.size + 1,k,none⟩:Addr).block:=fun k=>by show w.heap.size ≤ w.heap.size + 1;omega
  have F:=(((hB9.setCell (p:=⟨w.heap.size + 1,0,none⟩) (hq 0) (.slice VA na vc)).setCell (p:=⟨w.heap.size + 1,1,none⟩) (hq 1) (.int .i64 0)).setCell (p:=⟨w.heap.size + 1,2,none⟩) (hq 2) (.slice none 0 0)).setCell (p:=⟨w.heap.size + 1,3,none⟩) (hq 3) (.slice none 0 0)
  have hg:=(((grown_setCell w6 (w.heap.size + 1) 0 (.slice VA na vc)).trans (grown_setCell _ _ 1 (.int .i64 0))).trans (grown_setCell _ _ 2 (.slice none 0 0))).trans (grown_setCell _ _ 3 (.slice none 0 0))
  have hoa:=HOA.out.kept hg (own_ne_blk HOA.out kR9 (by decide))
  change LeavesInM Fence.wide 6 Try.prog Try.f28 _ _ (marks []) .returning _
  refine leaves_marksI (B:=w.heap.size) (fun V=>(V.ownsRow w.heap.size 3 1 (.slice VA na vc) na (iv a.al)∧Below w.heap.size w V)∧Blk V (w.heap.size + 1) 32 [.slice VA na vc,.int .i64 0,.slice none 0 0,.slice none 0 0]) (fun V D hV hB hD=>⟨⟨own_ncl hV.1.1 (grownBy_putObj' V D _) (fun r e=>by cases e;exact ⟨_,hD,rfl⟩),hV.1.2.trans (belowK_b (w:=w) (Nat.le_refl _) V D _ _ hB hD rfl rfl)⟩,hV.2.ncl (grownBy_putObj' V D _) (fun r e=>by cases e;exact ⟨_,hD,rfl⟩)⟩) [] _ List.nodup_nil (fun D hD=>by cases hD) ⟨⟨hoa,F⟩,hb4⟩ (fun V hV=>?_)
  obtain ⟨z0,z1,z2,z3⟩:=Blk.c4 hV.2
  refine ⟨.tuple #[.agg #[.slice VA na vc,.int .i64 0,.slice none 0 0,.slice none 0 0],.int .i64 0],by simp [results,Try.results28,go_sem,z0,z1,z2,z3],?_⟩
  exact HEMPTY.out V hV.1.1 hV.1.2 rfl
 | cons y tr =>
  obtain ⟨nr,rfl⟩:∃ k,nt = k + 1:=⟨nt - 1,by have:=HTL.out;simp only [List.length_cons] at this;omega⟩
  obtain ⟨ad,hA,hlt,hcell⟩:=(HTX.out w6 HB26.out) 0 (.int .i64 y) rfl
  subst hA
  rw [add_zero'] at hcell
  have hy0:=(HTR.out y List.mem_cons_self).1
  have hct:1 ≤ ct:=by omega
  by_cases hy:y = 0
  case neg =>
   have HNO:=Lib.hid (hasB_first HTI.out (by omega:0 < y))
   have HY0:=Lib.hid hy0;clear hy0
   have hyb:(y != 0) = true:=by simpa using hy
   have kR9:=K1.out.below HB6.out K1.out.lt
   have hB9:=HB26.out
   have f0:=kR9.free 0
   have f1:=kR9.free 1
   have f2:=kR9.free 2
   have f3:=kR9.free 3
   have e0:=kR9.cell (j:=0) rfl
   have e1:=kR9.cell (j:=1) rfl
   have e2:=kR9.cell (j:=2) rfl
   have e3:=kR9.cell (j:=3) rfl
   have l9:w.heap.size + 1 < w6.heap.size:=kR9.lt
   have o0:=kO.out.cell (j:=0) rfl
   have o1:=kO.out.cell (j:=1) rfl
   have o2:=kO.out.cell (j:=2) rfl
   have o3:=kO.out.cell (j:=3) rfl
   go_wp2
   have hb4:=(((kR9.set (j:=0) (by simp) (.slice VA na vc)).set (j:=1) (by simp) (.int .i64 0)).set (j:=2) (by simp) (.slice none 0 0)).set (j:=3) (by simp) (.slice none 0 0)
   have hq:∀ k:Nat,w.heap.size ≤ (⟨w.heap.size + 1,k,none⟩:Addr).block:=fun k=>by show w.heap.size ≤ w.heap.size + 1;omega
   have F:=(((hB9.setCell (p:=⟨w.heap.size + 1,0,none⟩) (hq 0) (.slice VA na vc)).setCell (p:=⟨w.heap.size + 1,1,none⟩) (hq 1) (.int .i64 0)).setCell (p:=⟨w.heap.size + 1,2,none⟩) (hq 2) (.slice none 0 0)).setCell (p:=⟨w.heap.size + 1,3,none⟩) (hq 3) (.slice none 0 0)
   have hg:=(((grown_setCell w6 (w.heap.size + 1) 0 (.slice VA na vc)).trans (grown_setCell _ _ 1 (.int .i64 0))).trans (grown_setCell _ _ 2 (.slice none 0 0))).trans (grown_setCell _ _ 3 (.slice none 0 0))
   have hoa:=HOA.out.kept hg (own_ne_blk HOA.out kR9 (by decide))
   change LeavesInM Fence.wide 6 Try.prog Try.f28 _ _ (marks []) .returning _
   refine leaves_marksI (B:=w.heap.size) (fun V=>(V.ownsRow w.heap.size 3 1 (.slice VA na vc) na (iv a.al)∧Below w.heap.size w V)∧Blk V (w.heap.size + 1) 32 [.slice VA na vc,.int .i64 0,.slice none 0 0,.slice none 0 0]) (fun V D hV hB hD=>⟨⟨own_ncl hV.1.1 (grownBy_putObj' V D _) (fun r e=>by cases e;exact ⟨_,hD,rfl⟩),hV.1.2.trans (belowK_b (w:=w) (Nat.le_refl _) V D _ _ hB hD rfl rfl)⟩,hV.2.ncl (grownBy_putObj' V D _) (fun r e=>by cases e;exact ⟨_,hD,rfl⟩)⟩) [] _ List.nodup_nil (fun D hD=>by cases hD) ⟨⟨hoa,F⟩,hb4⟩ (fun V hV=>?_)
   obtain ⟨z0,z1,z2,z3⟩:=Blk.c4 hV.2
   refine ⟨.tuple #[.agg #[.slice VA na vc,.int .i64 0,.slice none 0 0,.slice none 0 0],.int .i64 0],by simp [results,Try.results28,go_sem,z0,z1,z2,z3],?_⟩
   exact HEMPTY.out V hV.1.1 hV.1.2 HNO.out
  subst hy
  clear HEMPTY hy0
  have HFK:=Lib.hid (fun (W:World) (hb:Below w6.heap.size w6 W)=>reach_flags A na ca M nm cm E ne ce n (some ad) ct (nr + 1) (0 :: tr) W hn4 HTL.out (HTX.out W (HB26.out.trans (hb.mono HB26.out.size))) HTR.out hc1 hc2)
  have HFM:=Lib.hid (fun (W:World) (hb:Below w6.heap.size w6 W)=>reach_flags A na ca M nm cm E ne ce n M cm nm a.ma W hn4 HMX.out.1 (HAX.out W (HB26.out.trans (hb.mono HB26.out.size))).rm HMR.out HMX.out.2.1 HMX.out.2.2)
  go_upto_region 10 with fail
  clear hcell
  go_cut [9,10] from 11 (fun s9 s10 wx=>∃ b9 bK bM:Nat,s9 = .pointer (some ⟨b9,0,none⟩)∧s10 = .slice (some ⟨bM,0,none⟩) n n∧Hid (Blk wx b9 87 [.slice (some ⟨bK,0,none⟩) n n])∧Hid (Blk wx bK 4 (bvl (inF n (0 :: tr))))∧Hid (Blk wx bM 4 (bvl (inF n a.ma)))∧Hid (Below w6.heap.size w6 wx))
  case first =>
   refine wp_region_U (fun W=>C4 W w.heap.size (.slice A na ca) (.int .i64 (n:Int)) (.slice M nm cm) (.slice E ne ce)) (fun _=>True) 99 (by kernel_rfl) ?_
   change anyU _ _ _ _ _ _ _ 10 _ _ _
   have hB0:True:=trivial
   have HBD:=Lib.hid (below_dr w6)
   generalize w6.drew = wd at HBD ⊢
   have hA0:=HG6.out wd HBD.out
   (refine uA 0 ?_ rfl hA0 hB0 (fun W hA=>?_) ?_;rotate_left;(· (obtain ⟨a0,a1,a2,a3⟩:=hA;go_simp;try with_reducible rfl));(try simp only [Act.put,List.setIfInBounds_toArray,List.set_cons_zero,List.set_cons_succ]))
   (refine uA 1 ?_ rfl hA0 hB0 (fun W hA=>?_) ?_;rotate_left;(· (go_simp;try with_reducible rfl));(try simp only [Act.put,List.setIfInBounds_toArray,List.set_cons_zero,List.set_cons_succ]))
   (refine uA 3 ?_ rfl hA0 hB0 (fun W hA=>?_) ?_;rotate_left;(· (obtain ⟨a0,a1,a2,a3⟩:=hA;go_simp;try with_reducible rfl));(try simp only [Act.put,List.setIfInBounds_toArray,List.set_cons_zero,List.set_cons_succ]))
   (refine uA 4 ?_ rfl hA0 hB0 (fun W hA=>?_) ?_;rotate_left;(· (go_simp;try with_reducible rfl));(try simp only [Act.put,List.setIfInBounds_toArray,List.set_cons_zero,List.set_cons_succ]))
   (refine uA 5 ?_ rfl hA0 hB0 (fun W hA=>?_) ?_;rotate_left;(· (obtain ⟨a0,a1,a2,a3⟩:=hA;go_simp;try with_reducible rfl));(try simp only [Act.put,List.setIfInBounds_toArray,List.set_cons_zero,List.set_cons_succ]))
   refine uTwo (i:=2) (j:=7) rfl rfl (by kernel_rfl) (fun K hK=>?_) (fun K hK=>?_)
   ·skip
    go_simp
    go_at_call 68
    refine (HFK.out wd HBD.out).mono ?_
    rintro e wa ⟨bK,rfl,hkK,_,hba⟩
    have HBA:=Lib.hid (HBD.out.trans (hba.mono HBD.out.size))
    have HBa:=Lib.hid hba
    have HKK:=Lib.hid hkK
    have hA1:=HG6.out wa HBA.out
    clear hba hkK
    (refine hK _ _ ⟨hA1,fun _=>hB0⟩ ?_;clear hK K;(try simp only [Act.put,List.setIfInBounds_toArray,List.set_cons_zero,List.set_cons_succ]))
    clear hA0
    have hA0:=hA1
    clear hA1
    refine uTwo (i:=6) (j:=7) rfl rfl (by kernel_rfl) (fun K hK=>?_) (fun K hK=>?_)
    ·skip
     go_simp
     go_at_call 68
     refine (HFM.out wa HBA.out).mono ?_
     rintro e wb ⟨bM,rfl,hkM,_,hbb⟩
     have HBB:=Lib.hid (HBA.out.trans (hbb.mono HBA.out.size))
     have HBb:=Lib.hid hbb
     have HKM:=Lib.hid hkM
     have hA2:=HG6.out wb HBB.out
     clear hbb hkM
     (refine hK _ _ ⟨hA2,fun _=>hB0⟩ ?_;clear hK K;(try simp only [Act.put,List.setIfInBounds_toArray,List.set_cons_zero,List.set_cons_succ]))
     refine uOne (i:=7) rfl (by kernel_rfl) (fun K hK=>?_)
     go_simp
     have hAx:=HG6.out _ (HBB.out.alloc HBB.out.size (.cells #[.slice none 0 0] 87))
     (refine hK _ _ ⟨hAx,fun _=>hB0⟩ ?_;clear hK K;(try simp only [Act.put,List.setIfInBounds_toArray,List.set_cons_zero,List.set_cons_succ]))
     have hy:=box_below wb (.cells #[.slice (some ⟨bK,0,none⟩) n n] 87)
     have HKS:=Lib.hid (Blk.new wb 87 [.slice (some ⟨bK,0,none⟩) n n])
     have HKK2:=Lib.hid ((HKK.out.below HBb.out HKK.out.lt).below hy (HKK.out.below HBb.out HKK.out.lt).lt)
     have HKM2:=Lib.hid (HKM.out.below hy HKM.out.lt)
     have HF:=Lib.hid (HBB.out.trans (hy.mono HBB.out.size))
     have hA3:=HG6.out _ HF.out
     refine uOne (i:=8) rfl (by kernel_rfl) (fun K hK=>?_)
     go_simp
     (refine hK _ _ ⟨hA3,fun _=>hB0⟩ ?_;clear hK K;(try simp only [Act.put,List.setIfInBounds_toArray,List.set_cons_zero,List.set_cons_succ]))
     clear hAx hA2 hy
     refine uOne (i:=9) rfl (by kernel_rfl) (fun K hK=>?_)
     go_simp
     (refine hK _ _ ⟨hA3,fun _=>hB0⟩ ?_;clear hK K;(try simp only [Act.put,List.setIfInBounds_toArray,List.set_cons_zero,List.set_cons_succ]))
     refine anyU_done (by kernel_rfl) ?_ _
     clear hA0 hA3
     go_wp2_with fail
     go_meet
     case rel=>exact ⟨wb.heap.size,bK,bM,rfl,rfl,HKS,HKK2,HKM2,HF⟩
    ·skip
     go_simp
     have hbx:=box_below wa (.cells #[.slice none 0 0] 87)
     have HK9:=Lib.hid (Blk.new wa 87 [.slice none 0 0])
     have HBX:=Lib.hid (HBA.out.trans (hbx.mono HBA.out.size))
     have HBx:=Lib.hid hbx
     have hAx:=HG6.out _ HBX.out
     clear hbx
     (refine hK _ _ ⟨hAx,fun _=>hB0⟩ ?_;clear hK K;(try simp only [Act.put,List.setIfInBounds_toArray,List.set_cons_zero,List.set_cons_succ]))
     have HL9:=Lib.hid HBA.out.size
     obtain ⟨b9,hb9⟩:∃ b,wa.heap.size = b:=⟨_,rfl⟩
     rw [hb9] at HK9 HL9 ⊢
     clear hb9
     generalize wa.alloc (.cells #[.slice none 0 0] 87) = we at HK9 HBX HBx hAx ⊢
     clear hAx
     have hAx:=HG6.out we HBX.out
     refine uOne (i:=6) rfl (by kernel_rfl) (fun K hK=>?_)
     go_simp
     go_at_call 68
     refine (HFM.out we HBX.out).mono ?_
     rintro e wb ⟨bM,rfl,hkM,_,hbb⟩
     have HBB:=Lib.hid (HBX.out.trans (hbb.mono HBX.out.size))
     have HBb:=Lib.hid hbb
     have HKM:=Lib.hid hkM
     have hA2:=HG6.out wb HBB.out
     clear hbb hkM
     (refine hK _ _ ⟨hA2,fun _=>hB0⟩ ?_;clear hK K;(try simp only [Act.put,List.setIfInBounds_toArray,List.set_cons_zero,List.set_cons_succ]))
     have HK10:=Lib.hid (HK9.out.below HBb.out HK9.out.lt)
     have HKK1:=Lib.hid ((HKK.out.below HBx.out HKK.out.lt).below HBb.out (HKK.out.below HBx.out HKK.out.lt).lt)
     refine uOne (i:=8) rfl (by kernel_rfl) (fun K hK=>?_)
     have f0:=HK10.out.free 0
     have e0:=HK10.out.cell (j:=0) rfl
     have l0:=HK10.out.lt
     have HKS:=Lib.hid (HK10.out.set (j:=0) (by simp) (.slice (some ⟨bK,0,none⟩) n n))
     have hgs:=grown_setCell wb b9 0 (.slice (some ⟨bK,0,none⟩) n n)
     have hnk:∀ b vs,Blk wb b 4 vs → Blk (wb.setCell ⟨b9,0,none⟩ (.slice (some ⟨bK,0,none⟩) n n)) b 4 vs:=fun b vs hk=>hk.kept hgs (fun e=>by injection e with e;exact blk_apart hk HK10.out (by decide) e)
     have HF:=Lib.hid (HBB.out.setCell (p:=⟨b9,0,none⟩) (by show w6.heap.size ≤ b9;have:=HL9.out;omega) (.slice (some ⟨bK,0,none⟩) n n))
     have hA3:=HG6.out _ HF.out
     go_simp
     (refine hK _ _ ⟨hA3,fun _=>hB0⟩ ?_;clear hK K;(try simp only [Act.put,List.setIfInBounds_toArray,List.set_cons_zero,List.set_cons_succ]))
     clear f0 e0 l0 hgs
     have HKK2:=Lib.hid (hnk _ _ HKK1.out)
     have HKM2:=Lib.hid (hnk _ _ HKM.out)
     clear hAx hA2 hnk
     refine uOne (i:=9) rfl (by kernel_rfl) (fun K hK=>?_)
     go_simp
     (refine hK _ _ ⟨hA3,fun _=>hB0⟩ ?_;clear hK K;(try simp only [Act.put,List.setIfInBounds_toArray,List.set_cons_zero,List.set_cons_succ]))
     refine anyU_done (by kernel_rfl) ?_ _
     clear hA0 hA3
     go_wp2_with fail
     go_meet
     case rel=>exact ⟨b9,bK,bM,rfl,rfl,HKS,HKK2,HKM2,HF⟩
   ·skip
    go_simp
    have hbx:=box_below wd (.cells #[.slice none 0 0] 87)
    have HK9:=Lib.hid (Blk.new wd 87 [.slice none 0 0])
    have HBX:=Lib.hid (HBD.out.trans (hbx.mono HBD.out.size))
    have HBx:=Lib.hid hbx
    have hAx:=HG6.out _ HBX.out
    clear hbx
    (refine hK _ _ ⟨hAx,fun _=>hB0⟩ ?_;clear hK K;(try simp only [Act.put,List.setIfInBounds_toArray,List.set_cons_zero,List.set_cons_succ]))
    have HL9:=Lib.hid HBD.out.size
    obtain ⟨b9,hb9⟩:∃ b,wd.heap.size = b:=⟨_,rfl⟩
    rw [hb9] at HK9 HL9 ⊢
    clear hb9
    generalize wd.alloc (.cells #[.slice none 0 0] 87) = we at HK9 HBX HBx hAx ⊢
    clear hAx
    have hAx:=HG6.out we HBX.out
    refine uOne (i:=2) rfl (by kernel_rfl) (fun K hK=>?_)
    go_simp
    go_at_call 68
    refine (HFK.out we HBX.out).mono ?_
    rintro e wa ⟨bK,rfl,hkK,_,hba⟩
    have HBA:=Lib.hid (HBX.out.trans (hba.mono HBX.out.size))
    have HBa:=Lib.hid hba
    have HKK:=Lib.hid hkK
    have hA1:=HG6.out wa HBA.out
    clear hba hkK
    (refine hK _ _ ⟨hA1,fun _=>hB0⟩ ?_;clear hK K;(try simp only [Act.put,List.setIfInBounds_toArray,List.set_cons_zero,List.set_cons_succ]))
    refine uOne (i:=6) rfl (by kernel_rfl) (fun K hK=>?_)
    go_simp
    go_at_call 68
    refine (HFM.out wa HBA.out).mono ?_
    rintro e wb ⟨bM,rfl,hkM,_,hbb⟩
    have HBB:=Lib.hid (HBA.out.trans (hbb.mono HBA.out.size))
    have HBb:=Lib.hid hbb
    have HKM:=Lib.hid hkM
    have hA2:=HG6.out wb HBB.out
    clear hbb hkM
    (refine hK _ _ ⟨hA2,fun _=>hB0⟩ ?_;clear hK K;(try simp only [Act.put,List.setIfInBounds_toArray,List.set_cons_zero,List.set_cons_succ]))
    have HK10:=Lib.hid ((HK9.out.below HBa.out HK9.out.lt).below HBb.out (HK9.out.below HBa.out HK9.out.lt).lt)
    have HKK1:=Lib.hid (HKK.out.below HBb.out HKK.out.lt)
    refine uOne (i:=8) rfl (by kernel_rfl) (fun K hK=>?_)
    have f0:=HK10.out.free 0
    have e0:=HK10.out.cell (j:=0) rfl
    have l0:=HK10.out.lt
    have HKS:=Lib.hid (HK10.out.set (j:=0) (by simp) (.slice (some ⟨bK,0,none⟩) n n))
    have hgs:=grown_setCell wb b9 0 (.slice (some ⟨bK,0,none⟩) n n)
    have hnk:∀ b vs,Blk wb b 4 vs → Blk (wb.setCell ⟨b9,0,none⟩ (.slice (some ⟨bK,0,none⟩) n n)) b 4 vs:=fun b vs hk=>hk.kept hgs (fun e=>by injection e with e;exact blk_apart hk HK10.out (by decide) e)
    have HF:=Lib.hid (HBB.out.setCell (p:=⟨b9,0,none⟩) (by show w6.heap.size ≤ b9;have:=HL9.out;omega) (.slice (some ⟨bK,0,none⟩) n n))
    have hA3:=HG6.out _ HF.out
    go_simp
    (refine hK _ _ ⟨hA3,fun _=>hB0⟩ ?_;clear hK K;(try simp only [Act.put,List.setIfInBounds_toArray,List.set_cons_zero,List.set_cons_succ]))
    clear f0 e0 l0 hgs
    have HKK2:=Lib.hid (hnk _ _ HKK1.out)
    have HKM2:=Lib.hid (hnk _ _ HKM.out)
    clear hAx hA1 hA2 hnk
    refine uOne (i:=9) rfl (by kernel_rfl) (fun K hK=>?_)
    go_simp
    (refine hK _ _ ⟨hA3,fun _=>hB0⟩ ?_;clear hK K;(try simp only [Act.put,List.setIfInBounds_toArray,List.set_cons_zero,List.set_cons_succ]))
    refine anyU_done (by kernel_rfl) ?_ _
    clear hA0 hA3
    go_wp2_with fail
    go_meet
    case rel=>exact ⟨b9,bK,bM,rfl,rfl,HKS,HKK2,HKM2,HF⟩
  case rest =>
   obtain ⟨b9,bK,bM,rfl,rfl,HK9,HKK,HKM,HBC⟩:=hcut
   have HB2c:=Lib.hid (HB26.out.trans (HBC.out.mono HB26.out.size))
   have hwx:WF x.a:=by rw [HXA.out];exact HWF.out
   have hnx:x.a.st = (n:Int):=by rw [HXA.out];exact HST.out
   have HNG:=Lib.hid (show ∀ W,Below w.heap.size w W → Calls Try.prog 56 #[.agg #[.slice A na ca,.int .i64 (n:Int),.slice M nm cm,.slice E ne ce]] W fun e w'=>∃ ba,e = .returned (.agg (grc x ba n).toArray)∧W.heap.size ≤ ba∧GrR w' w'.heap.size x ba n∧Below W.heap.size W w' from fun W hb=>by
    have h:=newGraph_ok x W n (HX.out W hb) hwx hnx
    rw [HAG.out] at h
    exact h)
   have hmI:∀ W:World,(Instr.makeSlice 29 (.int .i64 (n:Int)) (.int .i64 (n:Int))).run Try.prog W = .ok (.slice (some ⟨W.heap.size,0,none⟩) n n) (W.alloc (.cells (madeCells #[.int .i64 0] n) 3)):=fun W=>run_make_row' 29 3 (.int .i64 0) 8 Try.underlying29 int_info rfl .i64 .i64 n (by omega) (by omega) W
   obtain ⟨a0,a1,a2,a3⟩:=HG6.out wc HBC.out
   go_upto_region 12 with fail
   clear a0 a1 a2 a3 hmI HFK HFM
   have hbm:=box_below wc (.cells (madeCells #[.int .i64 0] n) 3)
   have kN0:Blk (wc.alloc (.cells (madeCells #[.int .i64 0] n) 3)) wc.heap.size 3 (iv (List.replicate n 0)):=by rw [made_ints];exact Blk.new _ _ _
   have hsN:(wc.alloc (.cells (madeCells #[.int .i64 0] n) 3)).heap.size = wc.heap.size + 1:=by simp
   obtain ⟨bN,hbN⟩:∃ b,wc.heap.size = b:=⟨_,rfl⟩
   have HLN:=Lib.hid (show w6.heap.size ≤ bN by rw [← hbN];exact HBC.out.size)
   have HBN0:=Lib.hid hbm
   have HBNe:=Lib.hid hbN
   rw [hbN] at kN0 hsN ⊢
   clear hbN hbm
   generalize wc.alloc (.cells (madeCells #[.int .i64 0] n) 3) = wm at kN0 hsN HBN0 ⊢
   have hby:=box_below wm (.cells #[.slice (some ⟨bN,0,none⟩) n n] 29)
   have k11:=Blk.new wm 29 [.slice (some ⟨bN,0,none⟩) n n]
   have hs11:(wm.alloc (.cells #[.slice (some ⟨bN,0,none⟩) n n] 29)).heap.size = bN + 1 + 1:=by simp [hsN]
   have KN1:=Lib.hid (kN0.below hby kN0.lt)
   have HBy:=Lib.hid (HBN0.out.trans (hby.mono HBN0.out.size))
   rw [hsN] at k11
   clear kN0 hby HBN0 hsN
   generalize wm.alloc (.cells #[.slice (some ⟨bN,0,none⟩) n n] 29) = w11 at k11 hs11 KN1 HBy ⊢
   have K11:=Lib.hid k11
   have HS11:=Lib.hid hs11
   have HB11:=Lib.hid (HB2c.out.trans (HBy.out.mono HB2c.out.size))
   clear k11 hs11
   have HF11:=Lib.hid (fun (V:World) (hb:Below w11.heap.size w11 V)=>show Below w6.heap.size w6 V from HBC.out.trans ((HBy.out.trans (hb.mono HBy.out.size)).mono HBC.out.size))
   obtain ⟨a0,a1,a2,a3⟩:=HG6.out w11 (HF11.out w11 (Below.refl _ _))
   go_wp2_with fail
   refine (HNG.out w11 HB11.out).mono ?_
   rintro e w12 ⟨ba,rfl,hba,hgr,hb12⟩
   clear a0 a1 a2 a3
   rw [HGC.out ba]
   have HGR:=Lib.hid hgr
   have HBA:=Lib.hid hba
   have HB12:=Lib.hid hb12
   clear hgr hba hb12
   go_upto_region 13 with fail
   have hbg:=box_below w12 (.cells #[.slice A na ca,.int .i64 (n:Int),.slice M nm cm,.slice E ne ce,.slice (some ⟨ba,0,none⟩) (n + 1) (n + 1)] 105)
   have k12:Blk (w12.alloc (.cells #[.slice A na ca,.int .i64 (n:Int),.slice M nm cm,.slice E ne ce,.slice (some ⟨ba,0,none⟩) (n + 1) (n + 1)] 105)) w12.heap.size 105 (grc x ba n):=by rw [HGC.out ba];exact Blk.new _ _ [_,_,_,_,_]
   obtain ⟨b12,hb12⟩:∃ b,w12.heap.size = b:=⟨_,rfl⟩
   rw [hb12] at k12 ⊢
   have HB13:=Lib.hid (HB12.out.trans (hbg.mono HB12.out.size))
   have HAR:=Lib.hid (HGR.out.arr.below hbg HGR.out.arr.lt)
   clear hb12 hbg
   generalize w12.alloc (.cells #[.slice A na ca,.int .i64 (n:Int),.slice M nm cm,.slice E ne ce,.slice (some ⟨ba,0,none⟩) (n + 1) (n + 1)] 105) = w13 at k12 HB13 HAR ⊢
   have K12:=Lib.hid k12
   clear k12
   go_upto_region 14 with fail
   have hbq:=box_below w13 (.cells #[.int .i64 0] 3)
   have hbr:=box_below (w13.alloc (.cells #[.int .i64 0] 3)) (.cells #[.slice (some ⟨w13.heap.size,0,none⟩) 1 1] 29)
   have kq0:=(Blk.new w13 3 [.int .i64 0]).below hbr (by simp)
   have k13:=Blk.new (w13.alloc (.cells #[.int .i64 0] 3)) 29 [.slice (some ⟨w13.heap.size,0,none⟩) 1 1]
   have hs13:(w13.alloc (.cells #[.int .i64 0] 3)).heap.size = w13.heap.size + 1:=by simp
   obtain ⟨bQ,hbQ⟩:∃ b,w13.heap.size = b:=⟨_,rfl⟩
   have HBQe:=Lib.hid hbQ
   have HB14:=Lib.hid (HB13.out.trans ((hbq.trans (hbr.mono hbq.size)).mono HB13.out.size))
   have HB14b:=Lib.hid (hbq.trans (hbr.mono hbq.size))
   rw [hs13,hbQ] at k13
   rw [hbQ] at kq0 HB14 HB14b ⊢
   have hs14:((w13.alloc (.cells #[.int .i64 0] 3)).alloc (.cells #[.slice (some ⟨bQ,0,none⟩) 1 1] 29)).heap.size = bQ + 1 + 1:=by simp [hbQ]
   clear hbq hbr hs13 hbQ
   generalize (w13.alloc (.cells #[.int .i64 0] 3)).alloc (.cells #[.slice (some ⟨bQ,0,none⟩) 1 1] 29) = w14 at kq0 k13 HB14 HB14b hs14 ⊢
   have KN4:=Lib.hid (KN1.out.below HB14.out KN1.out.lt)
   have K114:=Lib.hid (K11.out.below HB14.out K11.out.lt)
   have K124:=Lib.hid (K12.out.below HB14b.out (by have:=K12.out.lt;have:=HBQe.out;omega))
   have HAR4:=Lib.hid (HAR.out.below HB14b.out (by have:=HAR.out.lt;have:=HBQe.out;omega))
   have HKQ:=Lib.hid kq0
   have K13:=Lib.hid k13
   have HS14:=Lib.hid hs14
   have HF14:=Lib.hid (HF11.out w14 HB14.out)
   clear kq0 k13 hs14
   have c11:=K114.out.cell (j:=0) rfl
   have hn1:0 < n:=by have:=(HTR.out 0 List.mem_cons_self).2;omega
   have cN:w14.cell? ⟨bN,0,none⟩ = some (.int .i64 0):=KN4.out.cell (by rw [iv_get,List.getElem?_replicate,if_pos hn1];rfl)
   have fN:=KN4.out.free 0
   have lN:=KN4.out.lt
   have hn2:(0:Int) < (n:Int):=by omega
   go_upto_region 15 with fail
   have HM0:=Lib.hid (show RsM w ((w14.setCell ⟨bN,0,none⟩ (.int .i64 1)).alloc (.cells #[.int .i64 0] 3)) x ba n [] bO b9 bK bM (bN + 1) bN b12 (bQ + 1) w14.heap.size 0 (.slice VA na vc) (.slice none 0 0) (.slice (some ⟨bQ,0,none⟩) 1 1) (.slice none 0 0) 0 1 (0 :: tr) (mksN (mkA (kpA a (0 :: tr))) [0] 0) ⟨[0],[]⟩ from by
    have hgN:=grown_setCell w14 bN 0 (.int .i64 1)
    have hal9:=box_below (w14.setCell ⟨bN,0,none⟩ (.int .i64 1)) (.cells #[.int .i64 0] 3)
    have hsz:(w14.setCell ⟨bN,0,none⟩ (.int .i64 1)).heap.size = w14.heap.size:=by simp [World.setCell]
    have H214:=HB6.out.trans (HF14.out.mono HB6.out.size)
    have HC14:=HBy.out.trans (HB14.out.mono HBy.out.size)
    have hbNe:=HBNe.out
    have hbQe:=HBQe.out
    have h11:=HS11.out
    have h14:=HS14.out
    have h13:=HB13.out.size
    have hbag:=HBA.out
    have hbal:=HAR.out.lt
    have hlN:=HLN.out
    have hlO:=HLO.out
    have hw6:=HB26.out.size
    have hkO:=kO.out.lt
    have hkept:∀ b t vs,Blk w14 b t vs → b ≠ bN → Blk ((w14.setCell ⟨bN,0,none⟩ (.int .i64 1)).alloc (.cells #[.int .i64 0] 3)) b t vs:=fun b t vs hk hb=>(hk.kept hgN (fun e=>hb (by injection e))).below hal9 (hk.kept hgN (fun e=>hb (by injection e))).lt
    have kNx:Blk ((w14.setCell ⟨bN,0,none⟩ (.int .i64 1)).alloc (.cells #[.int .i64 0] 3)) bN 3 (iv (nmL n [0])):=by
     have h:=KN4.out.set (j:=0) (by rw [iv_length,List.length_replicate];exact hn1) (.int .i64 1)
     have e:(iv (List.replicate n 0)).set 0 (.int .i64 1) = iv (nmL n [0]):=by
      rw [← nmL_start];unfold iv;rw [List.map_set]
     rw [e] at h
     exact h.below hal9 h.lt
    have hoa:=own_below (HOA.out) HF14.out
    have hoaB:∀ g,(Value.slice VA na vc).ownBlock = some g → w.heap.size ≤ g∧g < w6.heap.size:=fun g e=>HOA.out.lt g e
    have hoax:=own_below (hoa.kept hgN (by
     cases hv:(Value.slice VA na vc).ownBlock with
     | none=>exact .inl rfl
     | some g=>refine .inr (fun e=>?_);injection e with e;have:=(hoaB g hv).2;omega)) hal9
    have hkA:=(KN4.out.lt)
    have ap0:ApS w.heap.size [none,none,none,none,none,none]:=⟨by simp [Ap],by simp⟩
    have apA:=ap0.set 2 rfl (o':=(Value.slice VA na vc).ownBlock) (S':=w6.heap.size) (by
     cases hv:(Value.slice VA na vc).ownBlock with
     | none=>exact .inl rfl
     | some g=>exact .inr ⟨g,rfl,(hoaB g hv).1⟩) hw6 (fun g e=>(hoaB g e).2)
    have apN:=apA.set 3 rfl (o':=some bN) (S':=bN + 1) (.inr ⟨_,rfl,hlN⟩) (by omega) (fun g e=>by injection e with e;omega)
    have apB:=apN.set 1 rfl (o':=some ba) (S':=ba + 1) (.inr ⟨_,rfl,by omega⟩) (by omega) (fun g e=>by injection e with e;omega)
    have apQ:=apB.set 5 rfl (o':=some bQ) (S':=bQ + 1) (.inr ⟨_,rfl,by omega⟩) (by omega) (fun g e=>by injection e with e;omega)
    have apI:=apQ.set 0 rfl (o':=some w14.heap.size) (S':=w14.heap.size + 1) (.inr ⟨_,rfl,by omega⟩) (by omega) (fun g e=>by injection e with e;omega)
    have hB14:Below w.heap.size w w14:=HB26.out.trans (HF14.out.mono HB26.out.size)
    refine ⟨(hB14.setCell (p:=⟨bN,0,none⟩) (by show w.heap.size ≤ bN;omega) _).trans (hal9.mono (by omega)),by rw [HBX.out];exact hkept _ _ _ (K0.out.below H214 K0.out.lt) (by omega),hkept _ _ _ (K1.out.below H214 K1.out.lt) (by omega),hkept _ _ _ (kO.out.below HF14.out kO.out.lt) (by have:=kO.out.lt;omega),hkept _ _ _ (HK9.out.below HC14 HK9.out.lt) (by have:=HK9.out.lt;omega),hkept _ _ _ (HKK.out.below HC14 HKK.out.lt) (by have:=HKK.out.lt;omega),by rw [HXA.out];exact hkept _ _ _ (HKM.out.below HC14 HKM.out.lt) (by have:=HKM.out.lt;omega),hkept _ _ _ K114.out (by omega),kNx,hkept _ _ _ K124.out (blk_apart K124.out KN4.out (by decide)),hkept _ _ _ HAR4.out (by omega),hkept _ _ _ K13.out (by omega),by rw [← hsz];exact Blk.new _ _ [_],
     by rw [HNA.out,HXA.out];exact QRow.of_own hoax,⟨rfl,.inl ⟨rfl,rfl⟩⟩,⟨rfl,.inr ⟨bQ,0,1,[.int .i64 0],rfl,by omega,hkept _ _ _ HKQ.out (by omega),Nat.le_refl _,by decide,by simp,rfl⟩⟩,World.ownsRow_nil _ _ _ _,HLO.out,by omega,by omega,by omega,?_,List.nodup_nil,fun D hD=>by cases hD⟩
    have hsw:((w14.setCell ⟨bN,0,none⟩ (.int .i64 1)).alloc (.cells #[.int .i64 0] 3)).heap.size = w14.heap.size + 1:=by simp [World.setCell]
    rw [hsw]
    exact apI)
   obtain ⟨S0,hS0,_,hRES⟩:=rs_run (a:=a) (K:=0 :: tr) HWF.out (hasB_mem.2 List.mem_cons_self) (fun s hs=>by have:=HTR.out s hs;have:=HST.out;omega)
   have HRES:=Lib.hid hRES
   have HW0:=Lib.hid (RsW.start hn1)
   have HI0:=Lib.hid (show BInv 4096 (stA (kpA a (0 :: tr))) a.al 0 0 ⟨[0],[]⟩ from BInv.begin (by omega))
   have HR0:=Lib.hid (show bsR 4096 (stA (kpA a (0 :: tr))) a.al (4097 - 0) 0 ⟨[0],[]⟩ = some S0 from hS0)
   have HRR:=Lib.hid (fun (i:Nat) (s:Bs Int) (t:Int) (h:BInv 4096 (stA (kpA a (0 :: tr))) a.al 0 i s) (ht:s.ts[i]? = some t)=>rs_round (a:=a) (K:=0 :: tr) HWF.out (hasB_mem.2 List.mem_cons_self) (fun s hs=>by have:=HTR.out s hs;have:=HST.out;omega) h ht)
   clear hS0 hRES c11 cN fN lN HKQ K13 HAR4 K124 K114 KN4 HAR K11 K12 KN1 HB14 HB14b HS14 HS11 HBQe HBNe HBy HB13 HB12 HBC HB2c HKM HKK HK9 HB11 HF11 HF14 HBA HNG HGR
   go_wp2
   refine wp_loop_ghost (fun g a' W=>∃ (i km q bI:Nat) (mv qv ev:Value) (s:Bs Int) (ds:List Nat),FrmR [.agg #[.slice A na ca,.int .i64 (n:Int),.slice M nm cm,.slice E ne ce],.slice (some ad) (nr + 1) ct,.pointer (some ⟨w.heap.size,0,none⟩),undef,.pointer (some ⟨w.heap.size + 1,0,none⟩),.int .i64 0,.int .i64 0,.int .i64 0,.pointer (some ⟨bO,0,none⟩),.pointer (some ⟨b9,0,none⟩),.slice (some ⟨bM,0,none⟩) n n,.pointer (some ⟨bN + 1,0,none⟩),.pointer (some ⟨b12,0,none⟩),.pointer (some ⟨bQ + 1,0,none⟩),.pointer (some ⟨bI,0,none⟩)] ds a'∧Hid (RsM w W x ba n ds bO b9 bK bM (bN + 1) bN b12 (bQ + 1) bI i (.slice VA na vc) mv qv ev km q (0 :: tr) (mksN (mkA (kpA a (0 :: tr))) s.ts i) s)∧Hid (RsW n i 0 s)∧Hid (BInv 4096 (stA (kpA a (0 :: tr))) a.al 0 i s)∧Hid (bsR 4096 (stA (kpA a (0 :: tr))) a.al (4097 - i) i s = some S0)∧i ≤ n∧g = n + 1 - i) (n + 1) ?start ?round
   case start=>exact ⟨0,0,1,w14.heap.size,_,_,_,_,[],⟨rfl,rfl,rfl⟩,HM0,HW0,HI0,HR0,Nat.zero_le _,rfl⟩
   case round =>
    clear HM0 HW0 HI0 HR0
    rintro g a' W ⟨i,km,q,bI,mv,qv,ev,s,ds,hfr,HM,HSW,HBI,HBR,hi,rfl⟩
    refine FrmR.elim (Q:=fun z=>Code.wp _ _ _ z _) ?_ a' hfr
    clear hfr a'
    intro y15 y16 y17 y18 y19 y20 y21 y22 y23 y24 y25 y26 y27 y28 y29 y30 y31 y32 y33 y34 y35 y36 y37 y38 y39 y40 y41 y42 y43 y44 y45 y46 y47 y48 y49 y50 y51 y52 y53 y54 y55 y56 y57 y58 y59 y60 y61 y62 y63 y64 y65 y66 y67 y68 y69 y70 y71 y72 y73 y74 y75 y76 y77 y78 y79 y80 y81 y82 y83 y84 y85 y86 y87 y88 y89 y90 y91 y92 y93 y94 y95 y96 y97 y98 y99 y100 y101 y102 y103 y104 y105 y106 y107 y108 y109 y110 y111 y112 y113 y114 y115 y116 y117 y118 y119 y120 y121 y122 y123 y124 y125 y126
    simp only [List.cons_append,List.nil_append]
    obtain ⟨QA,qc,rfl⟩:=HM.out.rq.shape
    have cI:=HM.out.kI.cell (j:=0) rfl
    have c13:=HM.out.k13.cell (j:=0) rfl
    have hql:s.ts.length = q:=HM.out.rq.1
    have hqn:q ≤ n:=by have:=HSW.out.len;omega
    have hsz:=HM.out.siz
    have HQL:=Lib.hid hql;clear hql
    by_cases hlt:i < q
    ·obtain ⟨t,ht⟩:∃ t,s.ts[i]? = some t:=⟨_,List.getElem?_eq_getElem (by have:=HQL.out;omega)⟩
     obtain ⟨hrdi,hqc,hqc2,_⟩:=HM.out.rq.rdi
     obtain ⟨ad2,hA2,hab,hcell⟩:=hrdi i (.int .i64 t) (by rw [iv_get,ht];rfl)
     subst hA2
     have hrg:=HSW.out.rng t (List.mem_of_getElem? ht)
     obtain ⟨tn,rfl⟩:∃ k:Nat,t = (k:Int):=⟨t.toNat,by omega⟩
     have htn:tn < n:=by omega
     have b1:(i:Int) < (q:Int):=by omega
     obtain ⟨hBI2,htK,hbf⟩:=HRR.out i s _ HBI.out ht
     have HBI2:=Lib.hid hBI2
     have HBR2:=Lib.hid (show bsR 4096 (stA (kpA a (0 :: tr))) a.al (4097 - (i + 1)) (i + 1) ((outE a (tn:Int)).foldl (rsE (0 :: tr) i) s) = some S0 from by
      have h:=HBR.out
      rw [show 4097 - i = (4097 - (i + 1)) + 1 by omega,bsR_go ht hbf] at h
      exact h)
     obtain ⟨mq,hmq⟩:∃ z,fl (inF n a.ma) (tn:Int) = z:=⟨_,rfl⟩
     have cM:W.cell? ⟨bM,tn,none⟩ = some (.bool mq):=HM.out.kM.cell (by
      rw [HXA.out,bvl_get]
      have h:=fl_get hmq (by omega) (by rw [inF_len];omega)
      rw [Int.toNat_natCast] at h
      rw [h];rfl)
     have HMK:=Lib.hid (show mksN (mkA (kpA a (0 :: tr))) s.ts (i + 1) = mksN (mkA (kpA a (0 :: tr))) s.ts i ++ (if mq = true then [(i:Int)] else []) from by
      rw [mksN,ht]
      show mksN _ s.ts i ++ (if mkA (kpA a (0 :: tr)) (tn:Int) = true then _ else _) = _
      have e:mkA (kpA a (0 :: tr)) (tn:Int) = mq:=by
       rw [← hmq,Bool.eq_iff_iff,inF_fl HMR.out (by omega)]
       unfold mkA kpA
       rw [hasB_mem,List.mem_filter]
       exact ⟨fun h=>h.1,fun h=>⟨h,hasB_mem.2 htK⟩⟩
      rw [e])
     have hw1:=hqc2
     have h0t:(0:Int) ≤ (tn:Int):=by omega
     have h1t:(tn:Int) < (n:Int):=by omega
     clear hrdi hBI2 hbf htK hmq
     have HT:=Lib.hid ht;clear ht
     go_upto_if 70 with fail
     go_cut [71] from 72 to 76 (fun s71 wx=>∃ (v71 mv2:Value) (km2:Nat),s71 = v71∧Hid (RsM w wx x ba n ds bO b9 bK bM (bN + 1) bN b12 (bQ + 1) bI i (.slice VA na vc) mv2 (.slice (some ad2) q qc) ev km2 q (0 :: tr) (mksN (mkA (kpA a (0 :: tr))) s.ts (i + 1)) s))
     case first =>
      cases mq with
      | false =>
       have HMK2:=Lib.hid (show mksN (mkA (kpA a (0 :: tr))) s.ts (i + 1) = mksN (mkA (kpA a (0 :: tr))) s.ts i from by rw [HMK.out,if_neg (by simp),List.append_nil])
       rw [← HMK2.out] at HM
       clear HMK HMK2 cI c13 cM hcell
       go_wp2_with fail
       go_meet
       case rel=>exact ⟨_,mv,km,rfl,HM⟩
      | true =>
       have HMK2:=Lib.hid (show mksN (mkA (kpA a (0 :: tr))) s.ts (i + 1) = mksN (mkA (kpA a (0 :: tr))) s.ts i ++ [(i:Int)] from by rw [HMK.out,if_pos rfl])
       have hkm:km ≤ i:=by
        have h1:(mksN (mkA (kpA a (0 :: tr))) s.ts i).length = km:=HM.out.rm.1
        have h2:=mksN_len (mkA (kpA a (0 :: tr))) s.ts i
        omega
       have hmb:km + 1 ≤ 1000000:=by omega
       obtain ⟨MB,mc2,rfl⟩:=HM.out.rm.shape
       have o2:=HM.out.out.cell (j:=2) rfl
       have HBX:=Lib.hid (box_below W (.cells #[.int .i64 (i:Int)] 3))
       have HM6:=Lib.hid (HM.out.quiet HBX.out)
       have HNW1:=Lib.hid (show Blk (W.alloc (.cells #[.int .i64 (i:Int)] 3)) W.heap.size 3 [.int .i64 (i:Int)] from Blk.new _ _ [_])
       have hb3:w.heap.size ≤ (W.alloc (.cells #[.int .i64 (i:Int)] 3)).heap.size:=by have:=HM6.out.siz;omega
       clear HMK c13 cM hcell
       go_wp2_with (first
        | (at_builtin;refine wpList_pushR (W.alloc (.cells #[.int .i64 (i:Int)] 3)) rfl (.tmp 72) (.tmp 74) rfl w.heap.size (.slice MB km mc2) km (mksN (mkA (kpA a (0 :: tr))) s.ts i) rfl HM6.out.rm (i:Int) W.heap.size rfl HNW1.out hmb hb3 ?_;intro v9 w9 ho9 hg9 hn9;obtain ⟨A9,c99,rfl⟩:=ho9.shape;obtain ⟨HMF,kO9⟩:=HM6.out.mark ho9 hg9 (hn9.imp id (fun e=>⟨_,e,Nat.le_refl _⟩));have o29:=kO9.cell (j:=2) rfl;have fO9:=kO9.free 2;have lO9:=kO9.lt;have HMF:=Lib.hid HMF)
        | fail)
       rw [← HMK2.out] at HMF
       go_meet
       case rel=>exact ⟨_,_,km + 1,rfl,HMF⟩
     case rest =>
      obtain ⟨v71,mv2,km2,rfl,HM2⟩:=hcut
      clear HM HMK cI c13 cM hcell hsz
      have hsz:=HM2.out.siz
      obtain ⟨hrdi,_,_,_⟩:=HM2.out.rq.rdi
      have hcell:wc.cell? (ad2.add i) = some (.int .i64 (tn:Int))∧ad2.block < wc.heap.size:=by
       obtain ⟨ad3,hA3,hab3,hcell3⟩:=hrdi i (.int .i64 (tn:Int)) (by rw [iv_get,HT.out];rfl)
       injection hA3 with hA3
       subst hA3
       exact ⟨hcell3,hab3⟩
      have HCE:=Lib.hid hcell.1
      have HAB:=Lib.hid hcell.2
      clear hrdi hcell hab
      go_upto_region 20 with fail
      have HED:=Lib.hid (fun V=>edges_ok x ba n (tn:Int) V)
      rw [HGC.out ba] at HED
      have HAX9:=Lib.hid (fun (V:World) (hb:Below wc.heap.size wc V)=>(show C5r V b12 (.slice A na ca) (.int .i64 (n:Int)) (.slice M nm cm) (.slice E ne ce) (.slice (some ⟨ba,0,none⟩) (n + 1) (n + 1))∧V.cell? ⟨bQ + 1,0,none⟩ = some (.slice (some ad2) q qc)∧V.cell? ⟨bI,0,none⟩ = some (.int .i64 (i:Int))∧V.cell? (ad2.add i) = some (.int .i64 (tn:Int)) from by
       have kg:=HM2.out.k12.below hb HM2.out.k12.lt
       rw [HGC.out ba] at kg
       exact ⟨⟨kg.cell (j:=0) rfl,kg.cell (j:=1) rfl,kg.cell (j:=2) rfl,kg.cell (j:=3) rfl,kg.cell (j:=4) rfl⟩,(HM2.out.k13.below hb HM2.out.k13.lt).cell (j:=0) rfl,(HM2.out.kI.below hb HM2.out.kI.lt).cell (j:=0) rfl,(hb.cell (p:=ad2.add i) (by rw [block_of_add];exact HAB.out)).trans HCE.out⟩))
      refine wp_region_U (fun V=>C5r V b12 (.slice A na ca) (.int .i64 (n:Int)) (.slice M nm cm) (.slice E ne ce) (.slice (some ⟨ba,0,none⟩) (n + 1) (n + 1))∧V.cell? ⟨bQ + 1,0,none⟩ = some (.slice (some ad2) q qc)∧V.cell? ⟨bI,0,none⟩ = some (.int .i64 (i:Int))∧V.cell? (ad2.add i) = some (.int .i64 (tn:Int))) (fun _=>True) 5 (by kernel_rfl) ?_
      change anyU _ _ _ _ _ _ _ 6 _ _ _
      have hB0:True:=trivial
      have HBD:=Lib.hid (below_dr wc)
      have hA0:=HAX9.out _ HBD.out
      generalize wc.drew = wd at HBD hA0 ⊢
      (refine uA 0 ?_ rfl hA0 hB0 (fun W hA=>?_) ?_;rotate_left;(· (obtain ⟨⟨a0,a1,a2,a3,a4⟩,_⟩:=hA;go_simp;try with_reducible rfl));(try simp only [Act.put,List.setIfInBounds_toArray,List.set_cons_zero,List.set_cons_succ]))
      (refine uA 1 ?_ rfl hA0 hB0 (fun W hA=>?_) ?_;rotate_left;(· (obtain ⟨_,a0,_⟩:=hA;go_simp;try with_reducible rfl));(try simp only [Act.put,List.setIfInBounds_toArray,List.set_cons_zero,List.set_cons_succ]))
      (refine uA 2 ?_ rfl hA0 hB0 (fun W hA=>?_) ?_;rotate_left;(· (obtain ⟨_,_,a0,_⟩:=hA;go_simp;try with_reducible rfl));(try simp only [Act.put,List.setIfInBounds_toArray,List.set_cons_zero,List.set_cons_succ]))
      (refine uA 3 ?_ rfl hA0 hB0 (fun W hA=>?_) ?_;rotate_left;(· (go_simp;try with_reducible rfl));(try simp only [Act.put,List.setIfInBounds_toArray,List.set_cons_zero,List.set_cons_succ]))
      (refine uA 4 ?_ rfl hA0 hB0 (fun W hA=>?_) ?_;rotate_left;(· (obtain ⟨_,_,_,a0⟩:=hA;go_simp;try with_reducible rfl));(try simp only [Act.put,List.setIfInBounds_toArray,List.set_cons_zero,List.set_cons_succ]))
      refine uOne (i:=5) rfl (by kernel_rfl) (fun K hK=>?_)
      go_simp
      go_at_call 69
      refine (HED.out wd).mono ?_
      rintro e we ⟨rfl,hwe⟩
      have hbx1:=box_below wd (.cells (grc x ba n).toArray 105)
      have hbx2:=hbx1.alloc hbx1.size (.cells #[.int .i64 (tn:Int)] 3)
      have kg1:=(Blk.new wd 105 (grc x ba n)).al (.cells #[.int .i64 (tn:Int)] 3)
      have ks1:=Blk.at_ (b:=wd.heap.size + 1) (wd.alloc (.cells (grc x ba n).toArray 105)) 3 [.int .i64 (tn:Int)] (by simp)
      rw [HGC.out ba] at hbx2 kg1 ks1
      rw [← hwe] at hbx2
      rw [show ((wd.alloc (.cells (#[.slice A na ca,.int .i64 (n:Int),.slice M nm cm,.slice E ne ce,.slice (some ⟨ba,0,none⟩) (n + 1) (n + 1)]) 105)).alloc (.cells #[.int .i64 (tn:Int)] 3)) = we from hwe.symm] at kg1 ks1
      rw [← HGC.out ba] at kg1
      have HBE:=Lib.hid (HBD.out.trans (hbx2.mono HBD.out.size))
      have hA1:=HAX9.out we HBE.out
      clear hA0
      have hA0:=hA1
      have hwz:wd.heap.size + 1 < we.heap.size:=ks1.lt
      have hwd:wc.heap.size ≤ wd.heap.size:=HBD.out.size
      have HKG:=Lib.hid kg1
      have HKS:=Lib.hid ks1
      clear hwe hbx1 hbx2 kg1 ks1 HED
      (refine hK _ _ ⟨hA1,fun _=>hB0⟩ ?_;clear hK K;(try simp only [Act.put,List.setIfInBounds_toArray,List.set_cons_zero,List.set_cons_succ]))
      refine anyU_done (by kernel_rfl) ?_ _
      clear hA0 HAX9
      go_wp2
      have HME:=Lib.hid (HM2.out.quiet HBE.out)
      have hwe:wc.heap.size ≤ we.heap.size:=HBE.out.size
      have HGE:=Lib.hid (HME.out.gr (HX.out we HME.out.bel) hwx hnx)
      have HRE:=Lib.hid (show RdX we w.heap.size x.E x.a.ed from RdX.below HXX.out.re HME.out.bel)
      have HLB:=Lib.hid (show bN < wd.heap.size from by have:=HM2.out.kN.lt;omega)
      have hnoQ:∀ g,(Value.slice (some ad2) q qc).ownBlock = some g → g < wc.heap.size:=fun g e=>(HM2.out.rq.lt g e).2
      refine rf_named (fun a0 ha0=>?_)
      refine (wpIn_wide (n:=6)).1 ?_
      refine wpIn_rangeFunc_ownH (F:=Fence.wide) (n:=6) rfl (by omega) (gf:=89) (lb:=#[.pointer (some ⟨wd.heap.size,0,none⟩),.pointer (some ⟨wd.heap.size + 1,0,none⟩)]) (by rw [ha0];rfl) trivial (enters_of Try.func89 (by kernel_rfl) rfl)
       (edges_stops2 5 (by omega) wd.heap.size (wd.heap.size + 1) w.heap.size n tn ba x htn we HKG.out HKS.out HGE.out HRE.out (by have:=HME.out.siz;omega)) KpG.t (KpG.b (by have:=HME.out.siz;omega)) (Below.refl _ _) (fun _=>rfl)
       (fun pre V=>∃ (q2:Nat) (qv2 ev2:Value) (s2:Bs Int),Hid ((pre.map Subtype.val).foldl (rsE (0 :: tr) i) s = s2)∧Hid (RsM w V x ba n ds bO b9 bK bM (bN + 1) bN b12 (bQ + 1) bI i (.slice VA na vc) mv2 qv2 ev2 km2 q2 (0 :: tr) (mksN (mkA (kpA a (0 :: tr))) s.ts (i + 1)) s2)∧Hid (RsW n i pre.length s2)∧Hid (some (wd.heap.size + 1) ≠ qv2.ownBlock∧some wd.heap.size ≠ qv2.ownBlock)∧Hid (Blk V wd.heap.size 105 (grc x ba n))∧Hid (Blk V (wd.heap.size + 1) 3 [.int .i64 (tn:Int)]))
       (fun _ _ _=>False) ?hI (fun _ _ _ _ _ hs _ _=>hs) ⟨q,_,ev,s,Lib.hid rfl,HME,HSW,Lib.hid ⟨fun e=>by have:=hnoQ _ e.symm;omega,fun e=>by have:=hnoQ _ e.symm;omega⟩,HKG,HKS⟩
       (fun e a' V=>∃ Bx:Nat,wd.heap.size + 1 < Bx∧Hid (Blk V Bx 67 [.int .i64 e.1.f,.int .i64 e.1.e,.int .i64 e.1.t])∧a' = { tmps:=(a0.tmps.setIfInBounds 83 (.agg #[.int .i64 e.1.f,.int .i64 e.1.e,.int .i64 e.1.t])).setIfInBounds 15 (.pointer (some ⟨Bx,0,none⟩)),defers:=[] })
       ?hAx ?assign ?body ?done ?stop
      case hI =>
       rintro pre V V' row ⟨q2,qv2,ev2,s2,HRW,HM3,HS3,HNE,HG2,HI2⟩ hgr hrw
       exact ⟨q2,qv2,ev2,s2,HRW,Lib.hid (HM3.out.ncl hgr hrw (fun D hD=>by have:=(Array.getElem?_eq_some_iff.1 (HME.out.mrk D hD).2).1;omega) (by have:=HME.out.siz;omega)),HS3,HNE,Lib.hid (HG2.out.ncl hgr (fun r e=>(hrw r e).2)),Lib.hid (HI2.out.ncl hgr (fun r e=>(hrw r e).2))⟩
      case hAx =>
       rintro e a' _ V V' row ⟨Bx,h1,h2,h3⟩ hgr hrw
       exact ⟨Bx,h1,Lib.hid (h2.out.ncl hgr (fun r e=>(hrw r e).2)),h3⟩
      case assign =>
       rintro ll pre e V K ⟨q2,qv2,ev2,s2,HRW,HM3,HS3,HNE,HG2,HI2⟩ hK
       subst ha0
       dsimp only [evl]
       gi_wp2
       have hbv:=box_below V (.cells #[.int .i64 e.1.f,.int .i64 e.1.e,.int .i64 e.1.t] 67)
       have hsv:=HM3.out.siz
       have hi2:=HI2.out.lt
       refine hK _ _ ((KeepsOthers.alloc _ _).from _) ⟨hbv.mono (by omega),fun t vs hb=>hb.al _,fun t vs hb=>hb.al _⟩ ⟨q2,qv2,ev2,s2,HRW,Lib.hid (HM3.out.quiet hbv),HS3,HNE,Lib.hid (HG2.out.al _),Lib.hid (HI2.out.al _)⟩ ⟨V.heap.size,by omega,Lib.hid (Blk.new _ _ [_,_,_]),rfl⟩
      case body =>
       rintro ll pre ⟨ee,hee⟩ a' V hl9 ⟨r9,hr9⟩ ⟨q2,qv2,ev2,s2,HRW,HM3,HS3,HNE,HG2,HI2⟩ ⟨Bx,hBx,HKX,rfl⟩ hlen
       subst ha0
       dsimp only at HKX
       simp only [List.setIfInBounds_toArray,List.set_cons_succ,List.set_cons_zero]
       have hme:=outE_mem.1 hee
       rw [HXA.out] at hme
       have hev:=HWF.out.ev_rng hme.1
       rw [HST.out] at hev
       obtain ⟨fq,hfq⟩:∃ z,fl (inF n (0 :: tr)) ee.t = z:=⟨_,rfl⟩
       have hpl:pre.length ≤ 31:=by have h1:=out_len hwx (tn:Int);omega
       have c9:=HM3.out.k9.cell (j:=0) rfl
       have x1:=HKX.out.cell (j:=1) rfl
       have x2:=HKX.out.cell (j:=2) rfl
       have g1:V.cell? ⟨bK,ee.t.toNat,none⟩ = some (.bool fq):=HM3.out.kK.cell (by rw [bvl_get,fl_get hfq (by omega) (by rw [inF_len];omega)];rfl)
       have t0:¬ ee.t < 0:=by omega
       have t1:ee.t < (n:Int):=by omega
       have t2:(0:Int) ≤ ee.t:=by omega
       have t3:ee.t.toNat < n:=by omega
       have HSN:=Lib.hid (HS3.out.step (K:=0 :: tr) (x:=ee) t2 t1)
       have HFQ:=Lib.hid (show hasB (0 :: tr) ee.t = fq from by
        rw [← hfq,Bool.eq_iff_iff,hasB_mem,inF_fl HTR.out t2])
       have HRW2:=Lib.hid (show ((pre ++ [(⟨ee,hee⟩:{ e:Ed // e ∈ outE x.a (tn:Int) })]).map Subtype.val).foldl (rsE (0 :: tr) i) s = rsE (0 :: tr) i s2 ee from by
        rw [List.map_append,List.foldl_append,HRW.out];rfl)
       clear hfq
       cases fq with
       | false =>
        have HNO:=Lib.hid (rsE_no (i:=i) (s:=s2) HFQ.out)
        gi_wp2
        exact ⟨KeepsFrom.refl _ _,⟨Below.refl _ _,fun _ _ h=>h,fun _ _ h=>h⟩,q2,qv2,ev2,s2,Lib.hid (HRW2.out.trans HNO.out),HM3,Lib.hid (by have h:=HSN.out;rw [HNO.out] at h;rw [List.length_append];exact h),HNE,HG2,HI2⟩
       | true =>
        obtain ⟨nv,hnv⟩:∃ z,idx s2.ts ee.t + 1 = z:=⟨_,rfl⟩
        have hige:=idx_ge s2.ts ee.t
        have hilt:idx s2.ts ee.t < (s2.ts.length:Int):=by
         by_cases hm:ee.t ∈ s2.ts
         ·obtain ⟨k,h1,h2⟩:=idx_yes hm
          have:=(List.getElem?_eq_some_iff.1 h2).1
          omega
         ·rw [idx_no hm];omega
        have hsl:=HS3.out.len
        have hnv0:0 ≤ nv:=by omega
        have hnv1:nv ≤ 4096:=by omega
        have c11:=HM3.out.k11.cell (j:=0) rfl
        have n1:V.cell? ⟨bN,ee.t.toNat,none⟩ = some (.int .i64 nv):=HM3.out.kN.cell (by rw [iv_get,nmL_get t2 t1,hnv];rfl)
        obtain ⟨QB,qc2,rfl⟩:=HM3.out.rq.shape
        have hql2:s2.ts.length = q2:=HM3.out.rq.1
        by_cases hz:nv = 0
        ·subst hz
         have hneg:idx s2.ts ee.t < 0:=by omega
         have HNW:=Lib.hid (rsE_new (i:=i) HFQ.out hneg)
         have HNP:=Lib.hid (nmL_push (n:=n) hneg t2)
         have HNI:=Lib.hid (idx_new (idx_neg.1 hneg))
         have c13:=HM3.out.k13.cell (j:=0) rfl
         have hmb:q2 + 1 ≤ 1000000:=by omega
         have HBX:=Lib.hid (box_below V (.cells #[.int .i64 ee.t] 3))
         have HM6:=Lib.hid (HM3.out.quiet HBX.out)
         have HNW1:=Lib.hid (show Blk (V.alloc (.cells #[.int .i64 ee.t] 3)) V.heap.size 3 [.int .i64 ee.t] from Blk.new _ _ [_])
         have HK6:=Lib.hid (HKX.out.al (.cells #[.int .i64 ee.t] 3))
         have hb3:w.heap.size ≤ (V.alloc (.cells #[.int .i64 ee.t] 3)).heap.size:=by have:=HM6.out.siz;omega
         have nb1:¬ bN = bQ + 1:=blk_apart HM3.out.kN HM3.out.k13 (by decide)
         have nb2:¬ Bx = bQ + 1:=blk_apart HKX.out HM3.out.k13 (by decide)
         have nb3:¬ bN + 1 = bQ + 1:=HM3.out.n13
         have nb4:¬ Bx = bN:=blk_apart HKX.out HM3.out.kN (by decide)
         have nb5:¬ bN = bQ:=by omega
         have hN3:ee.t.toNat < n:=t3
         have HNV:=Lib.hid hnv;clear hnv
         clear hige hilt hnv0 hnv1
         have HQ2:=Lib.hid hql2;clear hql2
         gi_upto_region 26 with (first
          | (gi_at_builtin;refine wpListIn_push_q (V.alloc (.cells #[.int .i64 ee.t] 3)) rfl (.tmp 96) (.tmp 99) rfl w.heap.size (.slice QB q2 qc2) q2 s2.ts rfl HM6.out.rq ee.t V.heap.size rfl HNW1.out hmb hb3 ?_;intro v9 w9 ho9 hg9 hn9;obtain ⟨A9,c99,rfl⟩:=ho9.shape;obtain ⟨HMF,k139,kN9,_⟩:=HM6.out.push (t:=ee.t) ho9 hg9 hn9 HNP.out t3;have k119:=q_blk HM6.out.rq hg9 HM6.out.k11 (by decide);have kx9:=q_blk HM6.out.rq hg9 HK6.out (by decide);have e13:=k139.cell (j:=0) rfl;have f13:=k139.free 0;have l13:=k139.lt;have e11:=k119.cell (j:=0) rfl;have x29:=kx9.cell (j:=2) rfl;have eN:w9.cell? ⟨bN,ee.t.toNat,none⟩ = some (.int .i64 0):=kN9.cell (by rw [iv_get,nmL_get t2 t1,HNV.out];rfl);have fN:=kN9.free ee.t.toNat;have lN:=kN9.lt;have HMF:=Lib.hid HMF)
          | fail)
         obtain ⟨V3,hV3⟩:∃ z,z = ((w9.setCell ⟨bQ + 1,0,none⟩ (.slice A9 (q2 + 1) c99)).setCell ⟨bN,ee.t.toNat,none⟩ (.int .i64 ((q2 + 1:Nat):Int))):=⟨_,rfl⟩
         have hg13:=grown_setCell w9 (bQ + 1) 0 (.slice A9 (q2 + 1) c99)
         have hgbN:=grown_setCell (w9.setCell ⟨bQ + 1,0,none⟩ (.slice A9 (q2 + 1) c99)) bN ee.t.toNat (.int .i64 ((q2 + 1:Nat):Int))
         have hg2:=hg13
         have KP3:=Lib.hid (show ∀ b,some b ≠ (Value.slice QB q2 qc2).ownBlock → b ≠ bQ + 1 → b ≠ bN → ∀ t9 vs,Blk V b t9 vs → Blk V3 b t9 vs from fun b h1 h2 h3 t9 vs h=>by
          rw [hV3]
          exact ((((h.al _).kept hg9 h1).kept hg13 (fun e=>h2 (by injection e))).kept hgbN (fun e=>h3 (by injection e))))
         have HB3:=Lib.hid (show Below w.heap.size V V3 from by
          rw [hV3]
          have h1:Below w.heap.size V (V.alloc (.cells #[.int .i64 ee.t] 3)):=HBX.out.mono (by have:=HM3.out.siz;omega)
          have h2:=h1.grown hg9 hb3 (fun k e=>(HM6.out.rq.lt k e).1)
          have hl:=HM3.out.lN
          exact (h2.setCell (p:=⟨bQ + 1,0,none⟩) (by show w.heap.size ≤ bQ + 1;have:=HM3.out.l13;omega) _).setCell (p:=⟨bN,ee.t.toNat,none⟩) (by show w.heap.size ≤ bN;omega) _)
         have KO3:=Lib.hid (show KeepsOthers V V3 from by
          rw [hV3]
          exact (((KeepsOthers.alloc V (.cells #[.int .i64 ee.t] 3)).trans (KeepsOthers.of_grownBy hg9 HM6.out.rq.cells)).trans (KeepsOthers.setCell w9 ⟨bQ + 1,0,none⟩ (.slice A9 (q2 + 1) c99))).trans (KeepsOthers.setCell _ ⟨bN,ee.t.toNat,none⟩ (.int .i64 ((q2 + 1:Nat):Int))))
         have HNE3:=Lib.hid (show some (wd.heap.size + 1) ≠ (Value.slice A9 (q2 + 1) c99).ownBlock∧some wd.heap.size ≠ (Value.slice A9 (q2 + 1) c99).ownBlock from by
          have hi2:=HI2.out.lt
          have hz9:(V.alloc (.cells #[.int .i64 ee.t] 3)).heap.size = V.heap.size + 1:=by simp
          have hx:∀ b,b < V.heap.size → some b ≠ (Value.slice QB q2 qc2).ownBlock → some b ≠ (Value.slice A9 (q2 + 1) c99).ownBlock:=fun b hb h e=>by
           rcases hn9 with h9 | h9
           ·exact h (e.trans h9)
           ·rw [h9] at e;injection e with e;omega
          exact ⟨hx _ hi2 HNE.out.1,hx _ (by omega) HNE.out.2⟩)
         rw [← hV3] at HMF
         have hgoal:((w9.setCell ⟨bQ + 1,0,none⟩ (.slice A9 (q2 + 1) c99)).setCell ⟨bN,ee.t.toNat,none⟩ (.int .i64 ((q2:Int) + 1))) = V3:=by rw [hV3];rfl
         rw [hgoal]
         obtain ⟨s3,hs3⟩:∃ z:Bs Int,z = ⟨s2.ts ++ [ee.t],s2.es⟩:=⟨_,rfl⟩
         rw [← hs3] at HMF
         obtain ⟨idv,hidv⟩:∃ z:Int,z = (s2.ts.length:Int):=⟨_,rfl⟩
         have HRS:=Lib.hid (show rsE (0 :: tr) i s2 ee = ⟨s3.ts,s3.es ++ [⟨i,ee.e,idv⟩]⟩ from by rw [HNW.out,hs3,hidv])
         have HND:=Lib.hid (show idx s3.ts ee.t = idv from by rw [hs3,hidv];exact HNI.out)
         have hid0:0 ≤ idv:=by omega
         have hid1:idv ≤ 4096:=by have:=HQ2.out;omega
         obtain ⟨qv3,hqv3⟩:∃ z,z = Value.slice A9 (q2 + 1) c99:=⟨_,rfl⟩
         obtain ⟨q3,hq3⟩:∃ z,z = q2 + 1:=⟨_,rfl⟩
         rw [← hqv3,← hq3] at HMF
         rw [← hqv3] at HNE3
         have HKX3:=Lib.hid (KP3.out Bx (HM3.out.rq.apart HKX.out (by decide)) nb2 nb4 _ _ HKX.out)
         have HG3:=Lib.hid (KP3.out _ HNE.out.2 (blk_apart HG2.out HM3.out.k13 (by decide)) (blk_apart HG2.out HM3.out.kN (by decide)) _ _ HG2.out)
         have HI3:=Lib.hid (KP3.out _ HNE.out.1 (blk_apart HI2.out HM3.out.k13 (by decide)) (by have:=HLB.out;omega) _ _ HI2.out)
         have KG3:=Lib.hid (KP3.out _ HNE.out.2 (blk_apart HG2.out HM3.out.k13 (by decide)) (blk_apart HG2.out HM3.out.kN (by decide)))
         have KI3:=Lib.hid (KP3.out _ HNE.out.1 (blk_apart HI2.out HM3.out.k13 (by decide)) (by have:=HLB.out;omega))
         clear KP3 hg13 hgbN hg2 hgoal hs3 hidv hqv3 hq3 hV3 c9 x1 x2 g1 c11 n1 c13 HNW HNP HNI HBX HM6 HNW1 HK6 hb3 hmb nb1 nb2 nb3 nb4 nb5 hN3 HQ2 HNV ho9 hg9 hn9 k139 kN9 k119 kx9 e13 f13 l13 e11 x29 eN fN lN HNE HKX
         obtain ⟨EA,ec,rfl⟩:=own_shape HMF.out.re
         have HS5:=Lib.hid (show s3.es.length + 1 ≤ 200000 from by
          have h1:=HSN.out.es
          rw [HRS.out] at h1
          simp only [List.length_append,List.length_singleton] at h1
          omega)
         have HBF:=Lib.hid (fun (U:World) (hU:Below V3.heap.size V3 U)=>(show U.cell? ⟨bO,3,none⟩ = some (.slice EA s3.es.length ec)∧U.cell? ⟨bI,0,none⟩ = some (.int .i64 (i:Int))∧(U.cell? ⟨Bx,1,none⟩ = some (.int .i64 ee.e)∧U.cell? ⟨Bx,2,none⟩ = some (.int .i64 ee.t))∧U.cell? ⟨bN + 1,0,none⟩ = some (.slice (some ⟨bN,0,none⟩) n n)∧U.cell? ⟨bN,ee.t.toNat,none⟩ = some (.int .i64 (idv + 1)) from
          ⟨(HMF.out.out.below hU HMF.out.out.lt).cell (j:=3) rfl,(HMF.out.kI.below hU HMF.out.kI.lt).cell (j:=0) rfl,⟨(HKX3.out.below hU HKX3.out.lt).cell (j:=1) rfl,(HKX3.out.below hU HKX3.out.lt).cell (j:=2) rfl⟩,(HMF.out.k11.below hU HMF.out.k11.lt).cell (j:=0) rfl,(HMF.out.kN.below hU HMF.out.kN.lt).cell (by rw [iv_get,nmL_get t2 t1,HND.out];rfl)⟩))
         refine wpIn_region_U (fun _=>True) (fun V=>V.cell? ⟨bO,3,none⟩ = some (.slice EA s3.es.length ec)∧V.cell? ⟨bI,0,none⟩ = some (.int .i64 (i:Int))∧(V.cell? ⟨Bx,1,none⟩ = some (.int .i64 ee.e)∧V.cell? ⟨Bx,2,none⟩ = some (.int .i64 ee.t))∧V.cell? ⟨bN + 1,0,none⟩ = some (.slice (some ⟨bN,0,none⟩) n n)∧V.cell? ⟨bN,ee.t.toNat,none⟩ = some (.int .i64 (idv + 1))) 13 (by kernel_rfl) (by kernel_rfl) ?_
         change anyU _ _ _ _ _ _ _ 16 _ _ _
         have hA0:True:=trivial
         have HBD3:=Lib.hid (below_dr V3)
         have hB0:=HBF.out _ HBD3.out
         have HMD:=Lib.hid (HMF.out.quiet HBD3.out)
         generalize V3.drew = wd3 at HBD3 hB0 HMD ⊢
         have hwi:IntKind.i64.wrap idv = idv:=IntWalk.i64_in _ (by omega)
         (refine uA 0 ?_ rfl hA0 hB0 (fun W hA=>?_) ?_;rotate_left;(· (go_simp;try with_reducible rfl));(try simp only [Act.put,List.setIfInBounds_toArray,List.set_cons_zero,List.set_cons_succ]))
         (refine uBT 1 ?_ rfl hA0 hB0 (fun W hA hB=>?_) ?_;rotate_left;(· (obtain ⟨b0,_⟩:=hB;go_simp;try with_reducible rfl));(try simp only [Act.put,List.setIfInBounds_toArray,List.set_cons_zero,List.set_cons_succ]))
         (refine uBT 2 ?_ rfl hA0 hB0 (fun W hA hB=>?_) ?_;rotate_left;(· (obtain ⟨_,b0,_⟩:=hB;go_simp;try with_reducible rfl));(try simp only [Act.put,List.setIfInBounds_toArray,List.set_cons_zero,List.set_cons_succ]))
         (refine uA 3 ?_ rfl hA0 hB0 (fun W hA=>?_) ?_;rotate_left;(· (go_simp;try with_reducible rfl));(try simp only [Act.put,List.setIfInBounds_toArray,List.set_cons_zero,List.set_cons_succ]))
         (refine uBT 4 ?_ rfl hA0 hB0 (fun W hA hB=>?_) ?_;rotate_left;(· (obtain ⟨_,_,⟨b0,_⟩,_⟩:=hB;go_simp;try with_reducible rfl));(try simp only [Act.put,List.setIfInBounds_toArray,List.set_cons_zero,List.set_cons_succ]))
         (refine uBT 5 ?_ rfl hA0 hB0 (fun W hA hB=>?_) ?_;rotate_left;(· (obtain ⟨_,_,_,b0,_⟩:=hB;go_simp;try with_reducible rfl));(try simp only [Act.put,List.setIfInBounds_toArray,List.set_cons_zero,List.set_cons_succ]))
         (refine uA 6 ?_ rfl hA0 hB0 (fun W hA=>?_) ?_;rotate_left;(· (go_simp;try with_reducible rfl));(try simp only [Act.put,List.setIfInBounds_toArray,List.set_cons_zero,List.set_cons_succ]))
         (refine uBT 7 ?_ rfl hA0 hB0 (fun W hA hB=>?_) ?_;rotate_left;(· (obtain ⟨_,_,⟨_,b0⟩,_⟩:=hB;go_simp;try with_reducible rfl));(try simp only [Act.put,List.setIfInBounds_toArray,List.set_cons_zero,List.set_cons_succ]))
         (refine uA 8 ?_ rfl hA0 hB0 (fun W hA=>?_) ?_;rotate_left;(· (go_simp;try with_reducible rfl));(try simp only [Act.put,List.setIfInBounds_toArray,List.set_cons_zero,List.set_cons_succ]))
         (refine uBT 9 ?_ rfl hA0 hB0 (fun W hA hB=>?_) ?_;rotate_left;(· (obtain ⟨_,_,_,_,b0⟩:=hB;go_simp;try with_reducible rfl));(try simp only [Act.put,List.setIfInBounds_toArray,List.set_cons_zero,List.set_cons_succ]))
         (refine uA 10 ?_ rfl hA0 hB0 (fun W hA=>?_) ?_;rotate_left;(· (go_simp;try with_reducible rfl));refine uA 11 ?_ rfl hA0 hB0 (fun W hA=>?_) ?_;rotate_left;(· (go_simp;try with_reducible rfl));(try simp only [Act.put,List.setIfInBounds_toArray,List.set_cons_zero,List.set_cons_succ]))
         clear hB0
         refine uOne (i:=12) rfl (by kernel_rfl) (fun K hK=>?_)
         go_simp
         have hB1:=HBF.out _ (HBD3.out.trans ((box_below wd3 (.cells #[.int .i64 (i:Int),.int .i64 ee.e,.int .i64 idv] 67)).mono HBD3.out.size))
         (refine hK _ _ ⟨hA0,fun _=>hB1⟩ ?_;clear hK K;(try simp only [Act.put,List.setIfInBounds_toArray,List.set_cons_zero,List.set_cons_succ]))
         clear hB1 HBF
         refine uOne (i:=13) rfl (by kernel_rfl) (fun K hK=>?_)
         have hs5:=HS5.out
         refine step_pushN wd3 [.int .i64 (i:Int),.int .i64 ee.e,.int .i64 idv] (by rfl) (.tmp 108) (.tmp 119) 30 (by rfl) w.heap.size 67 (.agg #[.int .i64 0,.int .i64 0,.int .i64 0]) 3 24 Try.underlying30 edge_info (by rfl) (by decide) (by rfl) (.slice EA s3.es.length ec) s3.es.length _ (by rfl) HMD.out.re (by rfl) (fun z hz9=>by simp at hz9;rcases hz9 with rfl | rfl | rfl <;> rfl) (by omega) (by omega) (by have:=HMD.out.siz;omega) ?_
         intro A9e c9e w8 ho8 hg8
         obtain ⟨HM8,kO8⟩:=HMD.out.edge (e:=⟨i,ee.e,idv⟩) ho8 hg8
         have e8:=kO8.cell (j:=3) rfl
         have f8:=kO8.free 3
         have l8:=kO8.lt
         have HM8:=Lib.hid HM8
         (refine hK _ _ ⟨hA0,fun h=>absurd (h.symm.trans (by kernel_rfl:_ = true)) Bool.false_ne_true⟩ ?_;clear hK K;(try simp only [Act.put,List.setIfInBounds_toArray,List.set_cons_zero,List.set_cons_succ]))
         refine uOne (i:=14) rfl (by kernel_rfl) (fun K hK=>?_)
         go_simp
         (refine hK _ _ ⟨hA0,fun h=>absurd (h.symm.trans (by kernel_rfl:_ = true)) Bool.false_ne_true⟩ ?_;clear hK K;(try simp only [Act.put,List.setIfInBounds_toArray,List.set_cons_zero,List.set_cons_succ]))
         refine uOne (i:=15) rfl (by kernel_rfl) (fun K hK=>?_)
         go_simp
         (refine hK _ _ ⟨hA0,fun h=>absurd (h.symm.trans (by kernel_rfl:_ = true)) Bool.false_ne_true⟩ ?_;clear hK K;(try simp only [Act.put,List.setIfInBounds_toArray,List.set_cons_zero,List.set_cons_succ]))
         refine anyU_done (by kernel_rfl) (onlyN_ok ?_) _
         clear e8 f8 l8 hs5 hwi
         gi_wp2
         have hgO:=grown_setCell w8 bO 3 (.slice A9e (s3.es.length + 1) c9e)
         have ko:=KO3.out.trans (((KeepsOthers.of_grownBy (grown_below HBD3.out none) (fun _ _ e=>by cases e)).trans (KeepsOthers.of_grownBy hg8 (own_cells HMD.out.re))).trans (KeepsOthers.setCell w8 ⟨bO,3,none⟩ (.slice A9e (s3.es.length + 1) c9e)))
         have hzw:=HMF.out.siz
         have hzd:=HMD.out.siz
         have hlo:=HMF.out.lO
         have bel:=HB3.out.trans (((HBD3.out.mono (by omega)).grown hg8 (by omega) (fun k e=>(HMD.out.re.lt k e).1)).setCell (p:=⟨bO,3,none⟩) (by show w.heap.size ≤ bO;omega) (.slice A9e (s3.es.length + 1) c9e))
         have pk:∀ b tt uu,Blk V3 b tt uu → 67 ≠ tt → 32 ≠ tt → ∀ t9 vs,Blk V3 b t9 vs → Blk (w8.setCell ⟨bO,3,none⟩ (.slice A9e (s3.es.length + 1) c9e)) b t9 vs:=fun b tt uu h0 h1 h2 t9 vs h =>
          ((h.below HBD3.out h.lt).kept hg8 (blk_ne_own HMD.out.re (h0.below HBD3.out h0.lt) h1)).kept hgO (fun e=>by injection e with e;exact blk_apart h0 HMF.out.out (Ne.symm h2) e)
         have p1:∀ t9 vs,Blk V wd.heap.size t9 vs → Blk (w8.setCell ⟨bO,3,none⟩ (.slice A9e (s3.es.length + 1) c9e)) wd.heap.size t9 vs:=fun t9 vs h=>pk _ _ _ HG3.out (by decide) (by decide) _ _ (KG3.out _ _ h)
         have p2:∀ t9 vs,Blk V (wd.heap.size + 1) t9 vs → Blk (w8.setCell ⟨bO,3,none⟩ (.slice A9e (s3.es.length + 1) c9e)) (wd.heap.size + 1) t9 vs:=fun t9 vs h=>pk _ _ _ HI3.out (by decide) (by decide) _ _ (KI3.out _ _ h)
         exact ⟨ko.from _,⟨bel,p1,p2⟩,q3,qv3,_,_,Lib.hid (HRW2.out.trans HRS.out),HM8,Lib.hid (by have h:=HSN.out;rw [HRS.out] at h;rw [List.length_append];exact h),HNE3,Lib.hid (p1 _ _ HG2.out),Lib.hid (p2 _ _ HI2.out)⟩
        ·have HNW:=Lib.hid (rsE_old (i:=i) (s:=s2) HFQ.out (by omega))
         have hzb:(nv == 0) = false:=by simpa using hz
         clear hsl
         gi_upto_region 26 with fail
         obtain ⟨V3,hV3⟩:∃ z,z = V:=⟨_,rfl⟩
         have HMF:=Lib.hid HM3.out
         have HB3:=Lib.hid (show Below w.heap.size V V3 from by rw [hV3];exact Below.refl _ _)
         have KO3:=Lib.hid (show KeepsOthers V V3 from by rw [hV3];exact KeepsOthers.refl V)
         have HNE3:=HNE
         obtain ⟨s3,hs3⟩:∃ z:Bs Int,z = s2:=⟨_,rfl⟩
         obtain ⟨idv,hidv⟩:∃ z:Int,z = idx s2.ts ee.t:=⟨_,rfl⟩
         have HRS:=Lib.hid (show rsE (0 :: tr) i s2 ee = ⟨s3.ts,s3.es ++ [⟨i,ee.e,idv⟩]⟩ from by rw [HNW.out,hs3,hidv])
         have HND:=Lib.hid (show idx s3.ts ee.t = idv from by rw [hs3,hidv])
         have hid0:0 ≤ idv:=by omega
         have hid1:idv ≤ 4096:=by omega
         obtain ⟨qv3,hqv3⟩:∃ z,z = Value.slice QB q2 qc2:=⟨_,rfl⟩
         obtain ⟨q3,hq3⟩:∃ z,z = q2:=⟨_,rfl⟩
         rw [← hqv3,← hq3,← hs3] at HMF
         rw [← hqv3] at HNE3
         rw [← hV3]
         have HKX3:=Lib.hid (show Blk V3 Bx 67 [.int .i64 ee.f,.int .i64 ee.e,.int .i64 ee.t] from by rw [hV3];exact HKX.out)
         have HG3:=Lib.hid (show Blk V3 wd.heap.size 105 (grc x ba n) from by rw [hV3];exact HG2.out)
         have HI3:=Lib.hid (show Blk V3 (wd.heap.size + 1) 3 [.int .i64 (tn:Int)] from by rw [hV3];exact HI2.out)
         have KG3:=Lib.hid (show ∀ t9 vs,Blk V wd.heap.size t9 vs → Blk V3 wd.heap.size t9 vs from fun _ _ h=>by rw [hV3];exact h)
         have KI3:=Lib.hid (show ∀ t9 vs,Blk V (wd.heap.size + 1) t9 vs → Blk V3 (wd.heap.size + 1) t9 vs from fun _ _ h=>by rw [hV3];exact h)
         have HMF:=Lib.hid (show RsM w V3 x ba n ds bO b9 bK bM (bN + 1) bN b12 (bQ + 1) bI i (.slice VA na vc) mv2 qv3 ev2 km2 q3 (0 :: tr) (mksN (mkA (kpA a (0 :: tr))) s.ts (i + 1)) s3 from by rw [hV3];exact HMF.out)
         clear hs3 hidv hqv3 hq3 hV3 c9 x1 x2 g1 c11 n1 HNW hige hilt hnv0 hnv1 hzb hz hnv HNE HKX hql2
         obtain ⟨EA,ec,rfl⟩:=own_shape HMF.out.re
         have HS5:=Lib.hid (show s3.es.length + 1 ≤ 200000 from by
          have h1:=HSN.out.es
          rw [HRS.out] at h1
          simp only [List.length_append,List.length_singleton] at h1
          omega)
         have HBF:=Lib.hid (fun (U:World) (hU:Below V3.heap.size V3 U)=>(show U.cell? ⟨bO,3,none⟩ = some (.slice EA s3.es.length ec)∧U.cell? ⟨bI,0,none⟩ = some (.int .i64 (i:Int))∧(U.cell? ⟨Bx,1,none⟩ = some (.int .i64 ee.e)∧U.cell? ⟨Bx,2,none⟩ = some (.int .i64 ee.t))∧U.cell? ⟨bN + 1,0,none⟩ = some (.slice (some ⟨bN,0,none⟩) n n)∧U.cell? ⟨bN,ee.t.toNat,none⟩ = some (.int .i64 (idv + 1)) from
          ⟨(HMF.out.out.below hU HMF.out.out.lt).cell (j:=3) rfl,(HMF.out.kI.below hU HMF.out.kI.lt).cell (j:=0) rfl,⟨(HKX3.out.below hU HKX3.out.lt).cell (j:=1) rfl,(HKX3.out.below hU HKX3.out.lt).cell (j:=2) rfl⟩,(HMF.out.k11.below hU HMF.out.k11.lt).cell (j:=0) rfl,(HMF.out.kN.below hU HMF.out.kN.lt).cell (by rw [iv_get,nmL_get t2 t1,HND.out];rfl)⟩))
         refine wpIn_region_U (fun _=>True) (fun V=>V.cell? ⟨bO,3,none⟩ = some (.slice EA s3.es.length ec)∧V.cell? ⟨bI,0,none⟩ = some (.int .i64 (i:Int))∧(V.cell? ⟨Bx,1,none⟩ = some (.int .i64 ee.e)∧V.cell? ⟨Bx,2,none⟩ = some (.int .i64 ee.t))∧V.cell? ⟨bN + 1,0,none⟩ = some (.slice (some ⟨bN,0,none⟩) n n)∧V.cell? ⟨bN,ee.t.toNat,none⟩ = some (.int .i64 (idv + 1))) 13 (by kernel_rfl) (by kernel_rfl) ?_
         change anyU _ _ _ _ _ _ _ 16 _ _ _
         have hA0:True:=trivial
         have HBD3:=Lib.hid (below_dr V3)
         have hB0:=HBF.out _ HBD3.out
         have HMD:=Lib.hid (HMF.out.quiet HBD3.out)
         generalize V3.drew = wd3 at HBD3 hB0 HMD ⊢
         have hwi:IntKind.i64.wrap idv = idv:=IntWalk.i64_in _ (by omega)
         (refine uA 0 ?_ rfl hA0 hB0 (fun W hA=>?_) ?_;rotate_left;(· (go_simp;try with_reducible rfl));(try simp only [Act.put,List.setIfInBounds_toArray,List.set_cons_zero,List.set_cons_succ]))
         (refine uBT 1 ?_ rfl hA0 hB0 (fun W hA hB=>?_) ?_;rotate_left;(· (obtain ⟨b0,_⟩:=hB;go_simp;try with_reducible rfl));(try simp only [Act.put,List.setIfInBounds_toArray,List.set_cons_zero,List.set_cons_succ]))
         (refine uBT 2 ?_ rfl hA0 hB0 (fun W hA hB=>?_) ?_;rotate_left;(· (obtain ⟨_,b0,_⟩:=hB;go_simp;try with_reducible rfl));(try simp only [Act.put,List.setIfInBounds_toArray,List.set_cons_zero,List.set_cons_succ]))
         (refine uA 3 ?_ rfl hA0 hB0 (fun W hA=>?_) ?_;rotate_left;(· (go_simp;try with_reducible rfl));(try simp only [Act.put,List.setIfInBounds_toArray,List.set_cons_zero,List.set_cons_succ]))
         (refine uBT 4 ?_ rfl hA0 hB0 (fun W hA hB=>?_) ?_;rotate_left;(· (obtain ⟨_,_,⟨b0,_⟩,_⟩:=hB;go_simp;try with_reducible rfl));(try simp only [Act.put,List.setIfInBounds_toArray,List.set_cons_zero,List.set_cons_succ]))
         (refine uBT 5 ?_ rfl hA0 hB0 (fun W hA hB=>?_) ?_;rotate_left;(· (obtain ⟨_,_,_,b0,_⟩:=hB;go_simp;try with_reducible rfl));(try simp only [Act.put,List.setIfInBounds_toArray,List.set_cons_zero,List.set_cons_succ]))
         (refine uA 6 ?_ rfl hA0 hB0 (fun W hA=>?_) ?_;rotate_left;(· (go_simp;try with_reducible rfl));(try simp only [Act.put,List.setIfInBounds_toArray,List.set_cons_zero,List.set_cons_succ]))
         (refine uBT 7 ?_ rfl hA0 hB0 (fun W hA hB=>?_) ?_;rotate_left;(· (obtain ⟨_,_,⟨_,b0⟩,_⟩:=hB;go_simp;try with_reducible rfl));(try simp only [Act.put,List.setIfInBounds_toArray,List.set_cons_zero,List.set_cons_succ]))
         (refine uA 8 ?_ rfl hA0 hB0 (fun W hA=>?_) ?_;rotate_left;(· (go_simp;try with_reducible rfl));(try simp only [Act.put,List.setIfInBounds_toArray,List.set_cons_zero,List.set_cons_succ]))
         (refine uBT 9 ?_ rfl hA0 hB0 (fun W hA hB=>?_) ?_;rotate_left;(· (obtain ⟨_,_,_,_,b0⟩:=hB;go_simp;try with_reducible rfl));(try simp only [Act.put,List.setIfInBounds_toArray,List.set_cons_zero,List.set_cons_succ]))
         (refine uA 10 ?_ rfl hA0 hB0 (fun W hA=>?_) ?_;rotate_left;(· (go_simp;try with_reducible rfl));refine uA 11 ?_ rfl hA0 hB0 (fun W hA=>?_) ?_;rotate_left;(· (go_simp;try with_reducible rfl));(try simp only [Act.put,List.setIfInBounds_toArray,List.set_cons_zero,List.set_cons_succ]))
         clear hB0
         refine uOne (i:=12) rfl (by kernel_rfl) (fun K hK=>?_)
         go_simp
         have hB1:=HBF.out _ (HBD3.out.trans ((box_below wd3 (.cells #[.int .i64 (i:Int),.int .i64 ee.e,.int .i64 idv] 67)).mono HBD3.out.size))
         (refine hK _ _ ⟨hA0,fun _=>hB1⟩ ?_;clear hK K;(try simp only [Act.put,List.setIfInBounds_toArray,List.set_cons_zero,List.set_cons_succ]))
         clear hB1 HBF
         refine uOne (i:=13) rfl (by kernel_rfl) (fun K hK=>?_)
         have hs5:=HS5.out
         refine step_pushN wd3 [.int .i64 (i:Int),.int .i64 ee.e,.int .i64 idv] (by rfl) (.tmp 108) (.tmp 119) 30 (by rfl) w.heap.size 67 (.agg #[.int .i64 0,.int .i64 0,.int .i64 0]) 3 24 Try.underlying30 edge_info (by rfl) (by decide) (by rfl) (.slice EA s3.es.length ec) s3.es.length _ (by rfl) HMD.out.re (by rfl) (fun z hz9=>by simp at hz9;rcases hz9 with rfl | rfl | rfl <;> rfl) (by omega) (by omega) (by have:=HMD.out.siz;omega) ?_
         intro A9e c9e w8 ho8 hg8
         obtain ⟨HM8,kO8⟩:=HMD.out.edge (e:=⟨i,ee.e,idv⟩) ho8 hg8
         have e8:=kO8.cell (j:=3) rfl
         have f8:=kO8.free 3
         have l8:=kO8.lt
         have HM8:=Lib.hid HM8
         (refine hK _ _ ⟨hA0,fun h=>absurd (h.symm.trans (by kernel_rfl:_ = true)) Bool.false_ne_true⟩ ?_;clear hK K;(try simp only [Act.put,List.setIfInBounds_toArray,List.set_cons_zero,List.set_cons_succ]))
         refine uOne (i:=14) rfl (by kernel_rfl) (fun K hK=>?_)
         go_simp
         (refine hK _ _ ⟨hA0,fun h=>absurd (h.symm.trans (by kernel_rfl:_ = true)) Bool.false_ne_true⟩ ?_;clear hK K;(try simp only [Act.put,List.setIfInBounds_toArray,List.set_cons_zero,List.set_cons_succ]))
         refine uOne (i:=15) rfl (by kernel_rfl) (fun K hK=>?_)
         go_simp
         (refine hK _ _ ⟨hA0,fun h=>absurd (h.symm.trans (by kernel_rfl:_ = true)) Bool.false_ne_true⟩ ?_;clear hK K;(try simp only [Act.put,List.setIfInBounds_toArray,List.set_cons_zero,List.set_cons_succ]))
         refine anyU_done (by kernel_rfl) (onlyN_ok ?_) _
         clear e8 f8 l8 hs5 hwi
         gi_wp2
         have hgO:=grown_setCell w8 bO 3 (.slice A9e (s3.es.length + 1) c9e)
         have ko:=KO3.out.trans (((KeepsOthers.of_grownBy (grown_below HBD3.out none) (fun _ _ e=>by cases e)).trans (KeepsOthers.of_grownBy hg8 (own_cells HMD.out.re))).trans (KeepsOthers.setCell w8 ⟨bO,3,none⟩ (.slice A9e (s3.es.length + 1) c9e)))
         have hzw:=HMF.out.siz
         have hzd:=HMD.out.siz
         have hlo:=HMF.out.lO
         have bel:=HB3.out.trans (((HBD3.out.mono (by omega)).grown hg8 (by omega) (fun k e=>(HMD.out.re.lt k e).1)).setCell (p:=⟨bO,3,none⟩) (by show w.heap.size ≤ bO;omega) (.slice A9e (s3.es.length + 1) c9e))
         have pk:∀ b tt uu,Blk V3 b tt uu → 67 ≠ tt → 32 ≠ tt → ∀ t9 vs,Blk V3 b t9 vs → Blk (w8.setCell ⟨bO,3,none⟩ (.slice A9e (s3.es.length + 1) c9e)) b t9 vs:=fun b tt uu h0 h1 h2 t9 vs h =>
          ((h.below HBD3.out h.lt).kept hg8 (blk_ne_own HMD.out.re (h0.below HBD3.out h0.lt) h1)).kept hgO (fun e=>by injection e with e;exact blk_apart h0 HMF.out.out (Ne.symm h2) e)
         have p1:∀ t9 vs,Blk V wd.heap.size t9 vs → Blk (w8.setCell ⟨bO,3,none⟩ (.slice A9e (s3.es.length + 1) c9e)) wd.heap.size t9 vs:=fun t9 vs h=>pk _ _ _ HG3.out (by decide) (by decide) _ _ (KG3.out _ _ h)
         have p2:∀ t9 vs,Blk V (wd.heap.size + 1) t9 vs → Blk (w8.setCell ⟨bO,3,none⟩ (.slice A9e (s3.es.length + 1) c9e)) (wd.heap.size + 1) t9 vs:=fun t9 vs h=>pk _ _ _ HI3.out (by decide) (by decide) _ _ (KI3.out _ _ h)
         exact ⟨ko.from _,⟨bel,p1,p2⟩,q3,qv3,_,_,Lib.hid (HRW2.out.trans HRS.out),HM8,Lib.hid (by have h:=HSN.out;rw [HRS.out] at h;rw [List.length_append];exact h),HNE3,Lib.hid (p1 _ _ HG2.out),Lib.hid (p2 _ _ HI2.out)⟩
      case done =>
       rintro D ys V hD hys ⟨q2,qv2,ev2,s2,HRW,HM3,HS3,_,_,_⟩ hK
       have HS4:=Lib.hid (HS3.out.next (by
        have h1:=out_len hwx (tn:Int)
        have h2:=congrArg List.length hys
        rw [List.length_map] at h2
        omega))
       rw [hys,HXA.out] at HRW
       rw [HRW.out] at HBR2 HBI2
       subst ha0
       have cI2:=HM3.out.kI.cell (j:=0) rfl
       have hin:(i:Int) + 1 ≤ 9223372036854775807:=by omega
       have HPX:=Lib.hid (rs_pre (K:=0 :: tr) (i:=i) (outE a (tn:Int)) s)
       have HM9:=Lib.hid (show mksN (mkA (kpA a (0 :: tr))) s2.ts (i + 1) = mksN (mkA (kpA a (0 :: tr))) s.ts (i + 1) from by
        obtain ⟨m,hm⟩:=HPX.out
        rw [HRW.out] at hm
        rw [hm]
        exact mksN_app (by have:=HQL.out;omega))
       have hnx:=HM3.out.next (D:=D) hK (by have:=HME.out.siz;omega) (fun h=>by have:=(Array.getElem?_eq_some_iff.1 (HME.out.mrk D h).2).1;omega) (i + 1)
       rw [← HM9.out] at hnx
       have HNX:=Lib.hid hnx;clear hnx
       clear HPX HM9
       go_wp2
       exact ⟨n + 1 - (i + 1),by omega,i + 1,km2,q2,V.heap.size,_,qv2,ev2,s2,D :: ds,⟨rfl,rfl,rfl⟩,HNX,HS4,HBI2,HBR2,by omega,rfl⟩
      case stop =>
       rintro D c pre V _ _ h _
       exact h.elim
    ·obtain rfl:i = q:=by have:=HBI.out.le;have:=HQL.out;omega
     have b1:¬ (i:Int) < (i:Int):=by omega
     have HSE:=Lib.hid (show s = S0 from by
      have h:=HBR.out
      rw [bsR_end (by have:=HQL.out;omega)] at h
      injection h)
     obtain ⟨MB,mc2,rfl⟩:=HM.out.rm.shape
     obtain ⟨EA,ec,rfl⟩:=own_shape HM.out.re
     have o1:=HM.out.out.cell (j:=1) rfl
     have fo:=HM.out.out.free 1
     have lo:=HM.out.out.lt
     go_upto_region 30 with fail
     clear o1 fo lo cI c13
     have hg1:=grown_setCell W bO 1 (.int .i64 (i:Int))
     have kO1:=HM.out.out.set (j:=1) (by simp) (.int .i64 (i:Int))
     have kR1:=HM.out.res.kept hg1 (fun e=>by injection e with e;have:=HM.out.lO;omega)
     have ra1:=HM.out.ra.kept hg1 (fun g e1 e2=>HM.out.ra.apart HM.out.out (by decide) (by rw [e1,e2]))
     have rm1:=HM.out.rm.kept hg1 (fun g e1 e2=>HM.out.rm.apart HM.out.out (by decide) (by rw [e1,e2]))
     have re1:=HM.out.re.kept hg1 (own_ne_blk HM.out.re HM.out.out (by decide))
     have hb1:=HM.out.bel.setCell (p:=⟨bO,1,none⟩) (by show w.heap.size ≤ bO;have:=HM.out.lO;omega) (.int .i64 (i:Int))
     have hmk1:∀ D ∈ ds,w.heap.size ≤ D∧(W.setCell ⟨bO,1,none⟩ (.int .i64 (i:Int))).heap[D]? = some (.deferred (some [])):=fun D hD=>⟨(HM.out.mrk D hD).1,mark_cells (HM.out.mrk D hD).2 HM.out.out hg1⟩
     generalize W.setCell ⟨bO,1,none⟩ (.int .i64 (i:Int)) = W1 at kO1 kR1 ra1 rm1 re1 hb1 hmk1 ⊢
     clear hg1
     have HMK1:=Lib.hid hmk1
     have HND1:=Lib.hid HM.out.nd
     have HRA1:=Lib.hid ra1
     have HRM1:=Lib.hid rm1
     have HRE1:=Lib.hid re1
     have HBB1:=Lib.hid hb1
     have f0:=kR1.free 0
     have f1:=kR1.free 1
     have f2:=kR1.free 2
     have f3:=kR1.free 3
     have e0:=kR1.cell (j:=0) rfl
     have e1:=kR1.cell (j:=1) rfl
     have e2:=kR1.cell (j:=2) rfl
     have e3:=kR1.cell (j:=3) rfl
     have l9:w.heap.size + 1 < W1.heap.size:=kR1.lt
     have o0:=kO1.cell (j:=0) rfl
     have o1:=kO1.cell (j:=1) rfl
     have o2:=kO1.cell (j:=2) rfl
     have o3:=kO1.cell (j:=3) rfl
     clear hmk1 ra1 rm1 re1 hb1 HM
     go_wp2
     have hb4:=(((kR1.set (j:=0) (by simp) (.slice VA na vc)).set (j:=1) (by simp) (.int .i64 (i:Int))).set (j:=2) (by simp) (.slice MB km mc2)).set (j:=3) (by simp) (.slice EA s.es.length ec)
     have hq:∀ k:Nat,w.heap.size ≤ (⟨w.heap.size + 1,k,none⟩:Addr).block:=fun k=>by show w.heap.size ≤ w.heap.size + 1;omega
     have F:=(((HBB1.out.setCell (p:=⟨w.heap.size + 1,0,none⟩) (hq 0) (.slice VA na vc)).setCell (p:=⟨w.heap.size + 1,1,none⟩) (hq 1) (.int .i64 (i:Int))).setCell (p:=⟨w.heap.size + 1,2,none⟩) (hq 2) (.slice MB km mc2)).setCell (p:=⟨w.heap.size + 1,3,none⟩) (hq 3) (.slice EA s.es.length ec)
     have hg:=(((grown_setCell W1 (w.heap.size + 1) 0 (.slice VA na vc)).trans (grown_setCell _ _ 1 (.int .i64 (i:Int)))).trans (grown_setCell _ _ 2 (.slice MB km mc2))).trans (grown_setCell _ _ 3 (.slice EA s.es.length ec))
     have ra2:=HRA1.out.kept hg (fun g e1 e2=>HRA1.out.apart kR1 (by decide) (by rw [e1,e2]))
     have rm2:=HRM1.out.kept hg (fun g e1 e2=>HRM1.out.apart kR1 (by decide) (by rw [e1,e2]))
     have re2:=HRE1.out.kept hg (own_ne_blk HRE1.out kR1 (by decide))
     change LeavesInM Fence.wide 6 Try.prog Try.f28 _ _ (marks ds) .returning _
     refine leaves_marksI (B:=w.heap.size) (fun V=>((QRow V w.heap.size (.slice VA na vc) x.na x.a.al∧QRow V w.heap.size (.slice MB km mc2) km (mksN (mkA (kpA a (0 :: tr))) s.ts i)∧V.ownsRow w.heap.size 67 3 (.slice EA s.es.length ec) s.es.length (s.es.flatMap edc))∧Below w.heap.size w V)∧Blk V (w.heap.size + 1) 32 [.slice VA na vc,.int .i64 (i:Int),.slice MB km mc2,.slice EA s.es.length ec])
      (fun V D hV hB hD=>⟨⟨⟨q_ncl hV.1.1.1 (grownBy_putObj' V D _) (fun r e=>by cases e;exact ⟨_,hD,rfl⟩),q_ncl hV.1.1.2.1 (grownBy_putObj' V D _) (fun r e=>by cases e;exact ⟨_,hD,rfl⟩),own_ncl hV.1.1.2.2 (grownBy_putObj' V D _) (fun r e=>by cases e;exact ⟨_,hD,rfl⟩)⟩,hV.1.2.trans (belowK_b (w:=w) (Nat.le_refl _) V D _ _ hB hD rfl rfl)⟩,hV.2.ncl (grownBy_putObj' V D _) (fun r e=>by cases e;exact ⟨_,hD,rfl⟩)⟩) ds _ HND1.out (fun D hD=>⟨(HMK1.out D hD).1,mark_cells (HMK1.out D hD).2 kR1 hg⟩) ⟨⟨⟨ra2,rm2,re2⟩,F⟩,hb4⟩ (fun V hV=>?_)
     obtain ⟨z0,z1,z2,z3⟩:=Blk.c4 hV.2
     refine ⟨.tuple #[.agg #[.slice VA na vc,.int .i64 (i:Int),.slice MB km mc2,.slice EA s.es.length ec],.int .i64 0],by simp [results,Try.results28,go_sem,z0,z1,z2,z3],?_⟩
     obtain ⟨⟨⟨v1,v2,v3⟩,v4⟩,_⟩:=hV
     rw [HNA.out,HXA.out] at v1
     refine ⟨⟨VA,na,vc,MB,km,mc2,EA,s.es.length,ec,⟨a.al,(i:Int),mksN (mkA (kpA a (0 :: tr))) s.ts i,s.es⟩⟩,rfl,⟨v1,v2,rfl,v3⟩,?_,v4⟩
     rw [HRES.out,← HSE.out]
     unfold autOf
     rw [HQL.out]
end Go.Proofs.Ytdnmpndnpfklcaa
