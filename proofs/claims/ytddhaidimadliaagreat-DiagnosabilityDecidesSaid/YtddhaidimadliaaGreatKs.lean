/- Walks: slices.Index, slices.Equal at pairs and moves; the law's twin's closure. -/
import Derived.Test.YtddhaidimadliaaGreatKp
import Derived.Test.YtddhaidimadliaaGreatJk
import Derived.Laws.StructEq
namespace Go.Proofs.YtddhaidimadliaaGreat
open Go.RowKit Go
theorem eqlP_run (a c d f:Int) (b e:Bool) (W:World):(binOp .eql 71 (.agg #[.int .i64 a,.bool b,.int .i64 c]) (.agg #[.int .i64 d,.bool e,.int .i64 f])).run Tryz.prog W = .ok (.bool (a == d && b == e && c == f)) W:=by
 have u3:=Tryz.underlying3
 have a3:=Tryz.isAgg3
 have z3:=Tryz.sizeOf3
 have u4:=Tryz.underlying4
 have a4:=Tryz.isAgg4
 have z4:=Tryz.sizeOf4
 have hS:Tryz.prog.underlying 71 = some (.struct (Tryz.prog.fieldsOf 71)):=by kernel_rfl
 have hp:Tryz.prog.stoodInHeld 71 = false:=by kernel_rfl
 rw [run_eql_struct,show (10000:Nat) = 9999 + 1 from rfl,run_equalIn_agg W 9999 71 _ _ hS hp]
 simp only [Program.fieldsOf,Tryz.underlying71]
 go_simp
 by_cases h1:a = d <;> cases b <;> cases e <;> by_cases h3:c = f <;> simp [h1,h3]
theorem prR_cells {w:World} {B j:Nat} {ad:Addr} {l:List TwS} {t:TwS} (h:RdR 3 prC w B (some ad) l) (hj:l[j]? = some t) :
  ad.block < B∧w.cell? (ad.add (j * 3)) = some (.int .i64 t.1)∧w.cell? ⟨(ad.add (j * 3)).block,(ad.add (j * 3)).off + 1,none⟩ = some (.bool t.2.1)∧w.cell? ⟨(ad.add (j * 3)).block,(ad.add (j * 3)).off + 2,none⟩ = some (.int .i64 t.2.2):=by
 obtain ⟨ad',e,hb,hc⟩:=h j _ hj
 injection e with e
 subst e
 exact ⟨hb,hc 0 _ rfl,ev_cells (j:=0) (hc 1 _ rfl),ev_cells (j:=1) (hc 2 _ rfl)⟩
theorem mvR_cells {w:World} {B j:Nat} {ad:Addr} {l:List Ed} {t:Ed} (h:RdR 4 mvc w B (some ad) l) (hj:l[j]? = some t) :
  ad.block < B∧w.cell? (ad.add (j * 4)) = some (.int .i64 t.f)∧w.cell? ⟨(ad.add (j * 4)).block,(ad.add (j * 4)).off + 1,none⟩ = some (.int .i64 (t.e / 3))∧w.cell? ⟨(ad.add (j * 4)).block,(ad.add (j * 4)).off + 2,none⟩ = some (.int .i64 (t.e % 3))∧w.cell? ⟨(ad.add (j * 4)).block,(ad.add (j * 4)).off + 3,none⟩ = some (.int .i64 t.t):=by
 obtain ⟨ad',e,hb,hc⟩:=h j _ hj
 injection e with e
 subst e
 exact ⟨hb,hc 0 _ rfl,ev_cells (j:=0) (hc 1 _ rfl),ev_cells (j:=1) (hc 2 _ rfl),ev_cells (j:=2) (hc 3 _ rfl)⟩
theorem rdR_some {w:World} {B sz j:Nat} {A:Option Addr} {α:Type} {f:α → List Value} {l:List α} {x:α} (h:RdR sz f w B A l) (hj:l[j]? = some x):∃ ad,A = some ad:=by
 obtain ⟨ad,e,_⟩:=h j x hj
 exact ⟨ad,e⟩
set_option maxHeartbeats 800000 in
theorem pairs_Index (A:Option Addr) (c n:Nat) (l:List TwS) (p:TwS) (w:World) (hl:l.length = n) (h:RdR 3 prC w w.heap.size A l) (hn:n ≤ 1000000) :
  Calls Tryz.prog 50 #[.slice A n c,.agg #[.int .i64 p.1,.bool p.2.1,.int .i64 p.2.2]] w fun e w'=>e = .returned (.int .i64 (idx l p))∧Below w.heap.size w w':=by
 obtain ⟨p1,p2,p3⟩:=p
 dsimp only
 have hbx:=box_below w (.cells #[.int .i64 p1,.bool p2,.int .i64 p3] 71)
 obtain ⟨w1,hw1⟩:∃ w1,w1 = w.alloc (.cells #[.int .i64 p1,.bool p2,.int .i64 p3] 71):=⟨_,rfl⟩
 have kx:Blk w1 w.heap.size 71 [.int .i64 p1,.bool p2,.int .i64 p3]:=by rw [hw1];exact Blk.new _ _ [_,_,_]
 rw [← hw1] at hbx
 have HK:=Lib.hid (fun (W:World) (hb:Below w1.heap.size w1 W)=>kx.below hb kx.lt)
 have HR:=Lib.hid (fun (W:World) (hb:Below w1.heap.size w1 W)=>(show RdR 3 prC W W.heap.size A l from (h.below (hbx.trans (hb.mono hbx.size))).more (hbx.trans (hb.mono hbx.size)).size))
 have HL:=Lib.hid hl
 have HBL:=Lib.hid (fun (W:World) (hb:Below w1.heap.size w1 W)=>hbx.trans (hb.mono hbx.size))
 have HW1:=Lib.hid hw1;clear hw1
 have lx:=kx.lt
 clear kx hbx h hl
 go_enter Tryz.func50,Tryz.ntmps50
 go_upto_region 1 with fail
 rw [← HW1.out]
 go_wp2
 go_loopw [5,8] (fun s5 s8 wr=>∃ (k:Nat) (v5:Value),s5 = v5∧k ≤ n∧s8 = .int .i64 k∧Hid ((p1,p2,p3) ∉ l.take k)∧Hid (Below w1.heap.size w1 wr)) (fun _ s8 _=>n - (intOf s8).toNat)
 case atStart=>exact ⟨0,_,rfl,Nat.zero_le _,rfl,Lib.hid (by simp),Lib.hid (Below.refl _ _)⟩
 case round =>
  obtain ⟨k,v5,rfl,hk,rfl,HN,HB⟩:=hrel
  by_cases hlt:k < n
  case neg =>
   obtain rfl:k = n:=by omega
   have b1:¬ (k:Int) < (k:Int):=by omega
   have HF:=Lib.hid (show idx l (p1,p2,p3) = -1 by
    have h9:=HN.out
    rw [List.take_of_length_le (by rw [HL.out];exact Nat.le_refl _)] at h9
    exact idx_no h9)
   go_wp2
   go_ret
   exact ⟨ret_int HF.out.symm,HBL.out _ HB.out⟩
  have b1:(k:Int) < (n:Int):=by omega
  obtain ⟨t,ht⟩:∃ t,l[k]? = some t:=⟨_,List.getElem?_eq_getElem (by rw [HL.out];exact hlt)⟩
  obtain ⟨ad,rfl⟩:=rdR_some (HR.out wr HB.out) ht
  obtain ⟨hab,g0,g1,g2⟩:=prR_cells (HR.out wr HB.out) ht
  have HT:=Lib.hid ht
  obtain ⟨t1,t2,t3⟩:=t
  dsimp only at g0 g1 g2
  go_upto_region 4 with fail
  refine wp_region_U (fun W=>(W.cell? ⟨w.heap.size,0,none⟩ = some (.int .i64 p1)∧W.cell? ⟨w.heap.size,1,none⟩ = some (.bool p2)∧W.cell? ⟨w.heap.size,2,none⟩ = some (.int .i64 p3))∧W.cell? (ad.add (k * 3)) = some (.int .i64 t1)∧W.cell? ⟨(ad.add (k * 3)).block,(ad.add (k * 3)).off + 1,none⟩ = some (.bool t2)∧W.cell? ⟨(ad.add (k * 3)).block,(ad.add (k * 3)).off + 2,none⟩ = some (.int .i64 t3)) (fun _=>True) 99 (by kernel_rfl) ?_
  change anyU _ _ _ _ _ _ _ 6 _ _ _
  have hB0:True:=trivial
  have hbd:=below_dr wr
  have hkd:=HK.out _ (HB.out.trans (hbd.mono HB.out.size))
  have HB2:=Lib.hid (HB.out.trans (hbd.mono HB.out.size))
  have hA0:(wr.drew.cell? ⟨w.heap.size,0,none⟩ = some (.int .i64 p1)∧wr.drew.cell? ⟨w.heap.size,1,none⟩ = some (.bool p2)∧wr.drew.cell? ⟨w.heap.size,2,none⟩ = some (.int .i64 p3))∧wr.drew.cell? (ad.add (k * 3)) = some (.int .i64 t1)∧wr.drew.cell? ⟨(ad.add (k * 3)).block,(ad.add (k * 3)).off + 1,none⟩ = some (.bool t2)∧wr.drew.cell? ⟨(ad.add (k * 3)).block,(ad.add (k * 3)).off + 2,none⟩ = some (.int .i64 t3):=⟨⟨hkd.cell (j:=0) rfl,hkd.cell (j:=1) rfl,hkd.cell (j:=2) rfl⟩,(hbd.cell (by rw [block_of_add];exact hab)).trans g0,(hbd.cell (by rw [block_of_add];exact hab)).trans g1,(hbd.cell (by rw [block_of_add];exact hab)).trans g2⟩
  clear hkd hbd g0 g1 g2 hab ht
  generalize wr.drew = wd at hA0 HB2 ⊢
  have heq:=fun W=>eqlP_run p1 p3 t1 t3 p2 t2 W
  obtain ⟨q,hq⟩:∃ q,(p1 == t1 && p2 == t2 && p3 == t3) = q:=⟨_,rfl⟩
  rw [hq] at heq
  (refine uA 0 ?_ rfl hA0 hB0 (fun W hA=>?_) ?_;rotate_left;(· (obtain ⟨⟨a0,a1,a2⟩,_⟩:=hA;go_simp;try with_reducible rfl));(try simp only [Act.put,List.setIfInBounds_toArray,List.set_cons_zero,List.set_cons_succ]))
  (refine uA 1 ?_ rfl hA0 hB0 (fun W hA=>?_) ?_;rotate_left;(· (go_simp;try with_reducible rfl));refine uA 2 ?_ rfl hA0 hB0 (fun W hA=>?_) ?_;rotate_left;(· (go_simp;try with_reducible rfl));refine uA 3 ?_ rfl hA0 hB0 (fun W hA=>?_) ?_;rotate_left;(· (go_simp;try with_reducible rfl));(try simp only [Act.put,List.setIfInBounds_toArray,List.set_cons_zero,List.set_cons_succ]))
  (refine uA 4 ?_ rfl hA0 hB0 (fun W hA=>?_) ?_;rotate_left;(· (obtain ⟨_,a0,a1,a2⟩:=hA;go_simp;try with_reducible rfl));(try simp only [Act.put,List.setIfInBounds_toArray,List.set_cons_zero,List.set_cons_succ]))
  (refine uA 5 ?_ rfl hA0 hB0 (fun W hA=>?_) ?_;rotate_left;(· ((try simp only [heq]);go_simp;try with_reducible rfl));(try simp only [Act.put,List.setIfInBounds_toArray,List.set_cons_zero,List.set_cons_succ]))
  refine anyU_done (by kernel_rfl) ?_ _
  clear hA0 heq
  cases q with
  | true =>
   have HF:=Lib.hid (show idx l (p1,p2,p3) = (k:Int) by
    rw [Bool.and_eq_true,Bool.and_eq_true,beq_iff_eq,beq_iff_eq,beq_iff_eq] at hq
    obtain ⟨⟨e1,e2⟩,e3⟩:=hq
    subst e1 e2 e3
    exact idx_hit HT.out HN.out)
   clear hq
   go_wp2
   go_ret
   exact ⟨ret_int HF.out.symm,HBL.out _ HB2.out⟩
  | false =>
   have HN2:=Lib.hid (show (p1,p2,p3) ∉ l.take (k + 1) by
    rw [List.take_add_one,HT.out]
    intro hm
    rcases List.mem_append.1 hm with h1 | h1
    ·exact HN.out h1
    ·simp at h1
     obtain ⟨e1,e2,e3⟩:=h1
     subst e1 e2 e3
     simp at hq)
   clear hq
   go_wp2
   go_roundw
   case rel=>exact ⟨k + 1,_,rfl,by omega,by go_num,HN2,HB2⟩
   case measure=>simp [intOf];omega
end Go.Proofs.YtddhaidimadliaaGreat
/- Walks: the law's twin: its closure. -/
namespace Go.Proofs.YtddhaidimadliaaGreat
open Go.RowKit Go
structure LwN (B:Nat) (w0 w:World) (lb mb:Nat) (tv mv:Value) (nt nm:Nat) (s:Bs TwS):Prop where
 two:TwoG B w0 w 71 91 3 4 tv mv nt nm (s.ts.flatMap prC) (s.es.flatMap mvc)
 lt:s.ts.length = nt
 lm:s.es.length = nm
 bl:Blk w lb 65 [tv]
 bm:Blk w mb 66 [mv]
 hl:B ≤ lb
 hm:B ≤ mb
def KeepB (w w':World) (tv mv tv' mv':Value):Prop:=∀ (b:Nat) (t:TypeId) (vs:List Value),Blk w b t vs → t ≠ 65 → t ≠ 66 → some b ≠ tv.ownBlock → some b ≠ mv.ownBlock → Blk w' b t vs∧some b ≠ tv'.ownBlock∧some b ≠ mv'.ownBlock
section
variable {B:Nat} {w0 w w' w'':World} {lb mb:Nat} {tv mv tv' mv' tv'' mv'':Value} {nt nm:Nat} {s:Bs TwS}
theorem LwN.quiet (h:LwN B w0 w lb mb tv mv nt nm s) (hb:Below w.heap.size w w'):LwN B w0 w' lb mb tv mv nt nm s :=
 ⟨h.two.quiet hb,h.lt,h.lm,h.bl.below hb h.bl.lt,h.bm.below hb h.bm.lt,h.hl,h.hm⟩
theorem KeepB.quiet (hb:Below w.heap.size w w'):KeepB w w' tv mv tv mv:=fun _ _ _ hk _ _ h1 h2=>⟨hk.below hb hk.lt,h1,h2⟩
theorem KeepB.trans (h:KeepB w w' tv mv tv' mv') (k:KeepB w' w'' tv' mv' tv'' mv''):KeepB w w'' tv mv tv'' mv'':=fun b t vs hk h1 h2 h3 h4=>by
 obtain ⟨g1,g2,g3⟩:=h b t vs hk h1 h2 h3 h4
 exact k b t vs g1 h1 h2 g2 g3
theorem LwN.ne (h:LwN B w0 w lb mb tv mv nt nm s):lb ≠ mb:=fun e=>by
 have h1:=h.bl
 have h2:=h.bm
 rw [e] at h1
 unfold Blk at h1 h2
 rw [h1] at h2
 injection h2 with h2
 injection h2 with _ h3
 exact absurd h3 (by decide)
theorem own_new {v v':Value} {b:Nat} (hl:v'.ownBlock = v.ownBlock ∨ ∃ g,v'.ownBlock = some g∧w.heap.size ≤ g) (hb:b < w.heap.size) (h:some b ≠ v.ownBlock):some b ≠ v'.ownBlock:=by
 rcases hl with hl | ⟨g,hl,hg⟩
 ·rwa [hl]
 ·rw [hl];intro e;injection e with e;omega
theorem LwN.pushT (h:LwN B w0 w lb mb tv mv nt nm s) {A:Option Addr} {c:Nat} {x:TwS} (ho:w'.ownsRow B 71 3 (.slice A (nt + 1) c) (nt + 1) (s.ts.flatMap prC ++ prC x)) (hg:w.grownBy w' tv.ownBlock)
  (hl:(Value.slice A (nt + 1) c).ownBlock = tv.ownBlock ∨ ∃ g,(Value.slice A (nt + 1) c).ownBlock = some g∧w.heap.size ≤ g) :
  LwN B w0 (w'.setCell ⟨lb,0,none⟩ (.slice A (nt + 1) c)) lb mb (.slice A (nt + 1) c) mv (nt + 1) nm ⟨s.ts ++ [x],s.es⟩∧KeepB w (w'.setCell ⟨lb,0,none⟩ (.slice A (nt + 1) c)) tv mv (.slice A (nt + 1) c) mv:=by
 have h2:=h.two.push ho hg hl
 have kb:=h.bl.kept hg (blk_ne_own h.two.o1 h.bl (by decide))
 have km:=h.bm.kept hg (blk_ne_own h.two.o1 h.bm (by decide))
 have hs:=grown_setCell w' lb 0 (.slice A (nt + 1) c)
 have hne:=h.ne
 refine ⟨⟨⟨h2.bel.setCell (p:=⟨lb,0,none⟩) h.hl _,Nat.le_trans h2.siz hs.size,?_,h2.o2.kept hs (own_ne_blk h2.o2 kb (by decide)),h2.apt⟩,by simp [h.lt],h.lm,kb.set (by simp) _,km.kept hs (by intro e;injection e with e;exact hne e.symm),h.hl,h.hm⟩,fun b t vs hk t1 t2 g1 g2=>?_⟩
 ·rw [List.flatMap_append]
  simpa using h2.o1.kept hs (own_ne_blk h2.o1 kb (by decide))
 ·have k1:=hk.kept hg g1
  refine ⟨k1.kept hs (by
   intro e
   injection e with e
   subst e
   unfold Blk at k1 kb
   rw [k1] at kb
   injection kb with kb
   injection kb with _ e2
   exact t1 e2),own_new hl hk.lt g1,g2⟩
theorem LwN.pushM (h:LwN B w0 w lb mb tv mv nt nm s) {A:Option Addr} {c:Nat} {x:Ed} (ho:w'.ownsRow B 91 4 (.slice A (nm + 1) c) (nm + 1) (s.es.flatMap mvc ++ mvc x)) (hg:w.grownBy w' mv.ownBlock)
  (hl:(Value.slice A (nm + 1) c).ownBlock = mv.ownBlock ∨ ∃ g,(Value.slice A (nm + 1) c).ownBlock = some g∧w.heap.size ≤ g) :
  LwN B w0 (w'.setCell ⟨mb,0,none⟩ (.slice A (nm + 1) c)) lb mb tv (.slice A (nm + 1) c) nt (nm + 1) ⟨s.ts,s.es ++ [x]⟩∧KeepB w (w'.setCell ⟨mb,0,none⟩ (.slice A (nm + 1) c)) tv mv tv (.slice A (nm + 1) c):=by
 have h2:=(h.two.swap.push ho hg hl).swap
 have kb:=h.bl.kept hg (blk_ne_own h.two.o2 h.bl (by decide))
 have km:=h.bm.kept hg (blk_ne_own h.two.o2 h.bm (by decide))
 have hs:=grown_setCell w' mb 0 (.slice A (nm + 1) c)
 have hne:=h.ne
 refine ⟨⟨⟨h2.bel.setCell (p:=⟨mb,0,none⟩) h.hm _,Nat.le_trans h2.siz hs.size,h2.o1.kept hs (own_ne_blk h2.o1 km (by decide)),?_,h2.apt⟩,h.lt,by simp [h.lm],kb.kept hs (by intro e;injection e with e;exact hne e),km.set (by simp) _,h.hl,h.hm⟩,fun b t vs hk t1 t2 g1 g2=>?_⟩
 ·rw [List.flatMap_append]
  simpa using h2.o2.kept hs (own_ne_blk h2.o2 km (by decide))
 ·have k1:=hk.kept hg g2
  refine ⟨k1.kept hs (by
   intro e
   injection e with e
   subst e
   unfold Blk at k1 km
   rw [k1] at km
   injection km with km
   injection km with _ e2
   exact t2 e2),g1,own_new hl hk.lt g2⟩
end
def lwL (v a:Int) (f:Bool) (b:Int):List (Int × TwS):=if 0 ≤ a∧0 ≤ b then [(v,a,f,b)] else []
def RetAd (B:Nat) (w0:World) (lb mb:Nat) (tv mv:Value) (nt nm i:Nat) (s:Bs TwS) (p:TwS) (st:TwS → Int → Option TwS) (V:List Int) (r:List (Int × TwS)) (R:Bs TwS) (w:World) (e:Ending) (w':World):Prop :=
 e = .returned (.tuple #[])∧∃ (tv' mv':Value) (nt' nm':Nat) (s':Bs TwS),LwN B w0 w' lb mb tv' mv' nt' nm' s'∧bsM st V 4096 i r s' = some R∧nt' ≤ 4096∧nm' ≤ nm + 1∧KeepB w w' tv mv tv' mv'∧nt ≤ nt'∧∀ t ∈ s'.ts,t ∈ s.ts ∨ (t = p∧0 ≤ p.1∧0 ≤ p.2.2)
set_option maxRecDepth 100000 in
set_option maxHeartbeats 3200000 in
theorem twin1_ok {B:Nat} {w0 w:World} {lb mb ib:Nat} {tv mv:Value} {nt nm i:Nat} {s R:Bs TwS} {st:TwS → Int → Option TwS} {V:List Int} {r:List (Int × TwS)} (x sd a b:Int) (f:Bool)
  (h:LwN B w0 w lb mb tv mv nt nm s) (hi:Blk w ib 3 [.int .i64 (i:Int)]) (h1:some ib ≠ tv.ownBlock) (h2:some ib ≠ mv.ownBlock) (hE:bsM st V 4096 i (lwL (3 * x + sd) a f b ++ r) s = some R) (hnt:nt ≤ 4096) (hnm:nm ≤ 1000000) (hsd:0 ≤ sd∧sd < 3) :
  Calls Tryz.prog 49 #[.int .i64 x,.int .i64 sd,.agg #[.int .i64 a,.bool f,.int .i64 b],.pointer (some ⟨lb,0,none⟩),.pointer (some ⟨mb,0,none⟩),.pointer (some ⟨ib,0,none⟩)] w (RetAd B w0 lb mb tv mv nt nm i s (a,f,b) st V r R w):=by
 have hbx:=box_below w (.cells #[.int .i64 a,.bool f,.int .i64 b] 71)
 obtain ⟨w1,hw1⟩:∃ w1,w1 = w.alloc (.cells #[.int .i64 a,.bool f,.int .i64 b] 71):=⟨_,rfl⟩
 have kx:Blk w1 w.heap.size 71 [.int .i64 a,.bool f,.int .i64 b]:=by rw [hw1];exact Blk.new _ _ [_,_,_]
 rw [← hw1] at hbx
 have hL1:=h.quiet hbx
 have hi1:=hi.below hbx hi.lt
 have x1:some w.heap.size ≠ tv.ownBlock:=fun e=>by have:=(h.two.o1.lt _ e.symm).2;omega
 have x2:some w.heap.size ≠ mv.ownBlock:=fun e=>by have:=(h.two.o2.lt _ e.symm).2;omega
 have HKP:=Lib.hid (show KeepB w w1 tv mv tv mv from KeepB.quiet hbx)
 have c0:=kx.cell (j:=0) rfl
 have c1:=kx.cell (j:=1) rfl
 have c2:=kx.cell (j:=2) rfl
 have hX:=Lib.hid (show Blk w1 w.heap.size 71 [.int .i64 a,.bool f,.int .i64 b]∧some w.heap.size ≠ tv.ownBlock∧some w.heap.size ≠ mv.ownBlock from ⟨kx,x1,x2⟩)
 have hI:=Lib.hid (show Blk w1 ib 3 [.int .i64 (i:Int)]∧some ib ≠ tv.ownBlock∧some ib ≠ mv.ownBlock from ⟨hi1,h1,h2⟩)
 have HL1:=Lib.hid hL1
 have HW1:=Lib.hid hw1;clear hw1
 clear h hi hbx kx hL1 hi1 x1 x2 h1 h2
 by_cases ha:a < 0
 ·have HE:=Lib.hid (show bsM st V 4096 i r s = some R by unfold lwL at hE;rw [if_neg (by omega)] at hE;exact hE)
  clear hE
  go_enter Tryz.func49,Tryz.ntmps49
  go_upto_region 1 with fail
  rw [← HW1.out]
  go_wp2
  refine bodyPost_ret (v:=.tuple #[]) (by simp [results,Tryz.results49,go_sem]) rfl ?_
  exact ⟨rfl,tv,mv,nt,nm,s,HL1.out,HE.out,hnt,by omega,HKP.out,Nat.le_refl _,fun t ht=>.inl ht⟩
 by_cases hb:b < 0
 ·have HE:=Lib.hid (show bsM st V 4096 i r s = some R by unfold lwL at hE;rw [if_neg (by omega)] at hE;exact hE)
  clear hE
  go_enter Tryz.func49,Tryz.ntmps49
  go_upto_region 1 with fail
  rw [← HW1.out]
  go_wp2
  refine bodyPost_ret (v:=.tuple #[]) (by simp [results,Tryz.results49,go_sem]) rfl ?_
  exact ⟨rfl,tv,mv,nt,nm,s,HL1.out,HE.out,hnt,by omega,HKP.out,Nat.le_refl _,fun t ht=>.inl ht⟩
 have HE:=Lib.hid (show bsM st V 4096 i ((3 * x + sd,a,f,b) :: r) s = some R by unfold lwL at hE;rw [if_pos (by omega)] at hE;exact hE)
 clear hE
 obtain ⟨TA,tc,rfl⟩:=own_shape HL1.out.two.o1
 obtain ⟨MA,mc,rfl⟩:=own_shape HL1.out.two.o2
 have l0:=HL1.out.bl.cell (j:=0) rfl
 have HC:=Lib.hid (pairs_Index TA tc nt s.ts (a,f,b) w1 HL1.out.lt (by
  have h9:=HL1.out.two.o1
  exact RdR.of_own (f:=prC) (by omega) (fun _ _=>rfl) h9) (by omega))
 obtain ⟨k,hk⟩:∃ k,idx s.ts (a,f,b) = k:=⟨_,rfl⟩
 rw [hk] at HC
 have HMV:=Lib.hid (fun (t:Int)=>(show mvc ⟨(i:Int),3 * x + sd,t⟩ = [.int .i64 (i:Int),.int .i64 x,.int .i64 sd,.int .i64 t] by
  unfold mvc
  dsimp only
  rw [show (3 * x + sd) / 3 = x by omega,show (3 * x + sd) % 3 = sd by omega]))
 dsimp only at HC
 go_enter Tryz.func49,Tryz.ntmps49
 go_upto_region 1 with fail
 rw [← HW1.out]
 go_wp2_with fail
 refine HC.out.mono ?_
 rintro _ w2 ⟨rfl,hb2⟩
 have HL2:=Lib.hid (HL1.out.quiet hb2)
 have HKP2:=Lib.hid (HKP.out.trans (KeepB.quiet hb2))
 have hX2:=Lib.hid (show Blk w2 w.heap.size 71 [.int .i64 a,.bool f,.int .i64 b]∧some w.heap.size ≠ (Value.slice TA nt tc).ownBlock∧some w.heap.size ≠ (Value.slice MA nm mc).ownBlock from ⟨hX.out.1.below hb2 hX.out.1.lt,hX.out.2⟩)
 have hI2:=Lib.hid (show Blk w2 ib 3 [.int .i64 (i:Int)]∧some ib ≠ (Value.slice TA nt tc).ownBlock∧some ib ≠ (Value.slice MA nm mc).ownBlock from ⟨hI.out.1.below hb2 hI.out.1.lt,hI.out.2⟩)
 clear HC hb2 l0 c0 c1 c2 HKP HL1 hX hI
 by_cases hk0:k < 0
 ·have HNW:=Lib.hid (bsM_new HE.out (show idx s.ts (a,f,b) < 0 by rw [hk];exact hk0) (by rw [HL2.out.lt];exact hnt))
  have hn1:nt + 1 ≤ 4096:=by have:=HNW.out.1;rw [HL2.out.lt] at this;omega
  have l0:=HL2.out.bl.cell (j:=0) rfl
  have c0:=hX2.out.1.cell (j:=0) rfl
  have c1:=hX2.out.1.cell (j:=1) rfl
  have c2:=hX2.out.1.cell (j:=2) rfl
  have ll:=HL2.out.bl.lt
  have lx:=hX2.out.1.lt
  have hsz:=HL2.out.two.siz
  clear hk
  go_upto_region 6 with (first
   | (at_builtin;refine wpList_pushA w2 [.int .i64 a,.bool f,.int .i64 b] rfl (.tmp 25) (.tmp 27) 65 rfl B 71 (.agg #[.int .i64 0,.bool false,.int .i64 0]) 3 24 Tryz.underlying65 prr_info rfl (by decide) rfl (.slice TA nt tc) nt _ rfl HL2.out.two.o1 rfl (prr_one _ _ _) (by omega) (by omega) hsz ?_;intro A8 c8 w8 ho8 hg8 hl8;have HP8:=Lib.hid (HL2.out.pushT (x:=(a,f,b)) ho8 hg8 hl8);have kl8:=HL2.out.bl.kept hg8 (blk_ne_own HL2.out.two.o1 HL2.out.bl (by decide));have l8:=kl8.cell (j:=0) rfl;have f8:=kl8.free 0;have q8:=kl8.lt;clear ho8 hg8 hl8 kl8)
   | fail)
  clear l0 c0 c1 c2 l8 f8 q8 ll lx
  generalize w8.setCell ⟨lb,0,none⟩ (.slice A8 (nt + 1) c8) = w9 at HP8 ⊢
  have HL9:=Lib.hid HP8.out.1
  have HKP9:=Lib.hid (HKP2.out.trans HP8.out.2)
  have hI9:=HP8.out.2 ib _ _ hI2.out.1 (by decide) (by decide) hI2.out.2.1 hI2.out.2.2
  have m0:=HL9.out.bm.cell (j:=0) rfl
  have i0:=hI9.1.cell (j:=0) rfl
  have hsz9:=HL9.out.two.siz
  have li:=hI9.1.lt
  have lm:=HL9.out.bm.lt
  clear HP8 hI9
  have HE9:=Lib.hid (show bsM st V 4096 i r ⟨s.ts ++ [(a,f,b)],s.es ++ [⟨(i:Int),3 * x + sd,(nt:Int)⟩]⟩ = some R by have:=HNW.out.2;rw [HL2.out.lt] at this;exact this)
  go_wp2_with (first
   | (at_builtin;refine wpList_pushA w9 [.int .i64 (i:Int),.int .i64 x,.int .i64 sd,.int .i64 (nt:Int)] rfl (.tmp 29) (.tmp 35) 66 rfl B 91 (.agg #[.int .i64 0,.int .i64 0,.int .i64 0,.int .i64 0]) 4 32 Tryz.underlying66 mov_info rfl (by decide) rfl (.slice MA nm mc) nm _ rfl HL9.out.two.o2 rfl (mov_one _ _ _ _) (by omega) (by omega) hsz9 ?_;intro A10 c10 w10 ho10 hg10 hl10;have HP10:=Lib.hid (HL9.out.pushM (x:=⟨(i:Int),3 * x + sd,(nt:Int)⟩) (by rw [HMV.out];exact ho10) hg10 hl10);have kl10:=HL9.out.bm.kept hg10 (blk_ne_own HL9.out.two.o2 HL9.out.bm (by decide));have l10:=kl10.cell (j:=0) rfl;have f10:=kl10.free 0;have q10:=kl10.lt;clear ho10 hg10 hl10 kl10)
   | fail)
  refine bodyPost_ret (v:=.tuple #[]) (by simp [results,Tryz.results49,go_sem]) rfl ?_
  exact ⟨rfl,_,_,_,_,_,HP10.out.1,HE9.out,hn1,Nat.le_refl _,HKP9.out.trans HP10.out.2,by omega,fun t ht=>by
   rcases List.mem_append.1 ht with h1 | h1
   ·exact .inl h1
   ·exact .inr ⟨List.mem_singleton.1 h1,by dsimp only;omega,by dsimp only;omega⟩⟩
 ·have HE9:=Lib.hid (show bsM st V 4096 i r ⟨s.ts,s.es ++ [⟨(i:Int),3 * x + sd,k⟩]⟩ = some R by have:=bsM_old HE.out (show ¬ idx s.ts (a,f,b) < 0 by rw [hk];exact hk0);rw [hk] at this;exact this)
  have m0:=HL2.out.bm.cell (j:=0) rfl
  have i0:=hI2.out.1.cell (j:=0) rfl
  have hsz9:=HL2.out.two.siz
  have li:=hI2.out.1.lt
  have lm:=HL2.out.bm.lt
  clear hk
  go_wp2_with (first
   | (at_builtin;refine wpList_pushA w2 [.int .i64 (i:Int),.int .i64 x,.int .i64 sd,.int .i64 k] rfl (.tmp 29) (.tmp 35) 66 rfl B 91 (.agg #[.int .i64 0,.int .i64 0,.int .i64 0,.int .i64 0]) 4 32 Tryz.underlying66 mov_info rfl (by decide) rfl (.slice MA nm mc) nm _ rfl HL2.out.two.o2 rfl (mov_one _ _ _ _) (by omega) (by omega) hsz9 ?_;intro A10 c10 w10 ho10 hg10 hl10;have HP10:=Lib.hid (HL2.out.pushM (x:=⟨(i:Int),3 * x + sd,k⟩) (by rw [HMV.out];exact ho10) hg10 hl10);have kl10:=HL2.out.bm.kept hg10 (blk_ne_own HL2.out.two.o2 HL2.out.bm (by decide));have l10:=kl10.cell (j:=0) rfl;have f10:=kl10.free 0;have q10:=kl10.lt;clear ho10 hg10 hl10 kl10)
   | fail)
  refine bodyPost_ret (v:=.tuple #[]) (by simp [results,Tryz.results49,go_sem]) rfl ?_
  exact ⟨rfl,_,_,_,_,_,HP10.out.1,HE9.out,hnt,Nat.le_refl _,HKP2.out.trans HP10.out.2,Nat.le_refl _,fun t ht=>.inl ht⟩
end Go.Proofs.YtddhaidimadliaaGreat
/- Walks: the law's twin. -/
namespace Go.Proofs.YtddhaidimadliaaGreat
open Go.RowKit Go
theorem mvP_cons {m:Dm} {c:Int} {t:TwS} {x:Int} {l:List Int}:mvP m c t (x :: l) = mvX m c t x ++ mvP m c t l:=by unfold mvP;rw [List.flatMap_cons]
theorem mvX_ob' {m:Dm} {c:Int} {t:TwS} {x:Int} (ho:m.ob x = true):mvX m c t x = lwL (3 * x + 0) (nxt m.a t.1 x) t.2.1 (nxt m.a t.2.2 x):=by rw [mvX_ob ho];unfold lwL;rw [Int.add_zero]
theorem mvX_un1 {m:Dm} {c:Int} {t:TwS} {x:Int} (ho:m.ob x = false) (hf:m.ft x = c) (h2:0 ≤ t.2.2):mvX m c t x = lwL (3 * x + 1) (nxt m.a t.1 x) (t.2.1 || m.ft x == c) t.2.2:=by
 rw [mvX_un ho,if_neg (fun h:0 ≤ nxt m.a t.2.2 x∧m.ft x ≠ c=>h.2 hf),List.append_nil]
 unfold lwL
 by_cases h:0 ≤ nxt m.a t.1 x
 ·rw [if_pos h,if_pos ⟨h,h2⟩]
 ·rw [if_neg h,if_neg (fun h9=>h h9.1)]
theorem mvX_un2 {m:Dm} {c:Int} {t:TwS} {x:Int} (ho:m.ob x = false) (hf:m.ft x ≠ c) (h1:0 ≤ t.1) (h2:0 ≤ t.2.2):mvX m c t x = lwL (3 * x + 1) (nxt m.a t.1 x) (t.2.1 || m.ft x == c) t.2.2 ++ lwL (3 * x + 2) t.1 t.2.1 (nxt m.a t.2.2 x):=by
 rw [mvX_un ho]
 unfold lwL
 congr 1
 ·by_cases h:0 ≤ nxt m.a t.1 x
  ·rw [if_pos h,if_pos ⟨h,h2⟩]
  ·rw [if_neg h,if_neg (fun h9=>h h9.1)]
 ·by_cases h:0 ≤ nxt m.a t.2.2 x
  ·rw [if_pos ⟨h,hf⟩,if_pos ⟨h1,h⟩]
  ·rw [if_neg (fun h9=>h h9.1),if_neg (fun h9=>h h9.2)]
def boxI (v:Value) (W:World):Nat:=match v with
 | .pointer (some p)=>(match W.cell? p with | some u=>(intOf u).toNat | none=>0)
 | _=>0
theorem boxI_at {W:World} {b:Nat} {i:Int} (h:Blk W b 3 [.int .i64 i]):boxI (.pointer (some ⟨b,0,none⟩)) W = i.toNat:=by
 unfold boxI
 dsimp only
 rw [h.cell (j:=0) rfl]
 rfl
structure LwO (w1 W:World) (lb mb ib i nt nm:Nat) (tv mv:Value) (s:Bs TwS) (m:Dm):Prop where
 n:LwN w1.heap.size w1 W lb mb tv mv nt nm s
 b:Blk W ib 3 [.int .i64 (i:Int)]
 i1:some ib ≠ tv.ownBlock
 i2:some ib ≠ mv.ownBlock
 hi:w1.heap.size ≤ ib
 rng:∀ t ∈ s.ts,TwR m t
section
variable {w1 W W':World} {lb mb ib i nt nm nt' nm':Nat} {tv mv tv' mv':Value} {s s':Bs TwS} {m:Dm}
theorem LwO.quiet (h:LwO w1 W lb mb ib i nt nm tv mv s m) (hb:Below W.heap.size W W'):LwO w1 W' lb mb ib i nt nm tv mv s m:=⟨h.n.quiet hb,h.b.below hb h.b.lt,h.i1,h.i2,h.hi,h.rng⟩
theorem LwO.next (h:LwO w1 W lb mb ib i nt nm tv mv s m) {p:TwS} (hn:LwN w1.heap.size w1 W' lb mb tv' mv' nt' nm' s') (hk:KeepB W W' tv mv tv' mv') (hr:∀ t ∈ s'.ts,t ∈ s.ts ∨ (t = p∧0 ≤ p.1∧0 ≤ p.2.2)) (hp:0 ≤ p.1 → 0 ≤ p.2.2 → TwR m p):LwO w1 W' lb mb ib i nt' nm' tv' mv' s' m:=by
 obtain ⟨g1,g2,g3⟩:=hk ib _ _ h.b (by decide) (by decide) h.i1 h.i2
 refine ⟨hn,g1,g2,g3,h.hi,fun t ht=>?_⟩
 rcases hr t ht with h1 | ⟨h1,h2,h3⟩
 ·exact h.rng t h1
 ·rw [h1];exact hp h2 h3
theorem LwO.fresh (h:LwN w1.heap.size w1 W lb mb tv mv nt nm s) (hr:∀ t ∈ s.ts,TwR m t) (i:Nat):LwO w1 (W.alloc (.cells #[.int .i64 (i:Int)] 3)) lb mb W.heap.size i nt nm tv mv s m:=by
 have hb:=box_below W (.cells #[.int .i64 (i:Int)] 3)
 exact ⟨h.quiet hb,Blk.new _ _ [_],fun e=>by have:=(h.two.o1.lt _ e.symm).2;omega,fun e=>by have:=(h.two.o2.lt _ e.symm).2;omega,h.two.siz,hr⟩
end
theorem lwN_start (w:World):LwN w.heap.size w ((w.alloc (.cells #[.slice none 0 0] 65)).alloc (.cells #[.slice none 0 0] 66)) w.heap.size (w.heap.size + 1) (.slice none 0 0) (.slice none 0 0) 0 0 ⟨[],[]⟩:=by
 have k1:Blk (w.alloc (.cells #[.slice none 0 0] 65)) w.heap.size 65 [.slice none 0 0]:=Blk.new _ _ [_]
 have k2:=Blk.new (w.alloc (.cells #[.slice none 0 0] 65)) 66 [.slice none 0 0]
 rw [World.size_alloc] at k2
 have b1:=box_below w (.cells #[.slice none 0 0] 65)
 have b2:=box_below (w.alloc (.cells #[.slice none 0 0] 65)) (.cells #[.slice none 0 0] 66)
 have hb:=b1.trans (b2.mono b1.size)
 exact ⟨⟨hb,hb.size,World.ownsRow_nil _ _ _ _,World.ownsRow_nil _ _ _ _,fun g hg=>by simp [Value.ownBlock] at hg⟩,rfl,rfl,k1.below b2 k1.lt,k2,Nat.le_refl _,by omega⟩
def RetLT (R:Bs TwS) (w:World) (e:Ending) (w':World):Prop:=∃ (A1 A2:Option Addr) (n1 c1 n2 c2:Nat),e = .returned (.tuple #[.slice A1 n1 c1,.slice A2 n2 c2])∧R.ts.length = n1∧R.es.length = n2∧n1 ≤ 4096∧n2 ≤ 262144∧w'.ownsRow w.heap.size 71 3 (.slice A1 n1 c1) n1 (R.ts.flatMap prC)∧w'.ownsRow w.heap.size 91 4 (.slice A2 n2 c2) n2 (R.es.flatMap mvc)∧Below w.heap.size w w'
set_option maxRecDepth 100000 in
set_option maxHeartbeats 6400000 in
theorem law_twin41 (z:DV) (c:Int) (w:World) (h:z.ok w w.heap.size) (hd:dmE z = 0) (hs:z.x.a.st ≤ 40) (R:Bs TwS) (hR:twin z.m c = some R) :
  Calls Tryz.prog 31 #[.agg (dvc z).toArray,.int .i64 c] w (RetLT R w):=by
 have hw:=dmE_wf hd
 have hal:=dmE_al hd
 have hna:z.x.na ≤ 32:=by have h1:=hw.al_le;rw [h.x.la] at h1;exact h1
 have HFT:=Lib.hid (fun (j:Nat) (e:Ev) (hj:z.l[j]? = some e)=>(show z.m.ft (j:Int) = e.fault∧z.m.ob (j:Int) = e.o from ⟨ft_at hj,ob_at hj⟩))
 obtain ⟨m,hm⟩:∃ m,z.m = m:=⟨_,rfl⟩
 have hma:z.x.a = m.a:=by rw [← hm];rfl
 rw [hm] at hR HFT
 clear hm
 obtain ⟨⟨A,na,ca,M,nM,cm,E,ne,ce,a⟩,V,nv,cv,l⟩:=z
 have hb1:=box_below w (.cells #[.slice A na ca,.int .i64 a.st,.slice M nM cm,.slice E ne ce,.slice V nv cv] 37)
 obtain ⟨w1,hw1⟩:∃ w1,w1 = w.alloc (.cells #[.slice A na ca,.int .i64 a.st,.slice M nM cm,.slice E ne ce,.slice V nv cv] 37):=⟨_,rfl⟩
 have kx:Blk w1 w.heap.size 37 [.slice A na ca,.int .i64 a.st,.slice M nM cm,.slice E ne ce,.slice V nv cv]:=by rw [hw1];exact Blk.new _ _ [_,_,_,_,_]
 rw [← hw1] at hb1
 have HK:=Lib.hid (fun (W:World) (hb:Below w1.heap.size w1 W)=>kx.below hb kx.lt)
 have HOK:=Lib.hid (fun (W:World) (hb:Below w1.heap.size w1 W)=>(h.below (hb1.trans (hb.mono hb1.size))).more (hb1.trans (hb.mono hb1.size)).size)
 have HBL:=Lib.hid (fun (W:World) (hb:Below w1.heap.size w1 W)=>hb1.trans (hb.mono hb1.size))
 have hs1:=hb1.size
 have lx:=kx.lt
 have HRL:=Lib.hid (fun (W:World) (hb:Below w1.heap.size w1 W)=>(h.rl.below (hb1.trans (hb.mono hb1.size))).more hb1.size)
 have HLL:=Lib.hid h.ll
 have HLA:=Lib.hid h.x.la
 have HST:=Lib.hid (fun (W:World) (hb:Below w1.heap.size w1 W) (s v:Int)=>law_step A na ca M nM cm E ne ce a s v W (HOK.out W hb).x)
 have HRA:=Lib.hid (fun (W:World) (hb:Below w1.heap.size w1 W)=>(HOK.out W hb).x.ra)
 unfold dvc
 dsimp only at hw hal hna hma hs HFT HRL HLL HLA HST HRA ⊢
 subst hma
 have HWF:=Lib.hid hw
 have HNXT:=Lib.hid (fun (u v:Int) (q:0 ≤ nxt m.a u v)=>(nxt_in hw (s:=u) (x:=v) (by omega)).2)
 have HAL:=Lib.hid hal
 have hst0:=hw.st0
 obtain ⟨sv,hsv⟩:∃ s,m.a.st = s:=⟨_,rfl⟩
 have HMS:=Lib.hid hsv
 rw [hsv] at hw1 HK HST hst0 ⊢
 obtain ⟨a0,a1,a2,a3,a4⟩:=Blk.c5 (HK.out w1 (Below.refl _ _))
 have HLS:=Lib.hid (lwN_start w1)
 have HNW:=Lib.hid (fun (p:TwS) (q1:0 ≤ p.1) (q2:0 ≤ p.2.2) (u v:Int) (e1:p.1 = nxt m.a u v ∨ p.1 < m.a.st) (e2:p.2.2 = nxt m.a u v ∨ p.2.2 < m.a.st)=>(show TwR m p from
  ⟨⟨q1,by rcases e1 with e | e;(rw [e] at q1 ⊢;exact (nxt_in hw (by omega)).2);exact e⟩,q2,by rcases e2 with e | e;(rw [e] at q2 ⊢;exact (nxt_in hw (by omega)).2);exact e⟩))
 have HW1:=Lib.hid hw1;clear hw1
 clear hsv hw hal kx hb1 h
 go_enter Tryz.func31,Tryz.ntmps31
 go_upto_region 1 with fail
 rw [← HW1.out]
 go_upto_region 3 with fail
 have HTW:=Lib.hid (fun (h0:sv = 0)=>(show R = ⟨[],[]⟩ from by
  have h9:=hR
  unfold twin at h9
  rw [if_pos (by rw [HMS.out];exact h0)] at h9
  injection h9 with h9
  exact h9.symm))
 have HTW2:=Lib.hid (fun (h0:¬ sv = 0)=>(show bsR 4096 (twS m c) (twV m) (4097 - 0) 0 ⟨[(0,false,0)],[]⟩ = some R from by
  have h9:=hR
  unfold twin at h9
  rw [if_neg (by rw [HMS.out];exact h0)] at h9
  exact h9))
 clear hR a0 a1 a2 a3 a4
 generalize (w1.alloc (.cells #[.slice none 0 0] 65)).alloc (.cells #[.slice none 0 0] 66) = w2 at HLS ⊢
 obtain ⟨lb,hlb⟩:∃ b,w1.heap.size = b:=⟨_,rfl⟩
 obtain ⟨mb,hmb⟩:∃ b,w1.heap.size + 1 = b:=⟨_,rfl⟩
 have HLS:=Lib.hid (show LwN w1.heap.size w1 w2 lb mb (.slice none 0 0) (.slice none 0 0) 0 0 ⟨[],[]⟩ by rw [← hlb,← hmb];exact HLS.out)
 rw [hmb,hlb]
 clear hmb hlb
 obtain ⟨a0,a1,a2,a3,a4⟩:=Blk.c5 (HK.out w2 HLS.out.two.bel)
 have hsz2:=HLS.out.two.siz
 by_cases h0:0 < sv
 case' pos =>
  have l0:=HLS.out.bl.cell (j:=0) rfl
  have ll:=HLS.out.bl.lt
  go_upto_region 5 with (first
   | (at_builtin;refine wpList_pushA w2 [.int .i64 0,.bool false,.int .i64 0] rfl (.tmp 20) (.tmp 22) 65 rfl w1.heap.size 71 (.agg #[.int .i64 0,.bool false,.int .i64 0]) 3 24 Tryz.underlying65 prr_info rfl (by decide) rfl (.slice none 0 0) 0 _ rfl HLS.out.two.o1 rfl (prr_one _ _ _) (by omega) (by omega) hsz2 ?_;intro A8 c8 w8 ho8 hg8 hl8;have HP8:=Lib.hid (HLS.out.pushT (x:=(0,false,0)) ho8 hg8 hl8);have kl8:=HLS.out.bl.kept hg8 (blk_ne_own HLS.out.two.o1 HLS.out.bl (by decide));have l8:=kl8.cell (j:=0) rfl;have f8:=kl8.free 0;have q8:=kl8.lt;clear ho8 hg8 hl8 kl8)
   | fail)
  clear l0 ll l8 f8 q8
  have HS0:=Lib.hid (show ∃ (tv:Value) (nt:Nat) (s:Bs TwS),LwN w1.heap.size w1 (w8.setCell ⟨lb,0,none⟩ (.slice A8 (0 + 1) c8)) lb mb tv (.slice none 0 0) nt 0 s∧nt ≤ 4096∧bsR 4096 (twS m c) (twV m) (4097 - 0) 0 s = some R∧∀ t ∈ s.ts,TwR m t from
   ⟨_,_,_,HP8.out.1,by omega,HTW2.out (by omega),fun t ht=>by
    rw [List.nil_append,List.mem_singleton] at ht
    rw [ht]
    exact HNW.out (0,false,0) (Int.le_refl 0) (Int.le_refl 0) 0 0 (.inr (by rw [HMS.out];exact h0)) (.inr (by rw [HMS.out];exact h0))⟩)
  generalize w8.setCell ⟨lb,0,none⟩ (.slice A8 (0 + 1) c8) = w4 at HS0 ⊢
  clear HP8
 case' neg =>
  have HS0:=Lib.hid (show ∃ (tv:Value) (nt:Nat) (s:Bs TwS),LwN w1.heap.size w1 w2 lb mb tv (.slice none 0 0) nt 0 s∧nt ≤ 4096∧bsR 4096 (twS m c) (twV m) (4097 - 0) 0 s = some R∧∀ t ∈ s.ts,TwR m t from
   ⟨_,_,_,HLS.out,by omega,by rw [HTW.out (by omega)];exact bsR_end (by simp),fun t ht=>by cases ht⟩)
  obtain ⟨w4,rfl⟩:∃ W:World,W = w2:=⟨_,rfl⟩
  go_upto_region 5 with fail
 all_goals
  clear a0 a1 a2 a3 a4 hsz2 HLS HTW HTW2 h0
  obtain ⟨tv0,nt0,s0,hn0,hnt0,hbs0,hr0⟩:=HS0.out
  have HO0:=Lib.hid (LwO.fresh hn0 hr0 0)
  have HB0:=Lib.hid hbs0
  clear HS0 hn0 hbs0 hr0
  go_upto_region 6 with fail
  go_loopw [8,9,10,12,13,14,15] (fun s8 s9 s10 s12 s13 s14 s15 wr=>∃ (i nt nm ib:Nat) (tv mv v9 v10 v12 v13 v14 v15:Value) (s:Bs TwS),s8 = .pointer (some ⟨ib,0,none⟩)∧s9 = v9∧s10 = v10∧s12 = v12∧s13 = v13∧s14 = v14∧s15 = v15∧i ≤ nt∧nt ≤ 4096∧nm ≤ i * 64∧Hid (LwO w1 wr lb mb ib i nt nm tv mv s m)∧Hid (bsR 4096 (twS m c) (twV m) (4097 - i) i s = some R)) (fun s8 _ _ _ _ _ _ wr=>4097 - boxI s8 wr)
  case atStart=>exact ⟨0,nt0,0,_,tv0,_,_,_,_,_,_,_,s0,rfl,rfl,rfl,rfl,rfl,rfl,rfl,Nat.zero_le _,hnt0,Nat.zero_le _,HO0,HB0⟩
  case round =>
   clear HO0 HB0 hnt0
   obtain ⟨i,nt,nm,ib,tv,mv,v9,v10,v12,v13,v14,v15,s,rfl,rfl,rfl,rfl,rfl,rfl,rfl,hi,hnt,hnm,HW,HBR⟩:=hrel
   obtain ⟨TA,tc,rfl⟩:=own_shape HW.out.n.two.o1
   have i0:=HW.out.b.cell (j:=0) rfl
   have l0:=HW.out.n.bl.cell (j:=0) rfl
   have HM0:=Lib.hid (boxI_at HW.out.b)
   by_cases hlt:i < nt
   case neg =>
    obtain rfl:i = nt:=by omega
    have b1:¬ (i:Int) < (i:Int):=by omega
    obtain ⟨MA,mc,rfl⟩:=own_shape HW.out.n.two.o2
    have HRE:=Lib.hid (show s = R by
     have h9:=HBR.out
     rw [bsR_end (by rw [HW.out.n.lt];omega)] at h9
     injection h9)
    have HWD:=Lib.hid (HW.out.quiet (below_dr wr))
    go_upto_region 23 with fail
    refine wp_region_U (fun W=>W.cell? ⟨lb,0,none⟩ = some (.slice TA i tc)∧W.cell? ⟨mb,0,none⟩ = some (.slice MA nm mc)) (fun _=>True) 99 (by kernel_rfl) ?_
    change anyU _ _ _ _ _ _ _ 4 _ _ _
    generalize wr.drew = wd at HWD ⊢
    have hB0:True:=trivial
    have hA0:wd.cell? ⟨lb,0,none⟩ = some (.slice TA i tc)∧wd.cell? ⟨mb,0,none⟩ = some (.slice MA nm mc):=⟨HWD.out.n.bl.cell (j:=0) rfl,HWD.out.n.bm.cell (j:=0) rfl⟩
    (refine uA 0 ?_ rfl hA0 hB0 (fun W hA=>?_) ?_;rotate_left;(· (obtain ⟨a0,a1⟩:=hA;go_simp;try with_reducible rfl));(try simp only [Act.put,List.setIfInBounds_toArray,List.set_cons_zero,List.set_cons_succ]))
    (refine uA 1 ?_ rfl hA0 hB0 (fun W hA=>?_) ?_;rotate_left;(· (obtain ⟨a0,a1⟩:=hA;go_simp;try with_reducible rfl));(try simp only [Act.put,List.setIfInBounds_toArray,List.set_cons_zero,List.set_cons_succ]))
    (refine uA 2 ?_ rfl hA0 hB0 (fun W hA=>?_) ?_;rotate_left;(· (go_simp;try with_reducible rfl));refine uA 3 ?_ rfl hA0 hB0 (fun W hA=>?_) ?_;rotate_left;(· (go_simp;try with_reducible rfl));(try simp only [Act.put,List.setIfInBounds_toArray,List.set_cons_zero,List.set_cons_succ]))
    refine anyU_done (by kernel_rfl) ?_ _
    clear hA0 i0 l0
    go_wp2
    refine bodyPost_ret (v:=.tuple #[.slice TA i tc,.slice MA nm mc]) (by simp [results,Tryz.results31,go_sem]) rfl ?_
    rw [← HRE.out]
    exact ⟨_,_,_,_,_,_,rfl,HWD.out.n.lt,HWD.out.n.lm,hnt,by omega,own_base HWD.out.n.two.o1 hs1,own_base HWD.out.n.two.o2 hs1,HBL.out _ HWD.out.n.two.bel⟩
   have b1:(i:Int) < (nt:Int):=by omega
   obtain ⟨p,hp⟩:∃ p,s.ts[i]? = some p:=⟨_,List.getElem?_eq_getElem (by rw [HW.out.n.lt];exact hlt)⟩
   have HPR:=Lib.hid (HW.out.rng p (List.mem_of_getElem? hp))
   have HRM:=Lib.hid (show bsM (twS m c) (twV m) 4096 i (mvP m c p (m.a.al.drop 0)) s = some R by rw [List.drop_zero,mvP_all,← bsR_M hp (by omega)];exact HBR.out)
   obtain ⟨td,hTA⟩:=rdR_some (RdR.of_own (f:=prC) (by omega) (fun _ _=>rfl) HW.out.n.two.o1) hp
   subst hTA
   obtain ⟨htb,g0,g1,g2⟩:=prR_cells (RdR.of_own (f:=prC) (by omega) (fun _ _=>rfl) HW.out.n.two.o1) hp
   obtain ⟨p1,pf,p2⟩:=p
   dsimp only at g0 g1 g2
   have hbx:=box_below wr (.cells #[.int .i64 p1,.bool pf,.int .i64 p2] 71)
   have kx:Blk (wr.alloc (.cells #[.int .i64 p1,.bool pf,.int .i64 p2] 71)) wr.heap.size 71 [.int .i64 p1,.bool pf,.int .i64 p2]:=Blk.new _ _ [_,_,_]
   have x1:some wr.heap.size ≠ (Value.slice (some td) nt tc).ownBlock:=fun e=>by have:=(HW.out.n.two.o1.lt _ e.symm).2;omega
   have x2:some wr.heap.size ≠ mv.ownBlock:=fun e=>by have:=(HW.out.n.two.o2.lt _ e.symm).2;omega
   have HX5:=Lib.hid (show Blk (wr.alloc (.cells #[.int .i64 p1,.bool pf,.int .i64 p2] 71)) wr.heap.size 71 [.int .i64 p1,.bool pf,.int .i64 p2]∧some wr.heap.size ≠ (Value.slice (some td) nt tc).ownBlock∧some wr.heap.size ≠ mv.ownBlock from ⟨kx,x1,x2⟩)
   have HW5:=Lib.hid (HW.out.quiet hbx)
   go_upto_region 10 with fail
   clear i0 l0 g0 g1 g2 htb hp hbx kx x1 x2 HW HBR
   generalize wr.heap.size = xb at HX5 ⊢
   generalize wr.alloc (.cells #[.int .i64 p1,.bool pf,.int .i64 p2] 71) = w5 at HX5 HW5 ⊢
   obtain ⟨a0,a1,a2,a3,a4⟩:=Blk.c5 (HK.out w5 HW5.out.n.two.bel)
   have hp0:0 ≤ p1∧0 ≤ p2:=⟨HPR.out.1.1,HPR.out.2.1⟩
   go_upto_region 11 with fail
   clear a0 a1 a2 a3 a4
   generalize Value.slice (some td) nt tc = tv at HX5 HW5
   go_loopw [12,13,14,15,39] (fun s12 s13 s14 s15 s39 wr=>∃ (j nt nm:Nat) (tv mv v12 v13 v14 v15:Value) (s:Bs TwS),s12 = v12∧s13 = v13∧s14 = v14∧s15 = v15∧s39 = .int .i64 j∧j ≤ na∧i + 1 ≤ nt∧nt ≤ 4096∧nm ≤ i * 64 + 2 * j∧Hid (LwO w1 wr lb mb ib i nt nm tv mv s m)∧Hid (Blk wr xb 71 [.int .i64 p1,.bool pf,.int .i64 p2]∧some xb ≠ tv.ownBlock∧some xb ≠ mv.ownBlock)∧Hid (bsM (twS m c) (twV m) 4096 i (mvP m c (p1,pf,p2) (m.a.al.drop j)) s = some R)) (fun _ _ _ _ s39 _=>na - (intOf s39).toNat)
   case atStart=>exact ⟨0,nt,nm,tv,mv,_,_,_,_,s,rfl,rfl,rfl,rfl,rfl,Nat.zero_le _,by omega,hnt,by omega,HW5,HX5,HRM⟩
   case round =>
    clear HW5 HX5 HRM hnm hnt hlt hi b1
    obtain ⟨j,nt,nm,tv,mv,v12,v13,v14,v15,s,rfl,rfl,rfl,rfl,rfl,hj,hint,hnt,hnm,HW,HX,HRM⟩:=hrel
    by_cases hja:j < na
    case neg =>
     obtain rfl:j = na:=by omega
     have b1:¬ (j:Int) < (j:Int):=by omega
     have HBR:=Lib.hid (show bsR 4096 (twS m c) (twV m) (4097 - (i + 1)) (i + 1) s = some R by
      have h9:=HRM.out
      rw [List.drop_of_length_le (by rw [HLA.out];exact Nat.le_refl _)] at h9
      have h8:bsM (twS m c) (twV m) 4096 i [] s = some R:=h9
      rw [bsM_nil] at h8
      rw [show 4097 - (i + 1) = 4096 - i by omega]
      exact h8)
     have i0:=HW.out.b.cell (j:=0) rfl
     have HWF9:=Lib.hid (LwO.fresh HW.out.n HW.out.rng (i + 1))
     have HM9:=Lib.hid (boxI_at HWF9.out.b)
     go_wp2
     go_roundw
     case rel=>exact ⟨i + 1,nt,nm,_,tv,mv,_,_,_,_,_,_,s,rfl,rfl,rfl,rfl,rfl,rfl,rfl,by omega,hnt,by omega,HWF9,HBR⟩
     case measure =>
      have e1:=HM0.out
      have e2:=HM9.out
      rw [Int.toNat_natCast] at e1 e2
      rw [e1]
      first | (rw [e2];omega) | (erw [e2];omega) | (show 4097 - boxI _ _ < _;erw [e2];omega)
    have b1:(j:Int) < (na:Int):=by omega
    obtain ⟨x,hx⟩:∃ x,m.a.al[j]? = some x:=⟨_,List.getElem?_eq_getElem (by have:=HLA.out;omega)⟩
    obtain ⟨aa,rfl,haa,hca⟩:=HRA.out wr HW.out.n.two.bel j (.int .i64 x) (by simp [iv,hx])
    have hxr:=HAL.out x (List.mem_of_getElem? hx)
    obtain ⟨jx,rfl⟩:∃ j:Nat,x = (j:Int):=⟨x.toNat,by omega⟩
    have b2:(jx:Int) < (nv:Int):=hxr.2
    have HRX:=Lib.hid (show bsM (twS m c) (twV m) 4096 i (mvX m c (p1,pf,p2) (jx:Int) ++ mvP m c (p1,pf,p2) (m.a.al.drop (j + 1))) s = some R by rw [← mvP_cons,← drop_cons' hx];exact HRM.out)
    clear hx HRM
    go_upto_region 13 with fail
    clear hca haa
    refine wp_region_U (fun W=>(W.cell? ⟨w.heap.size,0,none⟩ = some (.slice (some aa) na ca)∧W.cell? ⟨w.heap.size,1,none⟩ = some (.int .i64 sv)∧W.cell? ⟨w.heap.size,2,none⟩ = some (.slice M nM cm)∧W.cell? ⟨w.heap.size,3,none⟩ = some (.slice E ne ce))∧W.cell? ⟨xb,0,none⟩ = some (.int .i64 p1)∧W.cell? ⟨xb,2,none⟩ = some (.int .i64 p2)) (fun _=>True) 11 (by kernel_rfl) ?_
    change anyU _ _ _ _ _ _ _ 14 _ _ _
    have hB0:True:=trivial
    have HAW:=Lib.hid (fun (W:World) (hW:Below wr.heap.size wr W)=>(show (W.cell? ⟨w.heap.size,0,none⟩ = some (.slice (some aa) na ca)∧W.cell? ⟨w.heap.size,1,none⟩ = some (.int .i64 sv)∧W.cell? ⟨w.heap.size,2,none⟩ = some (.slice M nM cm)∧W.cell? ⟨w.heap.size,3,none⟩ = some (.slice E ne ce))∧W.cell? ⟨xb,0,none⟩ = some (.int .i64 p1)∧W.cell? ⟨xb,2,none⟩ = some (.int .i64 p2) from by
     obtain ⟨a0,a1,a2,a3,_⟩:=Blk.c5 (HK.out W (HW.out.n.two.bel.trans (hW.mono HW.out.n.two.siz)))
     have k9:=HX.out.1.below hW HX.out.1.lt
     exact ⟨⟨a0,a1,a2,a3⟩,k9.cell (j:=0) rfl,k9.cell (j:=2) rfl⟩))
    have HSW:=Lib.hid (fun (W:World) (hW:Below wr.heap.size wr W)=>HST.out W (HW.out.n.two.bel.trans (hW.mono HW.out.n.two.siz)))
    have HBD:=Lib.hid (below_dr wr)
    generalize wr.drew = wd at HBD ⊢
    have hA0:=HAW.out wd HBD.out
    obtain ⟨t1,ht1⟩:∃ z,nxt m.a p1 (jx:Int) = z:=⟨_,rfl⟩
    obtain ⟨t2,ht2⟩:∃ z,nxt m.a p2 (jx:Int) = z:=⟨_,rfl⟩
    have HC1:=Lib.hid (HSW.out wd HBD.out p1 (jx:Int))
    rw [ht1] at HC1
    (refine uA 0 ?_ rfl hA0 hB0 (fun W hA=>?_) ?_;rotate_left;(· (go_simp;try with_reducible rfl));(try simp only [Act.put,List.setIfInBounds_toArray,List.set_cons_zero,List.set_cons_succ]))
    (refine uA 1 ?_ rfl hA0 hB0 (fun W hA=>?_) ?_;rotate_left;(· (obtain ⟨⟨a0,a1,a2,a3⟩,_⟩:=hA;go_simp;try with_reducible rfl));(try simp only [Act.put,List.setIfInBounds_toArray,List.set_cons_zero,List.set_cons_succ]))
    (refine uA 2 ?_ rfl hA0 hB0 (fun W hA=>?_) ?_;rotate_left;(· (go_simp;try with_reducible rfl));(try simp only [Act.put,List.setIfInBounds_toArray,List.set_cons_zero,List.set_cons_succ]))
    (refine uA 3 ?_ rfl hA0 hB0 (fun W hA=>?_) ?_;rotate_left;(· (obtain ⟨_,c0,c2⟩:=hA;go_simp;try with_reducible rfl));(try simp only [Act.put,List.setIfInBounds_toArray,List.set_cons_zero,List.set_cons_succ]))
    (refine uA 4 ?_ rfl hA0 hB0 (fun W hA=>?_) ?_;rotate_left;(· (go_simp;try with_reducible rfl));refine uA 6 ?_ rfl hA0 hB0 (fun W hA=>?_) ?_;rotate_left;(· (go_simp;try with_reducible rfl));(try simp only [Act.put,List.setIfInBounds_toArray,List.set_cons_zero,List.set_cons_succ]))
    (refine uA 7 ?_ rfl hA0 hB0 (fun W hA=>?_) ?_;rotate_left;(· (obtain ⟨⟨a0,a1,a2,a3⟩,_⟩:=hA;go_simp;try with_reducible rfl));(try simp only [Act.put,List.setIfInBounds_toArray,List.set_cons_zero,List.set_cons_succ]))
    (refine uA 8 ?_ rfl hA0 hB0 (fun W hA=>?_) ?_;rotate_left;(· (go_simp;try with_reducible rfl));(try simp only [Act.put,List.setIfInBounds_toArray,List.set_cons_zero,List.set_cons_succ]))
    (refine uA 9 ?_ rfl hA0 hB0 (fun W hA=>?_) ?_;rotate_left;(· (obtain ⟨_,c0,c2⟩:=hA;go_simp;try with_reducible rfl));(try simp only [Act.put,List.setIfInBounds_toArray,List.set_cons_zero,List.set_cons_succ]))
    (refine uA 10 ?_ rfl hA0 hB0 (fun W hA=>?_) ?_;rotate_left;(· (go_simp;try with_reducible rfl));(try simp only [Act.put,List.setIfInBounds_toArray,List.set_cons_zero,List.set_cons_succ]))
    clear hA0
    refine uOne (i:=5) rfl (by kernel_rfl) (fun K hK=>?_)
    go_simp
    go_at_call 51
    refine HC1.out.mono ?_
    rintro _ w6 ⟨rfl,hb6⟩
    have HB6:=Lib.hid (HBD.out.trans (hb6.mono HBD.out.size))
    have hA0:=HAW.out w6 HB6.out
    go_simp
    (refine hK _ _ ⟨hA0,fun _=>hB0⟩ ?_;clear hK K;(try simp only [Act.put,List.setIfInBounds_toArray,List.set_cons_zero,List.set_cons_succ]))
    have HC2:=Lib.hid (HSW.out w6 HB6.out p2 (jx:Int))
    rw [ht2] at HC2
    clear hA0 hb6 HC1
    refine uOne (i:=11) rfl (by kernel_rfl) (fun K hK=>?_)
    go_simp
    go_at_call 51
    refine HC2.out.mono ?_
    rintro _ w7 ⟨rfl,hb7⟩
    have HB7:=Lib.hid (HB6.out.trans (hb7.mono HB6.out.size))
    have hA0:=HAW.out w7 HB7.out
    go_simp
    (refine hK _ _ ⟨hA0,fun _=>hB0⟩ ?_;clear hK K;(try simp only [Act.put,List.setIfInBounds_toArray,List.set_cons_zero,List.set_cons_succ]))
    (refine uA 12 ?_ rfl hA0 hB0 (fun W hA=>?_) ?_;rotate_left;(· (go_simp;try with_reducible rfl));refine uA 13 ?_ rfl hA0 hB0 (fun W hA=>?_) ?_;rotate_left;(· (go_simp;try with_reducible rfl));(try simp only [Act.put,List.setIfInBounds_toArray,List.set_cons_zero,List.set_cons_succ]))
    refine anyU_done (by kernel_rfl) ?_ _
    have HW7:=Lib.hid (HW.out.quiet HB7.out)
    have HX7:=Lib.hid (show Blk w7 xb 71 [.int .i64 p1,.bool pf,.int .i64 p2]∧some xb ≠ tv.ownBlock∧some xb ≠ mv.ownBlock from ⟨HX.out.1.below HB7.out HX.out.1.lt,HX.out.2⟩)
    have HT1:=Lib.hid ht1
    have HT2:=Lib.hid ht2
    clear hA0 hb7 HC2 HW HX HAW HSW HBD HB6 HB7 ht1 ht2
    obtain ⟨a0,a1,a2,a3,a4⟩:=Blk.c5 (HK.out w7 HW7.out.n.two.bel)
    obtain ⟨ev,e,rfl,hvb,hje,hes,q0,q1,q2,q3,q4⟩:=(HRL.out w7 HW7.out.n.two.bel).at_ (k:=jx) (by have h9:=HLL.out;omega)
    have p2':=ev_cells (j:=1) q2
    have p4':=ev_cells (j:=3) q4
    obtain ⟨f1,f2⟩:=HFT.out jx e hje
    obtain ⟨fv,hfv⟩:∃ v,e.fault = v:=⟨_,rfl⟩
    obtain ⟨ob,hob⟩:∃ v,e.o = v:=⟨_,rfl⟩
    rw [hfv] at p4' f1
    rw [hob] at p2' f2
    have c0:=HX7.out.1.cell (j:=0) rfl
    have c1:=HX7.out.1.cell (j:=1) rfl
    have c2:=HX7.out.1.cell (j:=2) rfl
    have HF1:=Lib.hid f1
    have HF2:=Lib.hid f2
    have hnm1:nm ≤ 1000000:=by omega
    clear hje hes hvb q0 q1 q2 q3 q4 hfv hob f1 f2
    cases ob with
    | true =>
     have HC:=Lib.hid (twin1_ok (jx:Int) 0 t1 t2 pf HW7.out.n HW7.out.b HW7.out.i1 HW7.out.i2 (show bsM (twS m c) (twV m) 4096 i (lwL (3 * (jx:Int) + 0) t1 pf t2 ++ mvP m c (p1,pf,p2) (m.a.al.drop (j + 1))) s = some R by
      have:=HRX.out
      rw [mvX_ob' HF2.out] at this
      dsimp only at this
      rw [HT1.out,HT2.out] at this
      exact this) hnt hnm1 ⟨by omega,by omega⟩)
     go_wp2_with fail
     refine HC.out.mono ?_
     rintro _ w8 ⟨rfl,tv8,mv8,nt8,nm8,s8,hn8,he8,ht8,hm8,hk8,hl8,hr8⟩
     have HW8:=Lib.hid (HW7.out.next hn8 hk8 hr8 (fun q1 q2=>⟨⟨q1,by have:=HNXT.out p1 (jx:Int);rw [HT1.out] at this;exact this q1⟩,q2,by have:=HNXT.out p2 (jx:Int);rw [HT2.out] at this;exact this q2⟩))
     have HX8:=Lib.hid (hk8 xb _ _ HX7.out.1 (by decide) (by decide) HX7.out.2.1 HX7.out.2.2)
     have HE8:=Lib.hid he8
     clear HC hn8 hk8 he8 hr8
     clear a0 a1 a2 a3 a4 c0 c1 c2 p2' p4'
     go_wp2
     go_roundw
     case rel=>exact ⟨j + 1,nt8,nm8,tv8,mv8,_,_,_,_,s8,rfl,rfl,rfl,rfl,by go_num,by omega,by omega,ht8,by omega,HW8,HX8,HE8⟩
     case measure=>simp [intOf];omega
    | false =>
     by_cases hfc:fv = c
     ·have b6:(fv == c) = true:=by simpa using hfc
      have HRZ:=Lib.hid (show bsM (twS m c) (twV m) 4096 i (lwL (3 * (jx:Int) + 1) t1 true p2 ++ mvP m c (p1,pf,p2) (m.a.al.drop (j + 1))) s = some R by
       have:=HRX.out
       rw [mvX_un1 HF2.out (by rw [HF1.out];exact hfc) hp0.2,HF1.out,b6,Bool.or_true] at this
       dsimp only at this
       rw [HT1.out] at this
       exact this)
      have HC:=Lib.hid (twin1_ok (jx:Int) 1 t1 p2 true HW7.out.n HW7.out.b HW7.out.i1 HW7.out.i2 HRZ.out hnt hnm1 ⟨by omega,by omega⟩)
      cases pf with
      | true =>
       go_wp2_with fail
       refine HC.out.mono ?_
       rintro _ w8 ⟨rfl,tv8,mv8,nt8,nm8,s8,hn8,he8,ht8,hm8,hk8,hl8,hr8⟩
       have HW8:=Lib.hid (HW7.out.next hn8 hk8 hr8 (fun q1 q2=>⟨⟨q1,by have:=HNXT.out p1 (jx:Int);rw [HT1.out] at this;exact this q1⟩,q2,HPR.out.2.2⟩))
       have HX8:=Lib.hid (hk8 xb _ _ HX7.out.1 (by decide) (by decide) HX7.out.2.1 HX7.out.2.2)
       have HE8:=Lib.hid he8
       clear HC hn8 hk8 he8 hr8
       clear a0 a1 a2 a3 a4 c0 c1 c2 p2' p4' HRZ
       go_wp2
       go_roundw
       case rel=>exact ⟨j + 1,nt8,nm8,tv8,mv8,_,_,_,_,s8,rfl,rfl,rfl,rfl,by go_num,by omega,by omega,ht8,by omega,HW8,HX8,HE8⟩
       case measure=>simp [intOf];omega
      | false =>
       go_wp2_with fail
       refine HC.out.mono ?_
       rintro _ w8 ⟨rfl,tv8,mv8,nt8,nm8,s8,hn8,he8,ht8,hm8,hk8,hl8,hr8⟩
       have HW8:=Lib.hid (HW7.out.next hn8 hk8 hr8 (fun q1 q2=>⟨⟨q1,by have:=HNXT.out p1 (jx:Int);rw [HT1.out] at this;exact this q1⟩,q2,HPR.out.2.2⟩))
       have HX8:=Lib.hid (hk8 xb _ _ HX7.out.1 (by decide) (by decide) HX7.out.2.1 HX7.out.2.2)
       have HE8:=Lib.hid he8
       clear HC hn8 hk8 he8 hr8
       clear a0 a1 a2 a3 a4 c0 c1 c2 p2' p4' HRZ
       go_wp2
       go_roundw
       case rel=>exact ⟨j + 1,nt8,nm8,tv8,mv8,_,_,_,_,s8,rfl,rfl,rfl,rfl,by go_num,by omega,by omega,ht8,by omega,HW8,HX8,HE8⟩
       case measure=>simp [intOf];omega
     ·have b6:(fv == c) = false:=by simpa using hfc
      have HRZ:=Lib.hid (show bsM (twS m c) (twV m) 4096 i (lwL (3 * (jx:Int) + 1) t1 pf p2 ++ (lwL (3 * (jx:Int) + 2) p1 pf t2 ++ mvP m c (p1,pf,p2) (m.a.al.drop (j + 1)))) s = some R by
       have:=HRX.out
       rw [mvX_un2 HF2.out (by rw [HF1.out];exact hfc) hp0.1 hp0.2,HF1.out,b6,Bool.or_false,List.append_assoc] at this
       dsimp only at this
       rw [HT1.out,HT2.out] at this
       exact this)
      have HC:=Lib.hid (twin1_ok (jx:Int) 1 t1 p2 pf HW7.out.n HW7.out.b HW7.out.i1 HW7.out.i2 HRZ.out hnt hnm1 ⟨by omega,by omega⟩)
      cases pf with
      | true =>
       go_wp2_with fail
       refine HC.out.mono ?_
       rintro _ w8 ⟨rfl,tv8,mv8,nt8,nm8,s8,hn8,he8,ht8,hm8,hk8,hl8,hr8⟩
       have HW8:=Lib.hid (HW7.out.next hn8 hk8 hr8 (fun q1 q2=>⟨⟨q1,by have:=HNXT.out p1 (jx:Int);rw [HT1.out] at this;exact this q1⟩,q2,HPR.out.2.2⟩))
       have HX8:=Lib.hid (hk8 xb _ _ HX7.out.1 (by decide) (by decide) HX7.out.2.1 HX7.out.2.2)
       have HE8:=Lib.hid he8
       clear HC hn8 hk8 he8 hr8
       clear a0 a1 a2 a3 a4 c0 c1 c2 p2' p4' HRZ
       have c0:=HX8.out.1.cell (j:=0) rfl
       have c1:=HX8.out.1.cell (j:=1) rfl
       have c2:=HX8.out.1.cell (j:=2) rfl
       have HC:=Lib.hid (twin1_ok (jx:Int) 2 p1 t2 true HW8.out.n HW8.out.b HW8.out.i1 HW8.out.i2 HE8.out ht8 (by omega) ⟨by omega,by omega⟩)
       go_wp2_with fail
       refine HC.out.mono ?_
       rintro _ w9 ⟨rfl,tv9,mv9,nt9,nm9,s9,hn9,he9,ht9,hm9,hk9,hl9,hr9⟩
       have HW9:=Lib.hid (HW8.out.next hn9 hk9 hr9 (fun q1 q2=>⟨⟨q1,HPR.out.1.2⟩,q2,by have:=HNXT.out p2 (jx:Int);rw [HT2.out] at this;exact this q2⟩))
       have HX9:=Lib.hid (hk9 xb _ _ HX8.out.1 (by decide) (by decide) HX8.out.2.1 HX8.out.2.2)
       have HE9:=Lib.hid he9
       clear HC hn9 hk9 he9 hr9
       clear c0 c1 c2
       go_wp2
       go_roundw
       case rel=>exact ⟨j + 1,nt9,nm9,tv9,mv9,_,_,_,_,s9,rfl,rfl,rfl,rfl,by go_num,by omega,by omega,ht9,by omega,HW9,HX9,HE9⟩
       case measure=>simp [intOf];omega
      | false =>
       go_wp2_with fail
       refine HC.out.mono ?_
       rintro _ w8 ⟨rfl,tv8,mv8,nt8,nm8,s8,hn8,he8,ht8,hm8,hk8,hl8,hr8⟩
       have HW8:=Lib.hid (HW7.out.next hn8 hk8 hr8 (fun q1 q2=>⟨⟨q1,by have:=HNXT.out p1 (jx:Int);rw [HT1.out] at this;exact this q1⟩,q2,HPR.out.2.2⟩))
       have HX8:=Lib.hid (hk8 xb _ _ HX7.out.1 (by decide) (by decide) HX7.out.2.1 HX7.out.2.2)
       have HE8:=Lib.hid he8
       clear HC hn8 hk8 he8 hr8
       clear a0 a1 a2 a3 a4 c0 c1 c2 p2' p4' HRZ
       have c0:=HX8.out.1.cell (j:=0) rfl
       have c1:=HX8.out.1.cell (j:=1) rfl
       have c2:=HX8.out.1.cell (j:=2) rfl
       have HC:=Lib.hid (twin1_ok (jx:Int) 2 p1 t2 false HW8.out.n HW8.out.b HW8.out.i1 HW8.out.i2 HE8.out ht8 (by omega) ⟨by omega,by omega⟩)
       go_wp2_with fail
       refine HC.out.mono ?_
       rintro _ w9 ⟨rfl,tv9,mv9,nt9,nm9,s9,hn9,he9,ht9,hm9,hk9,hl9,hr9⟩
       have HW9:=Lib.hid (HW8.out.next hn9 hk9 hr9 (fun q1 q2=>⟨⟨q1,HPR.out.1.2⟩,q2,by have:=HNXT.out p2 (jx:Int);rw [HT2.out] at this;exact this q2⟩))
       have HX9:=Lib.hid (hk9 xb _ _ HX8.out.1 (by decide) (by decide) HX8.out.2.1 HX8.out.2.2)
       have HE9:=Lib.hid he9
       clear HC hn9 hk9 he9 hr9
       clear c0 c1 c2
       go_wp2
       go_roundw
       case rel=>exact ⟨j + 1,nt9,nm9,tv9,mv9,_,_,_,_,s9,rfl,rfl,rfl,rfl,by go_num,by omega,by omega,ht9,by omega,HW9,HX9,HE9⟩
       case measure=>simp [intOf];omega
end Go.Proofs.YtddhaidimadliaaGreat
