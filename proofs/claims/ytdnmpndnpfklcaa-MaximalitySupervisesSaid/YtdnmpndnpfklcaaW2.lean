/- Walk of language.search. -/
import Derived.Test.YtdnmpndnpfklcaaW1
namespace Go.Proofs.Ytdnmpndnpfklcaa
open Go.RowKit Go Go.Maps
def RetSe (r:Option (List Int)) (w:World) (e:Ending) (w':World):Prop :=
 ((r = none∧e = .returned (.tuple #[.slice none 0 0,.bool false])) ∨ ∃ (ws:List Int) (A:Option Addr) (c:Nat),r = some ws∧e = .returned (.tuple #[.slice A ws.length c,.bool true])∧RdI w' w'.heap.size A ws∧ws.length ≤ c∧c ≤ 9223372036854775807)∧Below w.heap.size w w'
def put3z (a:Act) (s1 s2 s3:Nat) (v1 v2 v3:Value):Act:={ a with tmps:=(((a.tmps.toList.set s1 v1).set s2 v2).set s3 v3).toArray }
def R5 (d x y m s:Bool):List Nat:=(if d = true then [] else [0]) ++ (if d = true∧x = false then [2] else []) ++ (if d = true∧y = false then [4] else []) ++ (if x = true∧y = true∧m = false then [5] else []) ++ (if m = true∧s = false then [6] else [])
theorem R5_mem {d x y m s:Bool} {i:Nat} (h:i ∈ R5 d x y m s):(i = 0∧¬ d = true) ∨ (i = 2∧d = true∧x = false) ∨ (i = 4∧d = true∧y = false) ∨ (i = 5∧x = true∧y = true∧m = false) ∨ (i = 6∧m = true∧s = false):=by
 cases d <;> cases x <;> cases y <;> cases m <;> cases s <;> simp [R5] at h ⊢ <;> omega
def firB (p q:Int) (x y:Bool) (r:Int × Int):Bool:=(x && decide (r = (p,q))) || (y && decide (r = (-1,-1)))
theorem firB_all (p q:Int) (r:Int × Int):firB p q true true r = vsB [⟨p,q,-1,0⟩] r.1 r.2:=by
 unfold firB vsB
 have:decide (r = (p,q)) = (p == r.1 && q == r.2):=by
  by_cases h:r = (p,q)
  ·subst h;simp
  ·rw [decide_eq_false h]
   symm
   rw [Bool.and_eq_false_iff]
   by_cases h1:p = r.1
   ·right
    rw [beq_eq_false_iff_ne]
    intro h2
    exact h (Prod.ext h1.symm h2.symm)
   ·left
    rw [beq_eq_false_iff_ne]
    exact h1
 rw [this]
 have h2:decide (r = ((-1:Int),(-1:Int))) = (r.1 == -1 && r.2 == -1):=by
  obtain ⟨r1,r2⟩:=r
  by_cases h1:r1 = -1 <;> by_cases h3:r2 = -1 <;> simp [h1,h3]
 rw [h2]
 simp [Bool.or_comm]
def R17 (c1 c2 bd al st:Bool):List Nat:=(if c1 = true then [] else [8]) ++ (if c1 = true∧c2 = false then [17] else []) ++ (if c2 = true∧bd = false then [18] else []) ++ (if al = true then [] else [19]) ++ (if bd = true∧al = true∧st = false then [20] else [])
theorem R17_mem {c1 c2 bd al st:Bool} {i:Nat} (h:i ∈ R17 c1 c2 bd al st):(i = 8∧c1 = false) ∨ (i = 17∧c1 = true∧c2 = false) ∨ (i = 18∧c2 = true∧bd = false) ∨ (i = 19∧al = false) ∨ (i = 20∧bd = true∧al = true∧st = false):=by
 cases c1 <;> cases c2 <;> cases bd <;> cases al <;> cases st <;> simp [R17] at h ⊢ <;> omega
theorem lp_size:(Try.prog.info? 127).map (·.size) = some 2:=by kernel_rfl
set_option maxRecDepth 100000 in
set_option maxHeartbeats 12800000 in
theorem lng_search (VA:Option Addr) (nv cv:Nat) (V:List Int) (a b:Aut) (ba bna bka ma bb bnb bkb mb g:Nat) (p1 p2 p3:Value) (ch:Int → Int → Bool) (R:Option (List Int)) (w:World)
  (hV:RdI w w.heap.size VA V) (hVl:V.length = nv) (hVc:nv ≤ 1000000) (ha:LgM w a ba bna bka ma) (hb:LgM w b bb bnb bkb mb) (hwa:WF a) (hwb:WF b)
  (eg:∀ args w,(callFunc g args).run Try.prog w = .ok (.enter g args) w)
  (hch:∀ (p q:Int) (W:World),Below w.heap.size w W → Calls Try.prog g #[.agg #[.int .i64 p,.int .i64 q],p1,p2,p3] W fun e w'=>e = .returned (.bool (ch p q))∧Below W.heap.size W w')
  (hR:srS a b V ch = R) (hNN:vsN a b ≤ 900000) (hVr:∀ x ∈ V,0 ≤ x∧x < 4294967296) :
  Calls Try.prog 72 #[.slice VA nv cv,.pointer (some ⟨ba,0,none⟩),.pointer (some ⟨bb,0,none⟩),.func (.func g) #[] #[p1,p2,p3]] w (RetSe R w):=by
 have HA:=Lib.hid (fun (W:World) (hb:Below w.heap.size w W)=>ha.below hb)
 have HBB:=Lib.hid (fun (W:World) (hb':Below w.heap.size w W)=>hb.below hb')
 have HVR:=Lib.hid (fun (W:World) (hb:Below w.heap.size w W)=>(hV.below hb).more hb.size)
 have HVL:=Lib.hid hVl
 have HCH:=Lib.hid hch
 have HR:=Lib.hid hR
 have HVW:=Lib.hid hVr
 clear ha hb hV hVl hch hR hVr
 go_enter Try.func72,Try.ntmps72
 go_upto_region 1 with fail
 go_cut [10] from 11 (fun s10 wx=>∃ bp:Nat,s10 = .pointer (some ⟨bp,0,none⟩)∧Hid (Below w.heap.size w wx∧Blk wx bp 127 [.int .i64 (firA a),.int .i64 (firA b)]∧w.heap.size ≤ bp))
 case first =>
  refine wp_region_U (fun W=>W.cell? ⟨ba,2,none⟩ = some (.int .i64 (firA a))∧W.cell? ⟨bb,2,none⟩ = some (.int .i64 (firA b))) (fun _=>True) 10 (by kernel_rfl) ?_
  change anyU _ _ _ _ _ _ _ 11 _ _ _
  have HBD:=Lib.hid (below_dr w)
  generalize w.drew = wd at HBD ⊢
  have hA0:=And.intro (Blk.c3 (HA.out wd HBD.out).box).2.2 (Blk.c3 (HBB.out wd HBD.out).box).2.2
  have hB0:True:=trivial
  (refine uA 0 ?_ rfl hA0 hB0 (fun W hA=>?_) ?_;rotate_left;(· (go_simp;try with_reducible rfl));refine uA 1 ?_ rfl hA0 hB0 (fun W hA=>?_) ?_;rotate_left;(· (go_simp;try with_reducible rfl));refine uA 2 ?_ rfl hA0 hB0 (fun W hA=>?_) ?_;rotate_left;(· (go_simp;try with_reducible rfl));(try simp only [Act.put,List.setIfInBounds_toArray,List.set_cons_zero,List.set_cons_succ]))
  (refine uA 3 ?_ rfl hA0 hB0 (fun W hA=>?_) ?_;rotate_left;(· (obtain ⟨a0,a1⟩:=hA;go_simp;try with_reducible rfl));(try simp only [Act.put,List.setIfInBounds_toArray,List.set_cons_zero,List.set_cons_succ]))
  (refine uA 4 ?_ rfl hA0 hB0 (fun W hA=>?_) ?_;rotate_left;(· (go_simp;try with_reducible rfl));refine uA 5 ?_ rfl hA0 hB0 (fun W hA=>?_) ?_;rotate_left;(· (go_simp;try with_reducible rfl));refine uA 6 ?_ rfl hA0 hB0 (fun W hA=>?_) ?_;rotate_left;(· (go_simp;try with_reducible rfl));(try simp only [Act.put,List.setIfInBounds_toArray,List.set_cons_zero,List.set_cons_succ]))
  (refine uA 7 ?_ rfl hA0 hB0 (fun W hA=>?_) ?_;rotate_left;(· (obtain ⟨a0,a1⟩:=hA;go_simp;try with_reducible rfl));(try simp only [Act.put,List.setIfInBounds_toArray,List.set_cons_zero,List.set_cons_succ]))
  (refine uA 8 ?_ rfl hA0 hB0 (fun W hA=>?_) ?_;rotate_left;(· (go_simp;try with_reducible rfl));(try simp only [Act.put,List.setIfInBounds_toArray,List.set_cons_zero,List.set_cons_succ]))
  refine uOne (i:=9) rfl (by kernel_rfl) (fun K hK=>?_)
  go_simp
  have hbz:=box_below wd (.cells #[.int .i64 0,.int .i64 0] 127)
  have kz:=Blk.new wd 127 [.int .i64 0,.int .i64 0]
  have HB1:=Lib.hid (HBD.out.trans (hbz.mono HBD.out.size))
  have hA1:=And.intro (Blk.c3 (HA.out _ HB1.out).box).2.2 (Blk.c3 (HBB.out _ HB1.out).box).2.2
  (refine hK _ _ ⟨hA1,fun _=>hB0⟩ ?_;clear hK K;(try simp only [Act.put,List.setIfInBounds_toArray,List.set_cons_zero,List.set_cons_succ]))
  refine uOne (i:=10) rfl (by kernel_rfl) (fun K hK=>?_)
  refine step_store rfl 127 (.tmp 10) (.tmp 26) (by rfl) wd.heap.size 0 #[.int .i64 (firA a),.int .i64 (firA b)] (by rfl) (by rfl) (kz.there (o:=0) (n:=2) (by simp)) lp_size (by simp [Value.oneCell']) ?_
  have k1:=kz.sets [.int .i64 (firA a),.int .i64 (firA b)] (o:=0) (by simp)
  have hb2:=HB1.out.grown k1.2 HB1.out.size (fun j e=>by injection e with e;rw [← e];exact HBD.out.size)
  have HEN:=Lib.hid (show Below w.heap.size w _∧Blk _ wd.heap.size 127 [.int .i64 (firA a),.int .i64 (firA b)]∧w.heap.size ≤ wd.heap.size from ⟨hb2,k1.1,HBD.out.size⟩)
  have hA2:=And.intro (Blk.c3 (HA.out _ hb2).box).2.2 (Blk.c3 (HBB.out _ hb2).box).2.2
  clear k1 hb2 hA0 hA1
  refine hK _ _ ⟨hA2,fun h=>absurd (h.symm.trans (by kernel_rfl:_ = true)) Bool.false_ne_true⟩ ?_
  clear hK K
  refine anyU_done (by kernel_rfl) ?_ _
  go_wp2_with fail
  go_meet
  case rel=>exact ⟨_,rfl,HEN⟩
 case rest =>
  obtain ⟨bp,rfl,HBP⟩:=hcut
  obtain ⟨w1,rfl⟩:∃ q,q = wc:=⟨_,rfl⟩
  have HP:=Lib.hid (fun (W:World) (hb:Below w1.heap.size w1 W)=>And.intro ((HBP.out.2.1.below hb HBP.out.2.1.lt).cell (j:=0) rfl) ((HBP.out.2.1.below hb HBP.out.2.1.lt).cell (j:=1) rfl))
  obtain ⟨e0,e1⟩:=HP.out w1 (Below.refl _ _)
  go_upto_region 3 with fail
  have hbv:=box_below w1 (.cells #[.int .i64 (firA a),.int .i64 (firA b),.int .i64 (-1),.int .i64 0] 147)
  have HRW:=Lib.hid (own_lit4 w1 w.heap.size HBP.out.1.size (.int .i64 (firA a)) (.int .i64 (firA b)) (.int .i64 (-1)) (.int .i64 0) 147)
  have HB2:=Lib.hid (HBP.out.1.trans (hbv.mono HBP.out.1.size))
  have HP2:=Lib.hid (fun (W:World) (hb:Below w1.heap.size w1 W)=>HP.out W hb)
  obtain ⟨w2,hw2⟩:∃ q,w1.alloc (.cells #[.int .i64 (firA a),.int .i64 (firA b),.int .i64 (-1),.int .i64 0] 147) = q:=⟨_,rfl⟩
  rw [hw2] at hbv HRW HB2 ⊢
  have HBV:=Lib.hid hbv
  clear e0 e1 hw2 hbv
  have HW12:=Lib.hid (fun (W:World) (hb:Below w2.heap.size w2 W)=>HBV.out.trans (hb.mono HBV.out.size))
  have HKF:=Lib.hid (lpKey w2 (firA a) (firA b) (WalkArith.wf_i64 (by unfold firA;split <;> omega)) (WalkArith.wf_i64 (by unfold firA;split <;> omega)))
  have HKM:=Lib.hid (lpKey w2 (-1) (-1) (WalkArith.wf_i64 (by omega)) (WalkArith.wf_i64 (by omega)))
  have hmm:=@run_makeMap Try.prog
  go_cut [12] from 13 (fun s12 wx=>∃ (bs m:Nat),s12 = .map (some bs)∧Hid (m ≤ 5∧SeM w bs m (.slice (some ⟨w1.heap.size,0,none⟩) 1 1) [⟨firA a,firA b,-1,0⟩] wx∧Below w2.heap.size w2 wx))
  case first =>
   refine wp_region_U (fun W=>W.cell? ⟨bp,0,none⟩ = some (.int .i64 (firA a))∧W.cell? ⟨bp,1,none⟩ = some (.int .i64 (firA b))) (fun _=>True) 6 (by kernel_rfl) ?_
   change anyU _ _ _ _ _ _ _ 7 _ _ _
   have hB0:True:=trivial
   have HBD:=Lib.hid (below_dr w2)
   generalize w2.drew = wd at HBD ⊢
   have hA0:=HP.out wd (HW12.out wd HBD.out)
   (refine uA 1 ?_ rfl hA0 hB0 (fun W hA=>?_) ?_;rotate_left;(· (obtain ⟨a0,a1⟩:=hA;go_simp;try with_reducible rfl));(try simp only [Act.put,List.setIfInBounds_toArray,List.set_cons_zero,List.set_cons_succ]))
   (refine uA 3 ?_ rfl hA0 hB0 (fun W hA=>?_) ?_;rotate_left;(· (go_simp;try with_reducible rfl));(try simp only [Act.put,List.setIfInBounds_toArray,List.set_cons_zero,List.set_cons_succ]))
   refine anyI_at (I:=fun a0 f L a' W=>∃ (d x y m s:Bool) (bs n:Nat) (v30 v33 v12:Value),L = #[d,true,x,true,y,m,s]∧f + d.toNat + x.toNat + y.toNat + m.toNat + s.toNat = 5∧(x = true → d = true)∧(y = true → d = true)∧(m = true → x = true∧y = true)∧(s = true → m = true)∧(d = true → v30 = .map (some bs))∧(m = true → v33 = .map (some bs))∧(s = true → v12 = .map (some bs))∧a' = put3z a0 30 33 12 v30 v33 v12∧Hid (Below w2.heap.size w2 W∧(d = true → w2.heap.size ≤ bs∧n + (if x = true then 0 else 1) + (if y = true then 0 else 1) ≤ 2∧TabB Try.prog 127 4 kP W bs n (firB (firA a) (firA b) x y)))) ?_ ?_
   ·exact ⟨false,false,false,false,false,0,0,u30,u33,u12,rfl,rfl,(by simp),(by simp),(by simp),(by simp),(by simp),(by simp),(by simp),rfl,Lib.hid ⟨HBD.out,by simp⟩⟩
   ·clear HBD hA0
    rintro f L a' W ⟨d,x,y,m,s,bs,n,v30,v33,v12,rfl,hf,g1,g2,g3,g4,g5,g6,g7,rfl,HD⟩
    simp only [put3z,List.set_cons_succ,List.set_cons_zero]
    refine ⟨⟨HP.out W (HW12.out W HD.out.1),fun _=>trivial⟩,R5 d x y m s,?_,?_,?_,?_⟩
    ·clear HD g5 g6 g7 hf
     cases d <;> cases x <;> cases y <;> cases m <;> cases s <;> first | (exfalso;revert g1 g2 g3 g4;simp;done) | kernel_rfl
    ·intro hr0
     have:d = true∧x = true∧y = true∧m = true∧s = true:=by
      clear HD g5 g6 g7 hf
      revert g1 g2 g3 g4 hr0
      cases d <;> cases x <;> cases y <;> cases m <;> cases s <;> simp [R5]
     obtain ⟨rfl,rfl,rfl,rfl,rfl⟩:=this
     obtain rfl:=g7 rfl
     obtain ⟨h1,h2,h3⟩:=HD.out.2 rfl
     have HEN:=Lib.hid (show n ≤ 5∧SeM w bs n (.slice (some ⟨w1.heap.size,0,none⟩) 1 1) [⟨firA a,firA b,-1,0⟩] W∧Below w2.heap.size w2 W from ⟨by simp at h2;omega,⟨HB2.out.trans (HD.out.1.mono HB2.out.size),own_below HRW.out HD.out.1,TabB.say h3 (fun r=>(firB_all _ _ r).symm),Nat.le_trans HB2.out.size h1⟩,HD.out.1⟩)
     clear g1 g2 g3 g4 g5 g6 g7 hf hr0 HD h1 h2 h3
     go_wp2_with fail
     go_meet
     case rel=>exact ⟨bs,n,rfl,HEN⟩
    ·intro h0
     have:d = true∧x = true∧y = true∧m = true∧s = true:=by
      clear HD g5 g6 g7
      subst h0
      revert g1 g2 g3 g4 hf
      cases d <;> cases x <;> cases y <;> cases m <;> cases s <;> simp
     obtain ⟨rfl,rfl,rfl,rfl,rfl⟩:=this
     rfl
    ·rintro i hi g' rfl
     rcases R5_mem hi with ⟨rfl,k1⟩ | ⟨rfl,rfl,rfl⟩ | ⟨rfl,rfl,rfl⟩ | ⟨rfl,rfl,rfl,rfl⟩ | ⟨rfl,rfl,rfl⟩
     ·obtain rfl:d = false:=by cases d with | false=>rfl | true=>exact absurd rfl k1
      obtain rfl:x = false:=by cases x with | false=>rfl | true=>exact absurd (g1 rfl) (by simp)
      obtain rfl:y = false:=by cases y with | false=>rfl | true=>exact absurd (g2 rfl) (by simp)
      obtain rfl:m = false:=by cases m with | false=>rfl | true=>exact absurd (g3 rfl).1 (by simp)
      obtain rfl:s = false:=by cases s with | false=>rfl | true=>exact absurd (g4 rfl) (by simp)
      have HT:=Lib.hid (TabB.made W Try.prog 127 4 kP)
      have HBM:=Lib.hid (HD.out.1.alloc HD.out.1.size (.map #[] 0))
      refine wpOp_at (i:=0) rfl (fun K hK=>?_)
      go_simp
      exact hK _ _ ⟨true,false,false,false,false,W.heap.size,0,_,v33,v12,rfl,(by simp only [Bool.toNat_true,Bool.toNat_false] at hf ⊢;omega),(by simp),(by simp),(by simp),(by simp),(fun _=>rfl),(by simp),(by simp),rfl,Lib.hid ⟨HBM.out,fun _=>⟨HD.out.1.size,by simp,TabB.say HT.out (fun r=>by simp [firB])⟩⟩⟩
     ·obtain rfl:m = false:=by cases m with | false=>rfl | true=>exact absurd (g3 rfl).1 (by simp)
      obtain rfl:s = false:=by cases s with | false=>rfl | true=>exact absurd (g4 rfl) (by simp)
      obtain ⟨h1,h2,h3⟩:=HD.out.2 rfl
      obtain rfl:=g5 rfl
      obtain ⟨w9,hput,hT9,hg9⟩:=TabB.put h3 (t:=149) lpLaw Try.underlying149 Try.underlying4 (by omega) (firA a,firA b) HKF.out (firB (firA a) (firA b) true y) (fun q hq=>by rw [kP_inj hq];simp [firB]) (fun q hq=>by unfold firB;rw [decide_eq_false (p:=q = (firA a,firA b)) (fun e=>hq (by rw [e]))];simp)
      have hput':(Instr.mapUpdate 149 (.map (some bs)) (.agg #[.int .i64 (firA a),.int .i64 (firA b)]) (.bool true)).run Try.prog W = .ok () w9:=hput
      have HBM:=Lib.hid (HD.out.1.grown hg9 HD.out.1.size (fun j e=>by injection e with e;rw [← e];exact h1))
      have HT:=Lib.hid hT9
      refine wpOp_at (i:=2) rfl (fun K hK=>?_)
      go_simp
      exact hK _ _ ⟨true,true,y,false,false,bs,n + 1,_,v33,v12,rfl,(by simp only [Bool.toNat_true,Bool.toNat_false] at hf ⊢;omega),(fun _=>rfl),(fun _=>rfl),(by simp),(by simp),(fun _=>rfl),(by simp),(by simp),rfl,Lib.hid ⟨HBM.out,fun _=>⟨h1,by simp at h2 ⊢;omega,HT.out⟩⟩⟩
     ·obtain rfl:m = false:=by cases m with | false=>rfl | true=>exact absurd (g3 rfl).2 (by simp)
      obtain rfl:s = false:=by cases s with | false=>rfl | true=>exact absurd (g4 rfl) (by simp)
      obtain ⟨h1,h2,h3⟩:=HD.out.2 rfl
      obtain rfl:=g5 rfl
      obtain ⟨w9,hput,hT9,hg9⟩:=TabB.put h3 (t:=149) lpLaw Try.underlying149 Try.underlying4 (by omega) ((-1:Int),(-1:Int)) HKM.out (firB (firA a) (firA b) x true) (fun q hq=>by rw [kP_inj hq];simp [firB]) (fun q hq=>by unfold firB;rw [decide_eq_false (p:=q = ((-1:Int),(-1:Int))) (fun e=>hq (by rw [e]))];simp)
      have hput':(Instr.mapUpdate 149 (.map (some bs)) (.agg #[.int .i64 (-1),.int .i64 (-1)]) (.bool true)).run Try.prog W = .ok () w9:=hput
      have HBM:=Lib.hid (HD.out.1.grown hg9 HD.out.1.size (fun j e=>by injection e with e;rw [← e];exact h1))
      have HT:=Lib.hid hT9
      refine wpOp_at (i:=4) rfl (fun K hK=>?_)
      go_simp
      exact hK _ _ ⟨true,x,true,false,false,bs,n + 1,_,v33,v12,rfl,(by simp only [Bool.toNat_true,Bool.toNat_false] at hf ⊢;omega),(fun _=>rfl),(fun _=>rfl),(by simp),(by simp),(fun _=>rfl),(by simp),(by simp),rfl,Lib.hid ⟨HBM.out,fun _=>⟨h1,by simp at h2 ⊢;omega,HT.out⟩⟩⟩
     ·obtain rfl:=g1 rfl
      obtain rfl:s = false:=by cases s with | false=>rfl | true=>exact absurd (g4 rfl) (by simp)
      obtain rfl:=g5 rfl
      refine wpOp_at (i:=5) rfl (fun K hK=>?_)
      go_simp
      exact hK _ _ ⟨true,true,true,true,false,bs,n,_,_,v12,rfl,(by simp only [Bool.toNat_true,Bool.toNat_false] at hf ⊢;omega),(fun _=>rfl),(fun _=>rfl),(fun _=>⟨rfl,rfl⟩),(by simp),(fun _=>rfl),(fun _=>rfl),(by simp),rfl,HD⟩
     ·obtain ⟨rfl,rfl⟩:=g3 rfl
      obtain rfl:=g1 rfl
      obtain rfl:=g5 rfl
      obtain rfl:=g6 rfl
      refine wpOp_at (i:=6) rfl (fun K hK=>?_)
      go_simp
      exact hK _ _ ⟨true,true,true,true,true,bs,n,_,_,_,rfl,(by simp only [Bool.toNat_true,Bool.toNat_false] at hf ⊢;omega),(fun _=>rfl),(fun _=>rfl),(fun _=>⟨rfl,rfl⟩),(fun _=>rfl),(fun _=>rfl),(fun _=>rfl),(fun _=>rfl),rfl,HD⟩
  case rest =>
  obtain ⟨bs,m0,rfl,HS⟩:=hcut
  obtain ⟨w5,rfl⟩:∃ q,q = wc:=⟨_,rfl⟩
  have HN:=Lib.hid hNN
  have HST:=Lib.hid (show m0 ≤ 1 + 5∧SeM w bs m0 (.slice (some ⟨w1.heap.size,0,none⟩) 1 1) [⟨firA a,firA b,-1,0⟩] w5∧SrI a b [⟨firA a,firA b,-1,0⟩]∧srR a b V ch (vsN a b + 1) 0 [⟨firA a,firA b,-1,0⟩] = R from ⟨by have:=HS.out.1;omega,HS.out.2.1,SrI.start hwa hwb,HR.out⟩)
  clear HS hmm
  go_wp2
  go_loopw [8,11,13,14,16,17] (fun s8 s11 s13 s14 s16 s17 wr=>∃ (i ln:Nat) (A:Option Addr) (c:Nat) (v14 v16 v17:Value),s8 = .slice none 0 0∧s11 = .slice A ln c∧s13 = .int .i64 i∧s14 = v14∧s16 = v16∧s17 = v17∧i ≤ ln∧Hid (∃ (l:List Vs) (m:Nat),l.length = ln∧m ≤ ln + 5∧SeM w bs m (.slice A ln c) l wr∧SrI a b l∧srR a b V ch (vsN a b + 1 - i) i l = R)) (fun _ _ s13 _ _ _ _=>vsN a b + 1 - (intOf s13).toNat)
  case atStart=>exact ⟨0,1,_,1,_,_,_,rfl,rfl,rfl,rfl,rfl,rfl,Nat.zero_le _,Lib.hid ⟨_,m0,rfl,HST.out.1,HST.out.2.1,HST.out.2.2.1,HST.out.2.2.2⟩⟩
  case round =>
   obtain ⟨i,ln,A,c,v14,v16,v17,rfl,rfl,rfl,rfl,rfl,rfl,hi,HI⟩:=hrel
   obtain ⟨wi,rfl⟩:∃ q,q = wr:=⟨_,rfl⟩
   clear HST
   obtain ⟨l,m,hl,hm,hS,hSI,hRR⟩:=HI.out
   have HLL:=Lib.hid hl
   have HS:=Lib.hid hS
   have HSI:=Lib.hid hSI
   have HRR:=Lib.hid hRR
   have hln:ln ≤ 900000:=by have h1:=SrI.few hwa hwb hSI;have h2:=HN.out;omega
   have HFU:=Lib.hid (show ln ≤ vsN a b from by have h1:=SrI.few hwa hwb hSI;omega)
   clear hl hS hSI hRR HI
   by_cases hlt:i < ln
   case neg =>
    obtain rfl:i = ln:=by omega
    have b1:¬ (i:Int) < (i:Int):=by omega
    have HRN:=Lib.hid (show R = none from by
     have h1:=HRR.out
     have h2:=HFU.out
     rw [show vsN a b + 1 - i = (vsN a b - i) + 1 by omega,srR,List.getElem?_eq_none (by rw [HLL.out];exact Nat.le_refl _)] at h1
     exact h1.symm)
    go_wp2
    go_ret2
    exact ⟨.inl ⟨HRN.out,rfl⟩,HS.out.bel⟩
   have b1:(i:Int) < (ln:Int):=by omega
   obtain ⟨v,hv⟩:∃ v,l[i]? = some v:=⟨_,List.getElem?_eq_getElem (by rw [HLL.out];exact hlt)⟩
   have HV:=Lib.hid hv
   have hrow:=HS.out.row
   rw [HLL.out] at hrow
   have HRD:=Lib.hid (RdR.of_own (sz:=4) (f:=vsc) (by decide) (fun _ _=>rfl) hrow)
   obtain ⟨ad,v',hA,hab,hv',hc⟩:=HRD.out.get (k:=i) (by rw [HLL.out];exact hlt)
   obtain rfl:v = v':=by rw [hv] at hv';exact Option.some.inj hv'
   subst hA
   have g0:wi.cell? (ad.add (i * 4)) = some (.int .i64 v.p):=hc 0 _ rfl
   have g1:wi.cell? ⟨(ad.add (i * 4)).block,(ad.add (i * 4)).off + 1,none⟩ = some (.int .i64 v.q):=st_cells (j:=0) (hc 1 _ rfl)
   obtain ⟨qc,hqc⟩:∃ q,ch v.p v.q = q:=⟨_,rfl⟩
   have HC:=Lib.hid (HCH.out v.p v.q wi HS.out.bel)
   rw [hqc] at HC
   have HQC:=Lib.hid hqc
   clear hv hv' hc hab hrow hqc
   go_wp2_with fail
   refine HC.out.mono ?_
   rintro e wj ⟨rfl,hbj⟩
   have HSJ:=Lib.hid (HS.out.below hbj)
   clear HC g0 g1 hbj
   cases qc with
   | true =>
    have HRN:=Lib.hid (show R = some (bckV l ln i).reverse from by
     have h1:=HRR.out
     have h2:=HFU.out
     rw [show vsN a b + 1 - i = (vsN a b - i) + 1 by omega,srR,HV.out] at h1
     simp only [HQC.out] at h1
     rw [if_pos trivial,HLL.out] at h1
     exact h1.symm)
    clear HFU HRR HQC HN HCH HVR HVL HA HBB
    go_wp2
    go_loopw [8,14] (fun s8 s14 wr=>∃ (k nw:Nat) (A2:Option Addr) (c2:Nat),s8 = .slice A2 nw c2∧s14 = .int .i64 k∧k < ln∧k + nw ≤ i∧Hid (∃ pre:List Int,pre.length = nw∧wr.ownsRow w.heap.size 3 1 (.slice A2 nw c2) nw (iv pre)∧SeM w bs m (.slice (some ad) ln c) l wr∧bckV l ln i = pre ++ bckV l (ln - nw) k)) (fun _ s14 _=>(intOf s14).toNat)
    case atStart=>exact ⟨i,0,none,0,rfl,rfl,hlt,by omega,Lib.hid ⟨[],rfl,⟨rfl,.inl ⟨rfl,rfl⟩⟩,HSJ.out,by simp⟩⟩
    case round =>
     obtain ⟨k,nw,A2,c2,rfl,rfl,hkl,hkn,HI⟩:=hrel
     obtain ⟨wk,rfl⟩:∃ q,q = wr:=⟨_,rfl⟩
     obtain ⟨pre,hpl,hpo,hse,hbk⟩:=HI.out
     obtain ⟨t,ht⟩:∃ v,l[k]? = some v:=⟨_,List.getElem?_eq_getElem (by rw [HLL.out];exact hkl)⟩
     obtain ⟨_,_,q2,q3⟩:=hse.at HLL.out ht
     have HT:=Lib.hid ht
     have HPL:=Lib.hid hpl
     have HPO:=Lib.hid hpo
     have HSE:=Lib.hid hse
     have HBK:=Lib.hid hbk
     have hbf:=HSI.out.bef k t ht
     obtain ⟨tf,htf⟩:∃ q,t.f = q:=⟨_,rfl⟩
     obtain ⟨te,hte⟩:∃ q,t.e = q:=⟨_,rfl⟩
     rw [htf] at q2 hbf
     rw [hte] at q3
     have HTF:=Lib.hid (And.intro htf hte)
     have b2:(k:Int) < (ln:Int):=by omega
     clear ht hpl hpo hse hbk htf hte HI
     have HBB:=Lib.hid (show bckV l (ln - nw) k = if tf < 0 then [] else te :: bckV l (ln - (nw + 1)) tf from by
      rw [show ln - nw = (ln - (nw + 1)) + 1 by omega,bckV,Int.toNat_natCast,HT.out]
      simp only [HTF.out.1,HTF.out.2])
     by_cases hneg:tf < 0
     case pos =>
      have b3:¬ (tf ≥ 0):=by omega
      have HRW:=Lib.hid (show R = some pre.reverse from by
       rw [HRN.out,HBK.out,HBB.out,if_pos hneg,List.append_nil])
      have HRV:=Lib.hid (reverse_own w.heap.size nw (.slice A2 nw c2) pre wk HPO.out HPL.out (by omega))
      clear hbf hneg
      go_wp2_with fail
      refine HRV.out.mono ?_
      rintro e w9 ⟨rfl,ho9,hg9⟩
      have HO9:=Lib.hid ho9
      have HB9:=Lib.hid (HSE.out.grow HPO.out hg9 (by decide) (Nat.le_refl _)).bel
      clear ho9 hg9 HRV
      go_wp2
      go_ret2
      refine ⟨.inr ⟨pre.reverse,A2,c2,HRW.out,(by rw [List.length_reverse,HPL.out];try rfl),RdI.of_own HO9.out,?_,?_⟩,HB9.out⟩
      ·rw [List.length_reverse,HPL.out];exact (own_cap' HO9.out).1
      ·exact (own_cap' HO9.out).2
     have b3:tf ≥ 0:=by omega
     have hk0:k ≠ 0:=fun h=>by have:=hbf.1 h;omega
     have hfk:=(hbf.2 hk0).2
     obtain ⟨kf,rfl⟩:∃ q:Nat,tf = (q:Int):=⟨tf.toNat,by omega⟩
     have HBN:=Lib.hid (show bckV l ln i = (pre ++ [te]) ++ bckV l (ln - (nw + 1)) kf from by
      rw [HBK.out,HBB.out,if_neg (by omega),List.append_assoc];rfl)
     have hsz:=HSE.out.bel.size
     clear hbf hneg
     go_wp2_with (first
      | (at_builtin;refine wpList_pushA wk [.int .i64 te] rfl (.tmp 59) (.tmp 65) 29 rfl w.heap.size 3 (.int .i64 0) 1 8 Try.underlying29 int_info rfl (by decide) rfl (.slice A2 nw c2) nw _ rfl HPO.out rfl (fun z hz=>by simp at hz;subst hz;rfl) (by omega) (by omega) hsz ?_;intro A7 c7 w7 ho7 hg7 _;have HO7:=Lib.hid ho7;have HS7:=Lib.hid (HSE.out.grow HPO.out hg7 (by decide) (Nat.le_refl _));clear ho7 hg7;obtain ⟨_,_,y2,_⟩:=HS7.out.at HLL.out HT.out;rw [HTF.out.1] at y2)
      | fail)
     have HP7:=Lib.hid (show (pre ++ [te]).length = nw + 1 by rw [List.length_append,HPL.out];rfl)
     have HO8:=Lib.hid (show w7.ownsRow w.heap.size 3 1 (.slice A7 (nw + 1) c7) (nw + 1) (iv (pre ++ [te])) by rw [iv_append];exact HO7.out)
     go_roundw
     case rel=>exact ⟨kf,nw + 1,A7,c7,rfl,rfl,by omega,by omega,Lib.hid ⟨_,HP7.out,HO8.out,HS7.out,HBN.out⟩⟩
     case measure=>simp [intOf];omega
   | false =>
    have HRN:=Lib.hid (show srR a b V ch (vsN a b - i) (i + 1) (srV a b V i v l) = R from by
     have h1:=HRR.out
     have h2:=HFU.out
     rw [show vsN a b + 1 - i = (vsN a b - i) + 1 by omega,srR,HV.out] at h1
     simp only [HQC.out] at h1
     rw [if_neg (by simp)] at h1
     exact h1)
    go_wp2
    go_loopw [11,16,17,72] (fun s11 s16 s17 s72 wr=>∃ (j ln2:Nat) (A2:Option Addr) (c2:Nat) (v16 v17:Value),s11 = .slice A2 ln2 c2∧s16 = v16∧s17 = v17∧s72 = .int .i64 j∧j ≤ nv∧i < ln2∧Hid (∃ (l2:List Vs) (m2:Nat),l2.length = ln2∧m2 ≤ ln2 + 5∧SeM w bs m2 (.slice A2 ln2 c2) l2 wr∧SrI a b l2∧l2[i]? = some v∧(V.drop j).foldl (srE a b i v) l2 = srV a b V i v l)) (fun _ _ _ s72 _=>nv - (intOf s72).toNat)
    case atStart=>exact ⟨0,ln,some ad,c,_,_,rfl,rfl,rfl,rfl,Nat.zero_le _,hlt,Lib.hid ⟨l,m,HLL.out,hm,HSJ.out,HSI.out,HV.out,rfl⟩⟩
    case round =>
     obtain ⟨j,ln2,A2,c2,v16,v17,rfl,rfl,rfl,rfl,hj,hi2,HI⟩:=hrel
     obtain ⟨wo,rfl⟩:∃ q,q = wr:=⟨_,rfl⟩
     obtain ⟨l2,m2,hl2,hm2,hs2,hsi2,hv2,hf2⟩:=HI.out
     have HL2:=Lib.hid hl2
     have HM2:=Lib.hid hm2
     have HS2:=Lib.hid hs2
     have HSI2:=Lib.hid hsi2
     have HV2:=Lib.hid hv2
     have HF2:=Lib.hid hf2
     have hln2:ln2 ≤ 900000:=by have h1:=SrI.few hwa hwb hsi2;have h2:=HN.out;omega
     clear hl2 hm2 hs2 hsi2 hv2 hf2 HI
     by_cases hjn:j < nv
     case neg =>
      obtain rfl:j = nv:=by omega
      have b2:¬ (j:Int) < (j:Int):=by omega
      have HE2:=Lib.hid (show l2 = srV a b V i v l from by
       have h:=HF2.out
       rw [List.drop_of_length_le (by rw [HVL.out];exact Nat.le_refl _)] at h
       exact h)
      have hiv:i < vsN a b:=by have:=HFU.out;omega
      go_wp2
      go_roundw
      case rel=>exact ⟨i + 1,ln2,A2,c2,_,_,_,rfl,rfl,by go_num,rfl,rfl,rfl,hi2,Lib.hid ⟨l2,m2,HL2.out,HM2.out,HS2.out,HSI2.out,by rw [show vsN a b + 1 - (i + 1) = vsN a b - i by omega,HE2.out];exact HRN.out⟩⟩
      case measure=>simp [intOf];omega
     obtain ⟨av,x,hVA,hab,hx,hcx⟩:=(HVR.out wo HS2.out.bel).at_ (k:=j) (by rw [HVL.out];exact hjn)
     subst hVA
     have b2:(j:Int) < (nv:Int):=by omega
     have b3:(i:Int) < (ln2:Int):=by omega
     have HX:=Lib.hid hx
     have HXR:=Lib.hid (HVW.out x (List.mem_of_getElem? hx))
     clear hx hab
     go_upto_region 17 with fail
     clear hcx
     obtain ⟨ad2,hA2⟩:=own_some HS2.out.row (by rw [HL2.out];omega)
     subst hA2
     obtain ⟨t1,ht1⟩:∃ q,nxt a v.p x = q:=⟨_,rfl⟩
     obtain ⟨t2,ht2⟩:∃ q,nxt b v.q x = q:=⟨_,rfl⟩
     have HT12:=Lib.hid (And.intro ht1 ht2)
     have hr1:=nxt_ge hwa v.p x
     have hr2:=nxt_ge hwb v.q x
     rw [ht1] at hr1
     rw [ht2] at hr2
     have HKEY:=Lib.hid (fun (W:World)=>lpKey W t1 t2 (WalkArith.wf_i64 (by have:=hwa.st1;omega)) (WalkArith.wf_i64 (by have:=hwb.st1;omega)))
     have hrg:=HSI2.out.rng v (List.mem_of_getElem? HV2.out)
     have HW1:=Lib.hid (show (Lit.int .i64 v.p).wf = true from WalkArith.wf_i64 (by have:=hwa.st1;omega))
     have HW2:=Lib.hid (show (Lit.int .i64 v.q).wf = true from WalkArith.wf_i64 (by have:=hwb.st1;omega))
     have HW3:=Lib.hid (show (Lit.int .i64 x).wf = true from WalkArith.wf_i64 (by have:=HXR.out;omega))
     have HSD:=Lib.hid (fun (W:World) (hb:Below wo.heap.size wo W)=>HS2.out.below hb)
     clear ht1 ht2 hr1 hr2 hrg
     refine wp_region_U (fun W=>W.cell? (ad2.add (i * 4)) = some (.int .i64 v.p)∧W.cell? ⟨(ad2.add (i * 4)).block,(ad2.add (i * 4)).off + 1,none⟩ = some (.int .i64 v.q)) (fun _=>True) 99 (by kernel_rfl) ?_
     change anyU _ _ _ _ _ _ _ 21 _ _ _
     have HBD:=Lib.hid (below_dr wo)
     generalize wo.drew = wd at HBD ⊢
     have HAT:=Lib.hid (fun (W:World) (hb:Below wo.heap.size wo W)=>(fun (h:_∧_∧_∧_)=>And.intro h.1 h.2.1) ((HSD.out W hb).at HL2.out HV2.out))
     have hA0:=HAT.out wd HBD.out
     have hB0:True:=trivial
     (refine uA 0 ?_ rfl hA0 hB0 (fun W hA=>?_) ?_;rotate_left;(· (go_simp;try with_reducible rfl));refine uA 1 ?_ rfl hA0 hB0 (fun W hA=>?_) ?_;rotate_left;(· (go_simp;try with_reducible rfl));refine uA 2 ?_ rfl hA0 hB0 (fun W hA=>?_) ?_;rotate_left;(· (go_simp;try with_reducible rfl));(try simp only [Act.put,List.setIfInBounds_toArray,List.set_cons_zero,List.set_cons_succ]))
     (refine uA 3 ?_ rfl hA0 hB0 (fun W hA=>?_) ?_;rotate_left;(· (go_simp;try with_reducible rfl));refine uA 4 ?_ rfl hA0 hB0 (fun W hA=>?_) ?_;rotate_left;(· (go_simp;try with_reducible rfl));refine uA 5 ?_ rfl hA0 hB0 (fun W hA=>?_) ?_;rotate_left;(· (go_simp;try with_reducible rfl));(try simp only [Act.put,List.setIfInBounds_toArray,List.set_cons_zero,List.set_cons_succ]))
     (refine uA 6 ?_ rfl hA0 hB0 (fun W hA=>?_) ?_;rotate_left;(· (obtain ⟨a0,a1⟩:=hA;go_simp;try with_reducible rfl));(try simp only [Act.put,List.setIfInBounds_toArray,List.set_cons_zero,List.set_cons_succ]))
     (refine uA 7 ?_ rfl hA0 hB0 (fun W hA=>?_) ?_;rotate_left;(· (go_simp;try with_reducible rfl));(try simp only [Act.put,List.setIfInBounds_toArray,List.set_cons_zero,List.set_cons_succ]))
     (refine uA 9 ?_ rfl hA0 hB0 (fun W hA=>?_) ?_;rotate_left;(· (go_simp;try with_reducible rfl));refine uA 10 ?_ rfl hA0 hB0 (fun W hA=>?_) ?_;rotate_left;(· (go_simp;try with_reducible rfl));refine uA 11 ?_ rfl hA0 hB0 (fun W hA=>?_) ?_;rotate_left;(· (go_simp;try with_reducible rfl));(try simp only [Act.put,List.setIfInBounds_toArray,List.set_cons_zero,List.set_cons_succ]))
     (refine uA 12 ?_ rfl hA0 hB0 (fun W hA=>?_) ?_;rotate_left;(· (go_simp;try with_reducible rfl));refine uA 13 ?_ rfl hA0 hB0 (fun W hA=>?_) ?_;rotate_left;(· (go_simp;try with_reducible rfl));refine uA 14 ?_ rfl hA0 hB0 (fun W hA=>?_) ?_;rotate_left;(· (go_simp;try with_reducible rfl));(try simp only [Act.put,List.setIfInBounds_toArray,List.set_cons_zero,List.set_cons_succ]))
     (refine uA 15 ?_ rfl hA0 hB0 (fun W hA=>?_) ?_;rotate_left;(· (obtain ⟨a0,a1⟩:=hA;go_simp;try with_reducible rfl));(try simp only [Act.put,List.setIfInBounds_toArray,List.set_cons_zero,List.set_cons_succ]))
     (refine uA 16 ?_ rfl hA0 hB0 (fun W hA=>?_) ?_;rotate_left;(· (go_simp;try with_reducible rfl));(try simp only [Act.put,List.setIfInBounds_toArray,List.set_cons_zero,List.set_cons_succ]))
     refine anyI_at (I:=fun a0 f L a' W=>∃ (c1 c2 bd al st:Bool) (p:Nat) (v84 v93 v94 v17:Value),L = #[true,true,true,true,true,true,true,true,c1,true,true,true,true,true,true,true,true,c2,bd,al,st]∧f + c1.toNat + c2.toNat + bd.toNat + al.toNat + st.toNat = 5∧(c2 = true → c1 = true)∧(bd = true → c2 = true)∧(st = true → bd = true∧al = true)∧(c1 = true → v84 = .int .i64 t1)∧(c2 = true → v93 = .int .i64 t2)∧(bd = true → v94 = .agg #[.int .i64 t1,.int .i64 t2])∧(al = true → v17 = .pointer (some ⟨p,0,none⟩))∧a' = put4n a0 84 93 94 17 v84 v93 v94 v17∧Hid (Below wo.heap.size wo W∧(al = true → wo.heap.size ≤ p∧Blk W p 127 (if st = true then [.int .i64 t1,.int .i64 t2] else [.int .i64 0,.int .i64 0])))) ?_ ?_
     ·exact ⟨false,false,false,false,false,0,_,_,_,_,rfl,rfl,(by simp),(by simp),(by simp),(by simp),(by simp),(by simp),(by simp),rfl,Lib.hid ⟨HBD.out,by simp⟩⟩
     ·clear HBD hA0
      rintro f L a' W ⟨c1,c2',bd,al,st,p,v84,v93,v94,v17',rfl,hf,g1,g2,g3,g4,g5,g6,g7,rfl,HD⟩
      simp only [put4n,List.setIfInBounds_toArray,List.set_cons_succ,List.set_cons_zero]
      refine ⟨⟨HAT.out W HD.out.1,fun _=>trivial⟩,R17 c1 c2' bd al st,?_,?_,?_,?_⟩
      ·clear HD g4 g5 g6 g7 hf
       cases c1 <;> cases c2' <;> cases bd <;> cases al <;> cases st <;> first | (exfalso;revert g1 g2 g3;simp;done) | kernel_rfl
      ·intro hr0
       have:c1 = true∧c2' = true∧bd = true∧al = true∧st = true:=by
        clear HD g4 g5 g6 g7 hf
        revert g1 g2 g3 hr0
        cases c1 <;> cases c2' <;> cases bd <;> cases al <;> cases st <;> simp [R17]
       obtain ⟨rfl,rfl,rfl,rfl,rfl⟩:=this
       obtain rfl:=g7 rfl
       obtain ⟨hBW,hp⟩:=HD.out
       obtain ⟨hpl,hpk⟩:=hp rfl
       rw [if_pos rfl] at hpk
       have HBW:=Lib.hid hBW
       have HPK:=Lib.hid hpk
       have HPL:=Lib.hid hpl
       clear g1 g2 g3 g4 g5 g6 g7 hf hr0 HD hp hBW hpk hpl HAT
       have HSW:=Lib.hid (HSD.out W HBW.out)
       obtain ⟨gg,hgg⟩:∃ g,(fun r:Int × Int=>vsB l2 r.1 r.2) = g:=⟨_,rfl⟩
       have HTB:=Lib.hid (show TabB Try.prog 127 4 kP W bs m2 gg by rw [← hgg];exact HSW.out.set)
       obtain ⟨sn,hsn⟩:∃ q,vsB l2 t1 t2 = q:=⟨_,rfl⟩
       have HSN:=Lib.hid hsn
       have HGG:=Lib.hid (show gg (t1,t2) = sn by rw [← hgg];exact hsn)
       have HGA:=Lib.hid hgg
       have HFN:=Lib.hid (show (V.drop (j + 1)).foldl (srE a b i v) (srE a b i v l2 x) = srV a b V i v l by
        have h:=HF2.out
        rw [drop_cons' HX.out] at h
        exact h)
       have HSTP:=Lib.hid (SrI.step hwa hwb HSI2.out (i:=i) (by rw [HL2.out];exact hi2) v x)
       clear hgg hsn HSD HA HBB HW1 HW2 HW3 HF2
       have e0:=HPK.out.cell (j:=0) rfl
       have e1:=HPK.out.cell (j:=1) rfl
       cases sn with
       | true =>
        have HFE:=Lib.hid (show srE a b i v l2 x = l2 by unfold srE;rw [HT12.out.1,HT12.out.2,HSN.out,if_pos rfl])
        go_wp2_with (first
         | (at_lookup;refine wpList_tabB_get (by rfl) (.tmp 95) (.tmp 96) 149 (by rfl) lpLaw Try.underlying149 Try.underlying4 (by rfl) (by rfl) HTB.out (t1,t2) (by rfl) (HKEY.out W) ?_;rw [HGG.out])
         | fail)
        go_roundw
        case rel=>exact ⟨j + 1,ln2,some ad2,c2,_,_,rfl,rfl,rfl,by go_num,by omega,hi2,Lib.hid ⟨l2,m2,HL2.out,HM2.out,HSW.out,HSI2.out,HV2.out,by have h:=HFN.out;rw [HFE.out] at h;exact h⟩⟩
        case measure=>simp [intOf];omega
       | false =>
        have HFE:=Lib.hid (show srE a b i v l2 x = l2 ++ [⟨t1,t2,(i:Int),x⟩] by unfold srE;rw [HT12.out.1,HT12.out.2,HSN.out,if_neg (by simp)])
        go_upto_region 19 with (first
         | (at_lookup;refine wpList_tabB_get (by rfl) (.tmp 95) (.tmp 96) 149 (by rfl) lpLaw Try.underlying149 Try.underlying4 (by rfl) (by rfl) HTB.out (t1,t2) (by rfl) (HKEY.out W) ?_;rw [HGG.out])
         | fail)
        clear e0 e1
        refine wp_region_U (fun U=>U.cell? ⟨p,0,none⟩ = some (.int .i64 t1)∧U.cell? ⟨p,1,none⟩ = some (.int .i64 t2)) (fun _=>True) 99 (by kernel_rfl) ?_
        change anyU _ _ _ _ _ _ _ 11 _ _ _
        have HBE:=Lib.hid (below_dr W)
        generalize W.drew = we at HBE ⊢
        have HSE:=Lib.hid (HSW.out.below HBE.out)
        have HPE:=Lib.hid (HPK.out.below HBE.out HPK.out.lt)
        have HTE:=Lib.hid (TabB.below HTB.out HBE.out (TabB.lt HTB.out))
        have hre:=HSE.out.row
        rw [HL2.out] at hre
        have HRE:=Lib.hid hre
        have hA0:=And.intro (HPE.out.cell (j:=0) rfl) (HPE.out.cell (j:=1) rfl)
        have hB0:True:=trivial
        clear hre
        (refine uA 0 ?_ rfl hA0 hB0 (fun W hA=>?_) ?_;rotate_left;(· (go_simp;try with_reducible rfl));(try simp only [Act.put,List.setIfInBounds_toArray,List.set_cons_zero,List.set_cons_succ]))
        (refine uA 1 ?_ rfl hA0 hB0 (fun W hA=>?_) ?_;rotate_left;(· (obtain ⟨a0,a1⟩:=hA;go_simp;try with_reducible rfl));(try simp only [Act.put,List.setIfInBounds_toArray,List.set_cons_zero,List.set_cons_succ]))
        (refine uA 2 ?_ rfl hA0 hB0 (fun W hA=>?_) ?_;rotate_left;(· (go_simp;try with_reducible rfl));(try simp only [Act.put,List.setIfInBounds_toArray,List.set_cons_zero,List.set_cons_succ]))
        (refine uA 3 ?_ rfl hA0 hB0 (fun W hA=>?_) ?_;rotate_left;(· (obtain ⟨a0,a1⟩:=hA;go_simp;try with_reducible rfl));(try simp only [Act.put,List.setIfInBounds_toArray,List.set_cons_zero,List.set_cons_succ]))
        (refine uA 4 ?_ rfl hA0 hB0 (fun W hA=>?_) ?_;rotate_left;(· (go_simp;try with_reducible rfl));refine uA 5 ?_ rfl hA0 hB0 (fun W hA=>?_) ?_;rotate_left;(· (go_simp;try with_reducible rfl));refine uA 6 ?_ rfl hA0 hB0 (fun W hA=>?_) ?_;rotate_left;(· (go_simp;try with_reducible rfl));(try simp only [Act.put,List.setIfInBounds_toArray,List.set_cons_zero,List.set_cons_succ]))
        refine uOne (i:=7) rfl (by kernel_rfl) (fun K hK=>?_)
        go_simp
        have hbz:=box_below we (.cells #[.int .i64 t1,.int .i64 t2,.int .i64 (i:Int),.int .i64 x] 147)
        have hPz:=HPE.out.below hbz HPE.out.lt
        have hA1:=And.intro (hPz.cell (j:=0) rfl) (hPz.cell (j:=1) rfl)
        (refine hK _ _ ⟨hA1,fun _=>hB0⟩ ?_;clear hK K;(try simp only [Act.put,List.setIfInBounds_toArray,List.set_cons_zero,List.set_cons_succ]))
        refine uOne (i:=8) rfl (by kernel_rfl) (fun K hK=>?_)
        refine step_pushN we [.int .i64 t1,.int .i64 t2,.int .i64 (i:Int),.int .i64 x] (by rfl) (.tmp 101) (.tmp 106) 148 (by rfl) w.heap.size 147 (.agg #[.int .i64 0,.int .i64 0,.int .i64 0,.int .i64 0]) 4 32 Try.underlying148 vs_info (by rfl) (by decide) (by rfl) (.slice (some ad2) ln2 c2) ln2 _ (by rfl) HRE.out (by rfl) (fun q hq=>by simp at hq;rcases hq with rfl | rfl | rfl | rfl <;> rfl) (by omega) (by omega) HSE.out.bel.size ?_
        intro A9 c9 w9 ho9 hg9
        have hP9:=HPE.out.kept hg9 (blk_ne_own HRE.out HPE.out (by decide))
        have hA2:=And.intro (hP9.cell (j:=0) rfl) (hP9.cell (j:=1) rfl)
        (refine hK _ _ ⟨hA2,fun _=>hB0⟩ ?_;clear hK K;(try simp only [Act.put,List.setIfInBounds_toArray,List.set_cons_zero,List.set_cons_succ]))
        refine uOne (i:=9) rfl (by kernel_rfl) (fun K hK=>?_)
        have hT9:=TabB.kept HTE.out hg9 (TabB.ne HTE.out HRE.out)
        obtain ⟨w10,hput,hT10,hg10⟩:=TabB.put hT9 (t:=149) lpLaw Try.underlying149 Try.underlying4 (by have:=HM2.out;omega) (t1,t2) (HKEY.out w9) (fun r=>vsB (l2 ++ [⟨t1,t2,(i:Int),x⟩]) r.1 r.2) (fun d hd=>vsB_hit _ _ hd) (fun d hd=>by rw [← HGA.out];exact vsB_other _ _ hd)
        have hput':(Instr.mapUpdate 149 (.map (some bs)) (.agg #[.int .i64 t1,.int .i64 t2]) (.bool true)).run Try.prog w9 = .ok () w10:=hput
        go_simp
        have hP10:=hP9.kept hg10 (fun e=>by injection e with e;exact TabB.neB hT9 hP9 e.symm)
        have hA3:=And.intro (hP10.cell (j:=0) rfl) (hP10.cell (j:=1) rfl)
        (refine hK _ _ ⟨hA3,fun _=>hB0⟩ ?_;clear hK K;(try simp only [Act.put,List.setIfInBounds_toArray,List.set_cons_zero,List.set_cons_succ]))
        refine uOne (i:=10) rfl (by kernel_rfl) (fun K hK=>?_)
        go_simp
        (refine hK _ _ ⟨hA3,fun _=>hB0⟩ ?_;clear hK K;(try simp only [Act.put,List.setIfInBounds_toArray,List.set_cons_zero,List.set_cons_succ]))
        refine anyU_done (by kernel_rfl) ?_ _
        have HS10:=Lib.hid (show SeM w bs (m2 + 1) (.slice A9 (ln2 + 1) c9) (l2 ++ [⟨t1,t2,(i:Int),x⟩]) w10 from HSE.out.push (v:=⟨t1,t2,(i:Int),x⟩) (by rw [HL2.out];exact ho9) hg9 hT10 (fun _=>rfl) hg10)
        have HSI10:=Lib.hid (show SrI a b (l2 ++ [⟨t1,t2,(i:Int),x⟩]) from by have h:=HSTP.out.1;rw [HFE.out] at h;exact h)
        have HL10:=Lib.hid (show (l2 ++ [(⟨t1,t2,(i:Int),x⟩:Vs)]).length = ln2 + 1 from by rw [List.length_append,HL2.out];rfl)
        clear hA0 hA1 hA2 hA3 hB0 hP9 hP10 hPz hbz hput hput' hT9 hT10 hg9 hg10 ho9
        go_wp2
        go_roundw
        case rel=>exact ⟨j + 1,ln2 + 1,A9,c9,_,_,rfl,rfl,rfl,by go_num,by omega,by omega,Lib.hid ⟨_,m2 + 1,HL10.out,by have:=HM2.out;omega,HS10.out,HSI10.out,by rw [List.getElem?_append_left (by rw [HL2.out];exact hi2)];exact HV2.out,by have h:=HFN.out;rw [HFE.out] at h;exact h⟩⟩
        case measure=>simp [intOf];omega
      ·intro h0
       have:c1 = true∧c2' = true∧bd = true∧al = true∧st = true:=by
        clear HD g4 g5 g6 g7
        subst h0
        revert g1 g2 g3 hf
        cases c1 <;> cases c2' <;> cases bd <;> cases al <;> cases st <;> simp
       obtain ⟨rfl,rfl,rfl,rfl,rfl⟩:=this
       rfl
      ·rintro i' hi' g' rfl
       rcases R17_mem hi' with ⟨rfl,rfl⟩ | ⟨rfl,rfl,rfl⟩ | ⟨rfl,rfl,rfl⟩ | ⟨rfl,rfl⟩ | ⟨rfl,rfl,rfl,rfl⟩
       ·obtain rfl:c2' = false:=by cases c2' with | false=>rfl | true=>exact absurd (g1 rfl) (by simp)
        obtain rfl:bd = false:=by cases bd with | false=>rfl | true=>exact absurd (g2 rfl) (by simp)
        obtain rfl:st = false:=by cases st with | false=>rfl | true=>exact absurd (g3 rfl).1 (by simp)
        refine wpOp_at (i:=8) rfl (fun K hK=>?_)
        go_simp
        go_at_call 91
        refine (lng_step a _ _ _ _ v.p x W (HA.out W (HS2.out.bel.trans (HD.out.1.mono HS2.out.bel.size))) HW1.out HW3.out).mono ?_
        rintro e w9 ⟨rfl,rfl⟩
        rw [HT12.out.1]
        go_simp
        exact hK _ _ ⟨true,false,false,al,false,p,_,v93,v94,v17',rfl,(by simp only [Bool.toNat_true,Bool.toNat_false] at hf ⊢;omega),(by simp),(by simp),(by simp),(fun _=>rfl),(by simp),(by simp),g7,rfl,HD⟩
       ·obtain rfl:bd = false:=by cases bd with | false=>rfl | true=>exact absurd (g2 rfl) (by simp)
        obtain rfl:st = false:=by cases st with | false=>rfl | true=>exact absurd (g3 rfl).1 (by simp)
        obtain rfl:=g4 rfl
        refine wpOp_at (i:=17) rfl (fun K hK=>?_)
        go_simp
        go_at_call 91
        refine (lng_step b _ _ _ _ v.q x W (HBB.out W (HS2.out.bel.trans (HD.out.1.mono HS2.out.bel.size))) HW2.out HW3.out).mono ?_
        rintro e w9 ⟨rfl,rfl⟩
        rw [HT12.out.2]
        go_simp
        exact hK _ _ ⟨true,true,false,al,false,p,_,_,v94,v17',rfl,(by simp only [Bool.toNat_true,Bool.toNat_false] at hf ⊢;omega),(by simp),(by simp),(by simp),(fun _=>rfl),(fun _=>rfl),(by simp),g7,rfl,HD⟩
       ·obtain rfl:st = false:=by cases st with | false=>rfl | true=>exact absurd (g3 rfl).1 (by simp)
        obtain rfl:=g1 rfl
        obtain rfl:=g4 rfl
        obtain rfl:=g5 rfl
        refine wpOp_at (i:=18) rfl (fun K hK=>?_)
        go_simp
        exact hK _ _ ⟨true,true,true,al,false,p,_,_,_,v17',rfl,(by simp only [Bool.toNat_true,Bool.toNat_false] at hf ⊢;omega),(by simp),(by simp),(by simp),(fun _=>rfl),(fun _=>rfl),(fun _=>rfl),g7,rfl,HD⟩
       ·obtain rfl:st = false:=by cases st with | false=>rfl | true=>exact absurd (g3 rfl).2 (by simp)
        have HBZ:=Lib.hid (HD.out.1.trans ((box_below W (.cells #[.int .i64 0,.int .i64 0] 127)).mono HD.out.1.size))
        have HKZ:=Lib.hid (Blk.new W 127 [.int .i64 0,.int .i64 0])
        refine wpOp_at (i:=19) rfl (fun K hK=>?_)
        go_simp
        exact hK _ _ ⟨c1,c2',bd,true,false,W.heap.size,v84,v93,v94,_,rfl,(by simp only [Bool.toNat_true,Bool.toNat_false] at hf ⊢;omega),g1,g2,(by simp),g4,g5,g6,(fun _=>rfl),rfl,Lib.hid ⟨HBZ.out,fun _=>⟨HD.out.1.size,by rw [if_neg (by simp)];exact HKZ.out⟩⟩⟩
       ·obtain rfl:=g2 rfl
        obtain rfl:=g1 rfl
        obtain rfl:=g4 rfl
        obtain rfl:=g5 rfl
        obtain rfl:=g6 rfl
        obtain rfl:=g7 rfl
        obtain ⟨hp1,hp2⟩:=HD.out.2 rfl
        rw [if_neg (by simp)] at hp2
        refine wpOp_at (i:=20) rfl (fun K hK=>?_)
        refine step_store rfl 127 (.tmp 17) (.tmp 94) (by rfl) p 0 #[.int .i64 t1,.int .i64 t2] (by rfl) (by rfl) (hp2.there (o:=0) (n:=2) (by simp)) lp_size (by simp [Value.oneCell']) ?_
        have k1:=hp2.sets [.int .i64 t1,.int .i64 t2] (o:=0) (by simp)
        exact hK _ _ ⟨true,true,true,true,true,p,_,_,_,_,rfl,(by simp only [Bool.toNat_true,Bool.toNat_false] at hf ⊢;omega),(fun _=>rfl),(fun _=>rfl),(fun _=>⟨rfl,rfl⟩),(fun _=>rfl),(fun _=>rfl),(fun _=>rfl),(fun _=>rfl),rfl,Lib.hid ⟨HD.out.1.grown k1.2 HD.out.1.size (fun j e=>by injection e with e;rw [← e];exact hp1),fun _=>⟨hp1,by rw [if_pos rfl];exact k1.1⟩⟩⟩
end Go.Proofs.Ytdnmpndnpfklcaa
