/- Walk of synthesis.start. -/
import Derived.Test.YtdnmpndnpfklcaaX1
import Derived.Test.YtdnmpndnpfklcaaUk
namespace Go.Proofs.Ytdnmpndnpfklcaa
open Go.RowKit Go Go.Maps
def put5n (a:Act) (s1 s2 s3 s4 s5:Nat) (v1 v2 v3 v4 v5:Value):Act:={ a with tmps:=((((a.tmps.setIfInBounds s1 v1).setIfInBounds s2 v2).setIfInBounds s3 v3).setIfInBounds s4 v4).setIfInBounds s5 v5 }
def R9s (m s b x t:Bool):List Nat:=(if m = true then [] else [2]) ++ (if s = true then [] else [5]) ++ (if m = true∧s = true∧b = false then [6] else []) ++ (if b = true∧x = false then [7] else []) ++ (if x = true∧t = false then [8] else [])
theorem R9s_mem {m s b x t:Bool} {i:Nat} (h:i ∈ R9s m s b x t):(i = 2∧m = false) ∨ (i = 5∧s = false) ∨ (i = 6∧m = true∧s = true∧b = false) ∨ (i = 7∧b = true∧x = false) ∨ (i = 8∧x = true∧t = false):=by
 cases m <;> cases s <;> cases b <;> cases x <;> cases t <;> simp [R9s] at h ⊢ <;> omega
def trL (n k:Nat):List Bool:=List.replicate k true ++ List.replicate (n - k) false
theorem trL_set {n k:Nat} (h:k < n):(trL n k).set k true = trL n (k + 1):=by
 unfold trL
 rw [List.set_append,if_neg (by simp),List.length_replicate,Nat.sub_self,show n - k = (n - (k + 1)) + 1 by omega,List.replicate_succ (n:=n - (k + 1)),List.set_cons_zero,List.replicate_succ' (n:=k),List.append_assoc]
 rfl
theorem trL_len {n k:Nat} (h:k ≤ n):(trL n k).length = n:=by unfold trL;simp;omega
def clrL (N:List Bool) (F:List Int):List Bool:=F.foldl (fun N s=>N.set s.toNat false) N
theorem clrL_len:∀ (F:List Int) (N:List Bool),(clrL N F).length = N.length
 | [],_=>rfl
 | s :: F,N=>by
  show (clrL (N.set s.toNat false) F).length = _
  rw [clrL_len F,List.length_set]
theorem clrL_snoc {N:List Bool} {F:List Int} {k:Nat} {s:Int} (h:F[k]? = some s):clrL N (F.take (k + 1)) = (clrL N (F.take k)).set s.toNat false:=by
 unfold clrL
 rw [List.take_add_one,h,List.foldl_append]
 rfl
theorem clrL_rmv (N:List Bool) (F:List Int) (g:Int → Rm) (hg:∀ s,(g s).s = s):rmv N (F.map g) = clrL N F:=by
 unfold rmv clrL
 rw [List.foldl_map]
 simp only [hg]
theorem zeroIts (w:World):(zeroValue 29).run Try.prog w = .ok (.slice none 0 0) w:=by kernel_rfl
theorem StM.edge {w W W1 W2:World} {x:AV} {u:IV} {pb o lb n m gb c:Nat} {es:List Ed} {g:Int → Option Hd} {N:List Bool} (h:StM w x u pb o lb n W m es g N) {y:Ed}
  (ho:W1.ownsRow w.heap.size 3 1 (.slice (some ⟨gb,0,none⟩) ((preL es y.t).length + 1) c) ((preL es y.t).length + 1) (iv ((preL es y.t).map Ed.f) ++ [.int .i64 y.f])) (hg:W.grownBy W1 (hvl (g y.t)).ownBlock)
  (hgb:(hvl (g y.t)).ownBlock = some gb ∨ W.heap.size ≤ gb)
  (ht:TabH Try.prog 3 (Value.int .i64) W2 o (m + 1) (fun v=>if v = y.t then some (gb,(preL es y.t).length + 1,c) else g v)) (hg2:W1.grownBy W2 (some o)) :
  StM w x u pb o lb n W2 (m + 1) (es ++ [y]) (fun v=>if v = y.t then some (gb,(preL es y.t).length + 1,c) else g v) N:=by
 have hrow:=h.into.row y.t
 have kp:=h.kp.kept hg (blk_ne_own hrow h.kp (by decide))
 have kl:=h.kl.kept hg (blk_ne_own hrow h.kl (by decide))
 have htab:=h.into.tab.kept hg (h.into.tab.ne hrow)
 exact ⟨kp.kept hg2 (fun e=>by injection e with e;exact htab.neB kp e.symm),kl.kept hg2 (fun e=>by injection e with e;exact htab.neB kl e.symm),h.nl,h.into.step ho hg hgb ht hg2,h.l1,h.l2⟩
def RetSt (x:AV) (u:IV) (n:Nat) (N:List Bool) (w:World) (e:Ending) (w':World):Prop:=∃ (pb o lb m:Nat) (g:Int → Option Hd),e = .returned (.pointer (some ⟨pb,0,none⟩))∧StM w x u pb o lb n w' m x.a.ed g N
set_option maxRecDepth 100000 in
set_option maxHeartbeats 12800000 in
theorem syn_start (x:AV) (u f:IV) (n:Nat) (w:World) (hx:x.ok w w.heap.size) (hf:f.ok w w.heap.size) (hw:WF x.a) (hn:x.a.st = (n:Int)) (hfr:∀ s ∈ f.l,0 ≤ s∧s < (n:Int)) (hfn:f.n ≤ 1000000) :
  Calls Try.prog 92 #[.agg #[.slice x.A x.na x.ca,.int .i64 (n:Int),.slice x.M x.nm x.cm,.slice x.E x.ne x.ce],.slice f.A f.n f.c,.slice u.A u.n u.c] w (RetSt x u n (clrL (List.replicate n true) f.l) w):=by
 obtain ⟨A,na,ca,M,nm,cm,E,ne,ce,a⟩:=x
 obtain ⟨FA,fn,fc,fl'⟩:=f
 dsimp only at hw hn hfr hfn ⊢
 have hb1:=box_below w (.cells #[.slice A na ca,.int .i64 (n:Int),.slice M nm cm,.slice E ne ce] 32)
 obtain ⟨w1,hw9⟩:∃ w1,w1 = w.alloc (.cells #[.slice A na ca,.int .i64 (n:Int),.slice M nm cm,.slice E ne ce] 32):=⟨_,rfl⟩
 have kx:Blk w1 w.heap.size 32 [.slice A na ca,.int .i64 (n:Int),.slice M nm cm,.slice E ne ce]:=by rw [hw9];exact Blk.new _ _ [_,_,_,_]
 rw [← hw9] at hb1
 have HRE:=Lib.hid (fun (W:World) (hb:Below w.heap.size w W)=>(AutR.more (AutR.below hx hb) hb.size).re)
 have HFR:=Lib.hid (fun (W:World) (hb:Below w.heap.size w W)=>((hf.below hb).more hb.size).ra)
 have HFL:=Lib.hid hf.la
 have HFC:=Lib.hid (And.intro hf.ac hf.cA)
 have HFB:=Lib.hid hfr
 have HLE:=Lib.hid hx.le
 have HER:=Lib.hid (show ∀ y ∈ a.ed,(0 ≤ y.f∧y.f < (n:Int))∧(0 ≤ y.t∧y.t < (n:Int)) from fun y hy=>by have:=hw.ev_rng hy;omega)
 have hn4:n ≤ 4096:=by have:=hw.st1;omega
 have hedl:=hw.ed_le
 rw [HLE.out] at hedl
 have HKX:=Lib.hid (fun (W:World) (hb:Below w1.heap.size w1 W)=>Blk.c4 (kx.below hb kx.lt))
 have HB1:=Lib.hid (fun (W:World) (hb:Below w1.heap.size w1 W)=>hb1.trans (hb.mono hb1.size))
 have HS1:=Lib.hid hb1.size
 have hm:∀ W:World,(Instr.makeSlice 87 (.int .i64 (n:Int)) (.int .i64 (n:Int))).run Try.prog W = .ok (.slice (some ⟨W.heap.size,0,none⟩) n n) (W.alloc (.cells (madeCells #[.bool false] n) 4)):=fun W=>run_make_row' 87 4 (.bool false) 1 Try.underlying87 bool_info rfl .i64 .i64 n (by omega) (by omega) W
 have hmm:=@run_makeMap Try.prog
 have HW9:=Lib.hid hw9
 clear hx hf hw hn kx hb1 hw9 hfr
 go_enter Try.func92,Try.ntmps92
 go_upto_region 1 with fail
 rw [← HW9.out]
 clear HW9
 go_cut [7] from 8 (fun s7 wx=>∃ pb o lb:Nat,s7 = .pointer (some ⟨pb,0,none⟩)∧Hid (StM w ⟨A,na,ca,M,nm,cm,E,ne,ce,a⟩ u pb o lb n wx 0 [] (fun _=>none) (trL n 0)∧Below w1.heap.size w1 wx∧w1.heap.size ≤ pb∧w1.heap.size ≤ lb∧w1.heap.size ≤ o))
 case first =>
  refine wp_region_U (fun W=>C4 W w.heap.size (.slice A na ca) (.int .i64 (n:Int)) (.slice M nm cm) (.slice E ne ce)) (fun _=>True) 8 (by kernel_rfl) ?_
  change anyU _ _ _ _ _ _ _ 9 _ _ _
  have hB0:True:=trivial
  have HBD:=Lib.hid (below_dr w1)
  generalize w1.drew = wd at HBD ⊢
  have hA0:=HKX.out wd HBD.out
  (refine uA 0 ?_ rfl hA0 hB0 (fun W hA=>?_) ?_;rotate_left;(· (obtain ⟨a0,a1,a2,a3⟩:=hA;go_simp;try with_reducible rfl));(try simp only [Act.put,List.setIfInBounds_toArray,List.set_cons_zero,List.set_cons_succ]))
  (refine uA 1 ?_ rfl hA0 hB0 (fun W hA=>?_) ?_;rotate_left;(· (go_simp;try with_reducible rfl));refine uA 3 ?_ rfl hA0 hB0 (fun W hA=>?_) ?_;rotate_left;(· (go_simp;try with_reducible rfl));(try simp only [Act.put,List.setIfInBounds_toArray,List.set_cons_zero,List.set_cons_succ]))
  (refine uA 4 ?_ rfl hA0 hB0 (fun W hA=>?_) ?_;rotate_left;(· (obtain ⟨a0,a1,a2,a3⟩:=hA;go_simp;try with_reducible rfl));(try simp only [Act.put,List.setIfInBounds_toArray,List.set_cons_zero,List.set_cons_succ]))
  refine anyI_at (I:=fun a0 f L a' W=>∃ (mm s b bx t:Bool) (o lb pb:Nat) (v15 v18 v19 v20 v7:Value),L = #[true,true,mm,true,true,s,b,bx,t]∧f + mm.toNat + s.toNat + b.toNat + bx.toNat + t.toNat = 5∧(b = true → mm = true∧s = true)∧(bx = true → b = true)∧(t = true → bx = true)∧(mm = true → v15 = .map (some o))∧(s = true → v18 = .slice (some ⟨lb,0,none⟩) n n)∧(b = true → v19 = .agg #[.slice A na ca,.int .i64 (n:Int),.slice M nm cm,.slice E ne ce,.slice u.A u.n u.c,.map (some o),.slice (some ⟨lb,0,none⟩) n n])∧(bx = true → v20 = .pointer (some ⟨pb,0,none⟩))∧(t = true → v7 = .pointer (some ⟨pb,0,none⟩))∧a' = put5n a0 15 18 19 20 7 v15 v18 v19 v20 v7∧Hid (Below w1.heap.size w1 W∧(mm = true → TabH Try.prog 3 (Value.int .i64) W o 0 (fun _=>none)∧w1.heap.size ≤ o)∧(s = true → Blk W lb 4 (bvl (trL n 0))∧w1.heap.size ≤ lb)∧(bx = true → Blk W pb 157 (syc ⟨A,na,ca,M,nm,cm,E,ne,ce,a⟩ u o lb n)∧w1.heap.size ≤ pb))) ?_ ?_
  ·exact ⟨false,false,false,false,false,0,0,0,undef,undef,undef,undef,_,rfl,rfl,(by simp),(by simp),(by simp),(by simp),(by simp),(by simp),(by simp),(by simp),rfl,Lib.hid ⟨HBD.out,(by simp),(by simp),(by simp)⟩⟩
  ·clear HBD hA0
   rintro f' L a' W ⟨mm,s,b,bx,t,o,lb,pb,v15,v18,v19,v20,v7,rfl,hf,g1,g2,g3,g4,g5,g6,g7,g8,rfl,HD⟩
   simp only [put5n,List.setIfInBounds_toArray,List.set_cons_succ,List.set_cons_zero]
   refine ⟨⟨HKX.out W HD.out.1,fun _=>trivial⟩,R9s mm s b bx t,?_,?_,?_,?_⟩
   ·clear HD g4 g5 g6 g7 g8 hf
    cases mm <;> cases s <;> cases b <;> cases bx <;> cases t <;> first | (exfalso;revert g1 g2 g3;simp;done) | kernel_rfl
   ·intro hr0
    have:mm = true∧s = true∧b = true∧bx = true∧t = true:=by
     clear HD g4 g5 g6 g7 g8 hf
     revert g1 g2 g3 hr0
     cases mm <;> cases s <;> cases b <;> cases bx <;> cases t <;> simp [R9s]
    obtain ⟨rfl,rfl,rfl,rfl,rfl⟩:=this
    obtain rfl:=g8 rfl
    have HE:=Lib.hid (show StM w ⟨A,na,ca,M,nm,cm,E,ne,ce,a⟩ u pb o lb n W 0 [] (fun _=>none) (trL n 0)∧Below w1.heap.size w1 W∧w1.heap.size ≤ pb∧w1.heap.size ≤ lb∧w1.heap.size ≤ o from by
     obtain ⟨h1,h2,h3,h4⟩:=HD.out
     obtain ⟨h5,h6⟩:=h2 rfl
     obtain ⟨h7,h8⟩:=h3 rfl
     obtain ⟨h9,h10⟩:=h4 rfl
     have hs:=HS1.out
     exact ⟨⟨h9,h7,trL_len (Nat.zero_le _),⟨HB1.out W h1,(HB1.out W h1).size,h5,by omega,fun t=>World.ownsRow_nil _ _ _ _,fun t u h k e=>by cases e⟩,by omega,by omega⟩,h1,h10,h8,h6⟩)
    clear g1 g2 g3 g4 g5 g6 g7 g8 hf hr0 HD
    go_wp2_with fail
    go_meet
    case rel=>exact ⟨pb,o,lb,rfl,HE⟩
   ·intro h0
    have:mm = true∧s = true∧b = true∧bx = true∧t = true:=by
     clear HD g4 g5 g6 g7 g8
     subst h0
     revert g1 g2 g3 hf
     cases mm <;> cases s <;> cases b <;> cases bx <;> cases t <;> simp
    obtain ⟨rfl,rfl,rfl,rfl,rfl⟩:=this
    rfl
   ·rintro i hi g' rfl
    rcases R9s_mem hi with ⟨rfl,rfl⟩ | ⟨rfl,rfl⟩ | ⟨rfl,rfl,rfl,rfl⟩ | ⟨rfl,rfl,rfl⟩ | ⟨rfl,rfl,rfl⟩
    ·obtain rfl:b = false:=by cases b with | false=>rfl | true=>exact absurd (g1 rfl).1 (by simp)
     obtain rfl:bx = false:=by cases bx with | false=>rfl | true=>exact absurd (g2 rfl) (by simp)
     obtain rfl:t = false:=by cases t with | false=>rfl | true=>exact absurd (g3 rfl) (by simp)
     have HT:=Lib.hid (TabH.made W Try.prog 3 (Value.int .i64))
     have HBA:=Lib.hid (box_below W (.map #[] 0))
     refine wpOp_at (i:=2) rfl (fun K hK=>?_)
     go_simp
     exact hK _ _ ⟨true,s,false,false,false,W.heap.size,lb,pb,_,v18,v19,v20,v7,rfl,(by simp only [Bool.toNat_true,Bool.toNat_false] at hf ⊢;omega),(by simp),(by simp),(by simp),(fun _=>rfl),g5,(by simp),(by simp),(by simp),rfl,Lib.hid ⟨HD.out.1.trans (HBA.out.mono HD.out.1.size),fun _=>⟨HT.out,HD.out.1.size⟩,fun h=>⟨((HD.out.2.2.1 h).1).below HBA.out (HD.out.2.2.1 h).1.lt,(HD.out.2.2.1 h).2⟩,by simp⟩⟩
    ·obtain rfl:b = false:=by cases b with | false=>rfl | true=>exact absurd (g1 rfl).2 (by simp)
     obtain rfl:bx = false:=by cases bx with | false=>rfl | true=>exact absurd (g2 rfl) (by simp)
     obtain rfl:t = false:=by cases t with | false=>rfl | true=>exact absurd (g3 rfl) (by simp)
     have HT:=Lib.hid (show Blk (W.alloc (.cells (madeCells #[.bool false] n) 4)) W.heap.size 4 (bvl (trL n 0)) from by rw [show trL n 0 = List.replicate n false from by simp [trL],made_bools];exact Blk.new _ _ _)
     have HBA:=Lib.hid (box_below W (.cells (madeCells #[.bool false] n) 4))
     refine wpOp_at (i:=5) rfl (fun K hK=>?_)
     go_simp
     exact hK _ _ ⟨mm,true,false,false,false,o,W.heap.size,pb,v15,_,v19,v20,v7,rfl,(by simp only [Bool.toNat_true,Bool.toNat_false] at hf ⊢;omega),(by simp),(by simp),(by simp),g4,(fun _=>rfl),(by simp),(by simp),(by simp),rfl,Lib.hid ⟨HD.out.1.trans (HBA.out.mono HD.out.1.size),fun h=>⟨(HD.out.2.1 h).1.below HBA.out,(HD.out.2.1 h).2⟩,fun _=>⟨HT.out,HD.out.1.size⟩,by simp⟩⟩
    ·obtain rfl:bx = false:=by cases bx with | false=>rfl | true=>exact absurd (g2 rfl) (by simp)
     obtain rfl:t = false:=by cases t with | false=>rfl | true=>exact absurd (g3 rfl) (by simp)
     obtain rfl:=g4 rfl
     obtain rfl:=g5 rfl
     refine wpOp_at (i:=6) rfl (fun K hK=>?_)
     go_simp
     exact hK _ _ ⟨true,true,true,false,false,o,lb,pb,_,_,_,v20,v7,rfl,(by simp only [Bool.toNat_true,Bool.toNat_false] at hf ⊢;omega),(fun _=>⟨rfl,rfl⟩),(by simp),(by simp),(fun _=>rfl),(fun _=>rfl),(fun _=>rfl),(by simp),(by simp),rfl,HD⟩
    ·obtain rfl:t = false:=by cases t with | false=>rfl | true=>exact absurd (g3 rfl) (by simp)
     obtain ⟨rfl,rfl⟩:=g1 rfl
     obtain rfl:=g4 rfl
     obtain rfl:=g5 rfl
     obtain rfl:=g6 rfl
     have HT:=Lib.hid (Blk.new W 157 (syc ⟨A,na,ca,M,nm,cm,E,ne,ce,a⟩ u o lb n))
     have HBA:=Lib.hid (box_below W (.cells (syc ⟨A,na,ca,M,nm,cm,E,ne,ce,a⟩ u o lb n).toArray 157))
     refine wpOp_at (i:=7) rfl (fun K hK=>?_)
     go_simp
     exact hK _ _ ⟨true,true,true,true,false,o,lb,W.heap.size,_,_,_,_,v7,rfl,(by simp only [Bool.toNat_true,Bool.toNat_false] at hf ⊢;omega),(fun _=>⟨rfl,rfl⟩),(fun _=>rfl),(by simp),(fun _=>rfl),(fun _=>rfl),(fun _=>rfl),(fun _=>rfl),(by simp),rfl,Lib.hid ⟨HD.out.1.trans (HBA.out.mono HD.out.1.size),fun h=>⟨(HD.out.2.1 h).1.below HBA.out,(HD.out.2.1 h).2⟩,fun h=>⟨((HD.out.2.2.1 h).1).below HBA.out (HD.out.2.2.1 h).1.lt,(HD.out.2.2.1 h).2⟩,fun _=>⟨HT.out,HD.out.1.size⟩⟩⟩
    ·obtain rfl:=g2 rfl
     obtain ⟨rfl,rfl⟩:=g1 rfl
     obtain rfl:=g4 rfl
     obtain rfl:=g5 rfl
     obtain rfl:=g6 rfl
     obtain rfl:=g7 rfl
     refine wpOp_at (i:=8) rfl (fun K hK=>?_)
     go_simp
     exact hK _ _ ⟨true,true,true,true,true,o,lb,pb,_,_,_,_,_,rfl,(by simp only [Bool.toNat_true,Bool.toNat_false] at hf ⊢;omega),(fun _=>⟨rfl,rfl⟩),(fun _=>rfl),(fun _=>rfl),(fun _=>rfl),(fun _=>rfl),(fun _=>rfl),(fun _=>rfl),(fun _=>rfl),rfl,HD⟩
 case rest =>
 obtain ⟨pb,o,lb,rfl,HC⟩:=hcut
 obtain ⟨w2,rfl⟩:∃ q,q = wc:=⟨_,rfl⟩
 have HLO:=Lib.hid HC.out.2.2
 have HM0:=Lib.hid (show StM w ⟨A,na,ca,M,nm,cm,E,ne,ce,a⟩ u pb o lb n w2 0 [] (fun _=>none) (trL n 0)∧Below w1.heap.size w1 w2 from ⟨HC.out.1,HC.out.2.1⟩)
 clear HC hm hmm
 have c6:=HM0.out.1.kp.cell (j:=6) rfl
 go_wp2
 clear c6
 go_loopw [8,26] (fun s8 s26 wr=>∃ (k:Nat) (v8:Value),s8 = v8∧s26 = .int .i64 k∧k ≤ n∧Hid (StM w ⟨A,na,ca,M,nm,cm,E,ne,ce,a⟩ u pb o lb n wr 0 [] (fun _=>none) (trL n k)∧Below w1.heap.size w1 wr)) (fun _ s26 _=>n - (intOf s26).toNat)
 case atStart=>exact ⟨0,_,rfl,rfl,Nat.zero_le _,HM0⟩
 case round =>
  clear HM0
  obtain ⟨k,v8,rfl,rfl,hk,HM⟩:=hrel
  obtain ⟨wa,rfl⟩:∃ q,q = wr:=⟨_,rfl⟩
  by_cases hlt:k < n
  case pos =>
   have b1:(k:Int) < (n:Int):=by omega
   have c6:=HM.out.1.kp.cell (j:=6) rfl
   obtain ⟨q,hq⟩:∃ q,(bvl (trL n k))[k]? = some q:=⟨_,List.getElem?_eq_getElem (by rw [bvl_length,trL_len hk];exact hlt)⟩
   have g1:=HM.out.1.kl.cell hq
   have g2:=HM.out.1.kl.free k
   have g3:=HM.out.1.kl.lt
   have HM2:=Lib.hid (show StM w ⟨A,na,ca,M,nm,cm,E,ne,ce,a⟩ u pb o lb n (wa.setCell ⟨lb,k,none⟩ (.bool true)) 0 [] (fun _=>none) (trL n (k + 1))∧Below w1.heap.size w1 (wa.setCell ⟨lb,k,none⟩ (.bool true)) from ⟨by rw [← trL_set hlt];exact HM.out.1.set hlt true,HM.out.2.setCell (p:=⟨lb,k,none⟩) HLO.out.2.1 _⟩)
   clear hq
   go_wp2
   go_roundw
   case rel=>exact ⟨k + 1,_,rfl,by go_num,by omega,HM2⟩
   case measure=>simp [intOf];omega
  obtain rfl:k = n:=by omega
  have b1:¬ (k:Int) < (k:Int):=by omega
  have HMB:=Lib.hid (show StM w ⟨A,na,ca,M,nm,cm,E,ne,ce,a⟩ u pb o lb k wa 0 [] (fun _=>none) (clrL (List.replicate k true) (fl'.take 0))∧Below w1.heap.size w1 wa from ⟨by have h:=HM.out.1;rw [show trL k k = List.replicate k true from by simp [trL]] at h;exact h,HM.out.2⟩)
  clear HM
  go_wp2
  go_loopw [10,38] (fun s10 s38 wr=>∃ (j:Nat) (v10:Value),s10 = v10∧s38 = .int .i64 j∧j ≤ fn∧Hid (StM w ⟨A,na,ca,M,nm,cm,E,ne,ce,a⟩ u pb o lb k wr 0 [] (fun _=>none) (clrL (List.replicate k true) (fl'.take j))∧Below w1.heap.size w1 wr)) (fun _ s38 _=>fn - (intOf s38).toNat)
  case atStart=>exact ⟨0,_,rfl,rfl,Nat.zero_le _,HMB⟩
  case round =>
   clear HMB
   obtain ⟨j,v10,rfl,rfl,hj,HM⟩:=hrel
   obtain ⟨wb,rfl⟩:∃ q,q = wr:=⟨_,rfl⟩
   by_cases hlt:j < fn
   case pos =>
    have b2:(j:Int) < (fn:Int):=by omega
    obtain ⟨fd,s,rfl,hab,hs,hcs⟩:=(HFR.out wb HM.out.1.into.bel).at_ (k:=j) (by rw [HFL.out];exact hlt)
    obtain ⟨s0,s1⟩:=HFB.out s (List.mem_of_getElem? hs)
    have t1:¬ s < 0:=by omega
    have hsn:s.toNat < k:=by omega
    have c6:=HM.out.1.kp.cell (j:=6) rfl
    obtain ⟨q,hq⟩:∃ q,(bvl (clrL (List.replicate k true) (fl'.take j)))[s.toNat]? = some q:=⟨_,List.getElem?_eq_getElem (by rw [bvl_length,clrL_len,List.length_replicate];exact hsn)⟩
    have g1:=HM.out.1.kl.cell hq
    have g2:=HM.out.1.kl.free s.toNat
    have g3:=HM.out.1.kl.lt
    have HM2:=Lib.hid (show StM w ⟨A,na,ca,M,nm,cm,E,ne,ce,a⟩ u pb o lb k (wb.setCell ⟨lb,s.toNat,none⟩ (.bool false)) 0 [] (fun _=>none) (clrL (List.replicate k true) (fl'.take (j + 1)))∧Below w1.heap.size w1 (wb.setCell ⟨lb,s.toNat,none⟩ (.bool false)) from ⟨by rw [clrL_snoc hs];exact HM.out.1.set hsn false,HM.out.2.setCell (p:=⟨lb,s.toNat,none⟩) HLO.out.2.1 _⟩)
    clear hq hs hab
    go_wp2
    go_roundw
    case rel=>exact ⟨j + 1,_,rfl,by go_num,by omega,HM2⟩
    case measure=>simp [intOf];omega
   obtain rfl:j = fn:=by omega
   have b2:¬ (j:Int) < (j:Int):=by omega
   obtain ⟨NN,hNN⟩:∃ N,clrL (List.replicate k true) fl' = N:=⟨_,rfl⟩
   have HMC:=Lib.hid (show StM w ⟨A,na,ca,M,nm,cm,E,ne,ce,a⟩ u pb o lb k wb 0 (a.ed.take 0) (fun _=>none) NN from by have h:=HM.out.1;rw [List.take_of_length_le (by rw [HFL.out];exact Nat.le_refl _),hNN] at h;exact h)
   have HNE:=Lib.hid hNN
   obtain ⟨a0,a1,a2,a3⟩:=HKX.out wb HM.out.2
   clear HM hNN
   go_wp2
   clear a0 a1 a2 a3
   go_loopw [12,52] (fun s12 s52 wr=>∃ (i:Nat) (v12:Value) (g:Int → Option Hd),s12 = v12∧s52 = .int .i64 i∧i ≤ ne∧Hid (StM w ⟨A,na,ca,M,nm,cm,E,ne,ce,a⟩ u pb o lb k wr i (a.ed.take i) g NN)) (fun _ s52 _=>ne - (intOf s52).toNat)
   case atStart=>exact ⟨0,_,_,rfl,rfl,Nat.zero_le _,HMC⟩
   case round =>
    clear HMC
    obtain ⟨i,v12,g,rfl,rfl,hi,HM⟩:=hrel
    obtain ⟨wd,rfl⟩:∃ q,q = wr:=⟨_,rfl⟩
    by_cases hlt:i < ne
    case neg =>
     obtain rfl:i = ne:=by omega
     have b3:¬ (i:Int) < (i:Int):=by omega
     have HME:=Lib.hid (show StM w _ u pb o lb k wd i a.ed g NN from by
      have h:=HM.out
      rw [List.take_of_length_le (by rw [HLE.out];exact Nat.le_refl _)] at h
      exact h)
     go_wp2
     go_ret
     exact ⟨pb,o,lb,i,g,rfl,by rw [HNE.out];exact HME.out⟩
    obtain ⟨ad,y,rfl,hab,hy,g0,g1,g2⟩:=(HRE.out wd HM.out.into.bel).at_ (k:=i) (by rw [HLE.out];exact hlt)
    have r1:wd.cell? ⟨(ad.add (i * 3)).block,(ad.add (i * 3)).off + 1,none⟩ = some (.int .i64 y.e):=st_cells (j:=0) g1
    have r2:wd.cell? ⟨(ad.add (i * 3)).block,(ad.add (i * 3)).off + 2,none⟩ = some (.int .i64 y.t):=st_cells (j:=1) g2
    have b3:(i:Int) < (ne:Int):=by omega
    have hyr:=HER.out y (List.mem_of_getElem? hy)
    have HTK:=Lib.hid (take_snoc' hy)
    have HKW:=Lib.hid (intKey y.t (WalkArith.wf_i64 (by omega)))
    have hbx:=box_below wd (.cells #[.int .i64 y.f,.int .i64 y.e,.int .i64 y.t] 67)
    have ke:Blk (wd.alloc (.cells #[.int .i64 y.f,.int .i64 y.e,.int .i64 y.t] 67)) wd.heap.size 67 [.int .i64 y.f,.int .i64 y.e,.int .i64 y.t]:=Blk.new _ _ [_,_,_]
    have HM5:=Lib.hid (show StM w _ u pb o lb k _ i (a.ed.take i) g NN from HM.out.quiet hbx)
    have hlo:o ≠ wd.heap.size:=by have:=HM.out.into.tab.lt;omega
    have HLO2:=Lib.hid hlo
    have HNB:=Lib.hid (fun (gq:Nat) (e:(hvl (g y.t)).ownBlock = some gq)=>((HM.out.into.row y.t).lt gq e).2)
    have hpl:(preL (a.ed.take i) y.t).length ≤ 1000000:=Nat.le_trans (List.length_filter_le _ _) (by rw [List.length_take];omega)
    clear hy hab hyr hbx HM hlo
    go_upto_region 15 with fail
    clear g0 g1 g2 r1 r2
    generalize wd.heap.size = bx at ke HLO2 HNB ⊢
    generalize wd.alloc (.cells #[.int .i64 y.f,.int .i64 y.e,.int .i64 y.t] 67) = w5 at ke HM5 ⊢
    refine wp_region_U (fun W=>W.cell? ⟨pb,5,none⟩ = some (.map (some o))∧W.cell? ⟨bx,0,none⟩ = some (.int .i64 y.f)∧W.cell? ⟨bx,1,none⟩ = some (.int .i64 y.e)∧W.cell? ⟨bx,2,none⟩ = some (.int .i64 y.t)) (fun W=>TabH Try.prog 3 (Value.int .i64) W o i g) 17 (by kernel_rfl) ?_
    change anyU _ _ _ _ _ _ _ 18 _ _ _
    have HM6:=Lib.hid (show StM w _ u pb o lb k w5.drew i (a.ed.take i) g NN from HM5.out.quiet (below_dr w5))
    have k6:=ke.below (below_dr w5) ke.lt
    clear ke HM5
    generalize w5.drew = wf at HM6 k6 ⊢
    have hA0:wf.cell? ⟨pb,5,none⟩ = some (.map (some o))∧wf.cell? ⟨bx,0,none⟩ = some (.int .i64 y.f)∧wf.cell? ⟨bx,1,none⟩ = some (.int .i64 y.e)∧wf.cell? ⟨bx,2,none⟩ = some (.int .i64 y.t):=⟨HM6.out.kp.cell (j:=5) rfl,k6.cell (j:=0) rfl,k6.cell (j:=1) rfl,k6.cell (j:=2) rfl⟩
    have hB0:=HM6.out.into.tab
    have HLK:=Lib.hid (fun (W:World) (h:TabH Try.prog 3 (Value.int .i64) W o i g)=>h.look (t:=155) intLaw Try.underlying155 (zeroIts W) y.t HKW.out)
    (refine uA 0 ?_ rfl hA0 hB0 (fun W hA=>?_) ?_;rotate_left;(· (go_simp;try with_reducible rfl));refine uA 1 ?_ rfl hA0 hB0 (fun W hA=>?_) ?_;rotate_left;(· (go_simp;try with_reducible rfl));refine uA 2 ?_ rfl hA0 hB0 (fun W hA=>?_) ?_;rotate_left;(· (go_simp;try with_reducible rfl));(try simp only [Act.put,List.setIfInBounds_toArray,List.set_cons_zero,List.set_cons_succ]))
    (refine uA 3 ?_ rfl hA0 hB0 (fun W hA=>?_) ?_;rotate_left;(· (obtain ⟨a9,a0,a1,a2⟩:=hA;go_simp;try with_reducible rfl));(try simp only [Act.put,List.setIfInBounds_toArray,List.set_cons_zero,List.set_cons_succ]))
    (refine uA 4 ?_ rfl hA0 hB0 (fun W hA=>?_) ?_;rotate_left;(· (go_simp;try with_reducible rfl));(try simp only [Act.put,List.setIfInBounds_toArray,List.set_cons_zero,List.set_cons_succ]))
    (refine uA 5 ?_ rfl hA0 hB0 (fun W hA=>?_) ?_;rotate_left;(· (obtain ⟨a9,a0,a1,a2⟩:=hA;go_simp;try with_reducible rfl));(try simp only [Act.put,List.setIfInBounds_toArray,List.set_cons_zero,List.set_cons_succ]))
    (refine uA 6 ?_ rfl hA0 hB0 (fun W hA=>?_) ?_;rotate_left;(· (go_simp;try with_reducible rfl));refine uA 7 ?_ rfl hA0 hB0 (fun W hA=>?_) ?_;rotate_left;(· (go_simp;try with_reducible rfl));refine uA 8 ?_ rfl hA0 hB0 (fun W hA=>?_) ?_;rotate_left;(· (go_simp;try with_reducible rfl));(try simp only [Act.put,List.setIfInBounds_toArray,List.set_cons_zero,List.set_cons_succ]))
    (refine uA 9 ?_ rfl hA0 hB0 (fun W hA=>?_) ?_;rotate_left;(· (obtain ⟨a9,a0,a1,a2⟩:=hA;go_simp;try with_reducible rfl));(try simp only [Act.put,List.setIfInBounds_toArray,List.set_cons_zero,List.set_cons_succ]))
    (refine uA 10 ?_ rfl hA0 hB0 (fun W hA=>?_) ?_;rotate_left;(· (go_simp;try with_reducible rfl));(try simp only [Act.put,List.setIfInBounds_toArray,List.set_cons_zero,List.set_cons_succ]))
    (refine uA 11 ?_ rfl hA0 hB0 (fun W hA=>?_) ?_;rotate_left;(· (obtain ⟨a9,a0,a1,a2⟩:=hA;go_simp;try with_reducible rfl));(try simp only [Act.put,List.setIfInBounds_toArray,List.set_cons_zero,List.set_cons_succ]))
    (refine uB 12 ?_ rfl hA0 hB0 (fun W hA hB=>?_) ?_;rotate_left;(· (have hlk:=HLK.out W hB;go_simp;try with_reducible rfl));(try simp only [Act.put,List.setIfInBounds_toArray,List.set_cons_zero,List.set_cons_succ]))
    (refine uA 13 ?_ rfl hA0 hB0 (fun W hA=>?_) ?_;rotate_left;(· (go_simp;try with_reducible rfl));(try simp only [Act.put,List.setIfInBounds_toArray,List.set_cons_zero,List.set_cons_succ]))
    (refine uA 14 ?_ rfl hA0 hB0 (fun W hA=>?_) ?_;rotate_left;(· (obtain ⟨a9,a0,a1,a2⟩:=hA;go_simp;try with_reducible rfl));(try simp only [Act.put,List.setIfInBounds_toArray,List.set_cons_zero,List.set_cons_succ]))
    refine uOne (i:=15) rfl (by kernel_rfl) (fun K hK=>?_)
    go_simp
    have hbx7:=box_below wf (.cells #[.int .i64 y.f] 3)
    have HM7:=Lib.hid (show StM w _ u pb o lb k _ i (a.ed.take i) g NN from HM6.out.quiet hbx7)
    have k7:=k6.below hbx7 k6.lt
    have kn:Blk (wf.alloc (.cells #[.int .i64 y.f] 3)) wf.heap.size 3 [.int .i64 y.f]:=Blk.new _ _ [_]
    clear hbx7 k6 HM6 hA0 hB0
    generalize wf.heap.size = qb at kn ⊢
    generalize wf.alloc (.cells #[.int .i64 y.f] 3) = w7 at HM7 k7 kn ⊢
    have hA0:w7.cell? ⟨pb,5,none⟩ = some (.map (some o))∧w7.cell? ⟨bx,0,none⟩ = some (.int .i64 y.f)∧w7.cell? ⟨bx,1,none⟩ = some (.int .i64 y.e)∧w7.cell? ⟨bx,2,none⟩ = some (.int .i64 y.t):=⟨HM7.out.kp.cell (j:=5) rfl,k7.cell (j:=0) rfl,k7.cell (j:=1) rfl,k7.cell (j:=2) rfl⟩
    have hB0:=HM7.out.into.tab
    (refine hK _ _ ⟨hA0,fun _=>hB0⟩ ?_;clear hK K;(try simp only [Act.put,List.setIfInBounds_toArray,List.set_cons_zero,List.set_cons_succ]))
    refine uOne (i:=16) rfl (by kernel_rfl) (fun K hK=>?_)
    obtain ⟨i0,hi0,hz0,hz1,hz2⟩:=info_parts int_info
    refine step_append_lies w7 rfl (.tmp 68) (.tmp 71) 29 rfl w.heap.size 3 i0 (.int .i64 0) 1 8 Try.underlying29 hi0 hz0 hz1 hz2 rfl (by decide) (hvl (g y.t)) _ _ rfl (HM7.out.into.row y.t) ⟨qb,0,none⟩ 1 1 [.int .i64 y.f] rfl rfl (fun j u hu=>by rw [add_lit0];exact kn.cell hu) (fun u hu=>by simp at hu;subst hu;rfl) (by decide) (by unfold maxLen;omega) (by omega) HM7.out.into.siz _ rfl ?_
    intro gb c8 w8 ho8 hg8 hgb8 _
    have ht8:=HM7.out.into.tab.kept hg8 (HM7.out.into.tab.ne (HM7.out.into.row y.t))
    have kp8:=HM7.out.kp.kept hg8 (blk_ne_own (HM7.out.into.row y.t) HM7.out.kp (by decide))
    have k8:=k7.kept hg8 (fun e=>absurd (HNB.out bx e.symm) (Nat.lt_irrefl _))
    obtain ⟨w9,hput,ht9,hg9⟩:=ht8.put (t:=155) intLaw Try.underlying155 (by omega) y.t HKW.out (gb,(preL (a.ed.take i) y.t).length + 1,c8) (fun v=>if v = y.t then some (gb,(preL (a.ed.take i) y.t).length + 1,c8) else g v)
     (fun d hd=>if_pos (by injection hd)) (fun d hd=>if_neg (fun e=>hd (by rw [e])))
    have hput':(Instr.mapUpdate 155 (.map (some o)) (.int .i64 y.t) (.slice (some ⟨gb,0,none⟩) ((preL (a.ed.take i) y.t).length + 1) c8)).run Try.prog w8 = .ok () w9:=hput
    have HM9:=Lib.hid (show StM w _ u pb o lb k w9 (i + 1) (a.ed.take (i + 1)) (fun v=>if v = y.t then some (gb,(preL (a.ed.take i) y.t).length + 1,c8) else g v) NN from by
     rw [HTK.out]
     exact HM7.out.edge ho8 hg8 (hgb8.imp id (fun e=>by omega)) ht9 hg9)
    have k9:=k8.kept hg9 (fun e=>HLO2.out (by injection e with e;exact e.symm))
    have kp9:=kp8.kept hg9 (fun e=>by injection e with e;exact ht8.neB kp8 e.symm)
    clear hA0 hB0
    have hA0:w8.cell? ⟨pb,5,none⟩ = some (.map (some o))∧w8.cell? ⟨bx,0,none⟩ = some (.int .i64 y.f)∧w8.cell? ⟨bx,1,none⟩ = some (.int .i64 y.e)∧w8.cell? ⟨bx,2,none⟩ = some (.int .i64 y.t):=⟨kp8.cell (j:=5) rfl,k8.cell (j:=0) rfl,k8.cell (j:=1) rfl,k8.cell (j:=2) rfl⟩
    have hA9:w9.cell? ⟨pb,5,none⟩ = some (.map (some o))∧w9.cell? ⟨bx,0,none⟩ = some (.int .i64 y.f)∧w9.cell? ⟨bx,1,none⟩ = some (.int .i64 y.e)∧w9.cell? ⟨bx,2,none⟩ = some (.int .i64 y.t):=⟨kp9.cell (j:=5) rfl,k9.cell (j:=0) rfl,k9.cell (j:=1) rfl,k9.cell (j:=2) rfl⟩
    have hB0:=ht8
    clear ho8 hg8 hgb8 ht9 hg9 hput k7 kn HM7
    (refine hK _ _ ⟨hA0,fun _=>hB0⟩ ?_;clear hK K;(try simp only [Act.put,List.setIfInBounds_toArray,List.set_cons_zero,List.set_cons_succ]))
    refine uOne (i:=17) rfl (by kernel_rfl) (fun K hK=>?_)
    go_simp
    (refine hK _ _ ⟨hA9,fun h=>absurd (h.symm.trans (by kernel_rfl:_ = true)) Bool.false_ne_true⟩ ?_;clear hK K;(try simp only [Act.put,List.setIfInBounds_toArray,List.set_cons_zero,List.set_cons_succ]))
    refine anyU_done (by kernel_rfl) ?_ _
    clear hA0 hA9 hB0 ht8 hput' k8 k9 kp8 kp9
    go_wp2
    go_roundw
    case rel=>exact ⟨i + 1,_,_,rfl,by go_num,by omega,HM9⟩
    case measure=>simp [intOf];omega
end Go.Proofs.Ytdnmpndnpfklcaa
