/- The law's Make of chapter 4. -/
import Derived.Test.YtdnmpndnpfklcaaXz
import Derived.Test.YtdnmpndnpfklcaaUc
import Derived.Test.YtdnmpndnpfklcaaIu
namespace Go.Proofs.Ytdnmpndnpfklcaa
open Go.RowKit Go Go.Maps
def smc (g:Sm4):List Value:=.int .u8 g.st :: .int .u8 g.mb :: g.tg.map (Value.int .u8)
theorem smc_at {g:Sm4} (h:g.ok) {i k:Nat} (hi:i < 6) (hk:k < 4):(smc g)[2 + i * 4 + k]? = some (.int .u8 (g.tg.getD (i * 4 + k) 0))∧0 ≤ g.tg.getD (i * 4 + k) 0∧g.tg.getD (i * 4 + k) 0 ≤ 255:=by
 have hl:i * 4 + k < g.tg.length:=by rw [h.len];omega
 have e:g.tg[i * 4 + k]? = some (g.tg.getD (i * 4 + k) 0):=by
  rw [List.getD_eq_getElem?_getD,List.getElem?_eq_getElem hl];rfl
 refine ⟨?_,h.tg _ (List.mem_of_getElem? e)⟩
 unfold smc
 rw [show 2 + i * 4 + k = (i * 4 + k) + 1 + 1 by omega,List.getElem?_cons_succ,List.getElem?_cons_succ,List.getElem?_map,e]
 rfl
theorem aut_size:(Try.prog.info? 32).map (·.size) = some 4:=by kernel_rfl
theorem own_of_blk {w:World} {b base:Nat} {l:List Int} {n:Nat} (h:Blk w b 3 (iv l)) (hl:l.length = n) (hn:n ≤ 1000000) (hb:base ≤ b):w.ownsRow base 3 1 (.slice (some ⟨b,0,none⟩) n n) n (iv l) :=
 ⟨by rw [iv_length,hl];omega,.inr ⟨b,n,(iv l).toArray,rfl,hb,h,Nat.le_refl _,by unfold maxLen;omega,by simp [iv_length,hl],by rw [List.take_of_length_le (by simp [iv_length,hl])]⟩⟩
set_option maxRecDepth 100000 in
set_option maxHeartbeats 3200000 in
theorem law_Make4 (g:Sm4) (w:World) (hg:g.ok) :
  Calls Try.prog 30 #[.agg (smc g).toArray] w fun e w'=>∃ x:AV,e = .returned (.agg #[.slice x.A x.na x.ca,.int .i64 x.a.st,.slice x.M x.nm x.cm,.slice x.E x.ne x.ce])∧AutO w' w.heap.size x.A x.na x.ca x.M x.nm x.cm x.E x.ne x.ce x.a∧x.a = aut4 g∧Below w.heap.size w w':=by
 have hb1:=box_below w (.cells (smc g).toArray 25)
 have kx:=Blk.new w 25 (smc g)
 obtain ⟨w1,hw1⟩:∃ w1,w1 = w.alloc (.cells (smc g).toArray 25):=⟨_,rfl⟩
 rw [← hw1] at hb1 kx
 have hb2:=box_below w1 (.cells #[.slice none 0 0,.int .i64 0,.slice none 0 0,.slice none 0 0] 32)
 have kr:Blk (w1.alloc (.cells #[.slice none 0 0,.int .i64 0,.slice none 0 0,.slice none 0 0] 32)) w1.heap.size 32 [.slice none 0 0,.int .i64 0,.slice none 0 0,.slice none 0 0]:=Blk.new _ _ [_,_,_,_]
 have hs1:w1.heap.size = w.heap.size + 1:=by rw [hw1];simp
 rw [hs1] at kr
 obtain ⟨w2,hw2⟩:∃ w2,w2 = w1.alloc (.cells #[.slice none 0 0,.int .i64 0,.slice none 0 0,.slice none 0 0] 32):=⟨_,rfl⟩
 have hs2:w2.heap.size = w.heap.size + 1 + 1:=by rw [hw2];simp [hs1]
 rw [← hw2] at hb2 kr
 have hb3:=box_below w2 (.cells #[.int .i64 0,.int .i64 1,.int .i64 2,.int .i64 3] 3)
 have ka:Blk (w2.alloc (.cells #[.int .i64 0,.int .i64 1,.int .i64 2,.int .i64 3] 3)) w2.heap.size 3 (iv [0,1,2,3]):=Blk.new _ _ [_,_,_,_]
 obtain ⟨w3,hw3⟩:∃ w3,w3 = w2.alloc (.cells #[.int .i64 0,.int .i64 1,.int .i64 2,.int .i64 3] 3):=⟨_,rfl⟩
 rw [← hw3] at hb3 ka
 have hb12:=hb1.trans (hb2.mono hb1.size)
 have hb123:=hb12.trans (hb3.mono hb12.size)
 have kx3:=(kx.below hb2 kx.lt).below hb3 (kx.below hb2 kx.lt).lt
 have HKX:=Lib.hid (fun (W:World) (hb:Below w3.heap.size w3 W)=>kx3.below hb kx3.lt)
 have kr3:=kr.below hb3 kr.lt
 have HKR:=Lib.hid (fun (W:World) (hb:Below w3.heap.size w3 W)=>kr3.below hb kr3.lt)
 have HKA:=Lib.hid (fun (W:World) (hb:Below w3.heap.size w3 W)=>ka.below hb ka.lt)
 have HB3:=Lib.hid hb123
 have HW2:=Lib.hid (show (w.alloc (.cells (smc g).toArray 25)).alloc (.cells #[.slice none 0 0,.int .i64 0,.slice none 0 0,.slice none 0 0] 32) = w2 by rw [hw2,hw1])
 have HW3:=Lib.hid (show w2.alloc (.cells #[.int .i64 0,.int .i64 1,.int .i64 2,.int .i64 3] 3) = w3 from hw3.symm)
 have HS2:=Lib.hid hs2
 have HS3:=Lib.hid (show w3.heap.size = w2.heap.size + 1 by rw [hw3];simp)
 have HG:=Lib.hid hg
 obtain ⟨n,hn⟩:∃ n,g.n = n:=⟨_,rfl⟩
 have hn6:=g.n_le
 rw [hn] at hn6
 have s0:=hg.st.1
 have hng:1 + g.st % 6 = (n:Int):=by rw [← hn];unfold Sm4.n;omega
 have mb0:=hg.mb.1
 have mb1:=hg.mb.2
 have st1:=hg.st.2
 have HN:=Lib.hid hn
 have c0:(w2.alloc (.cells #[.int .i64 0,.int .i64 1,.int .i64 2,.int .i64 3] 3)).cell? ⟨w.heap.size,0,none⟩ = some (.int .u8 g.st):=by rw [← hw3];exact kx3.cell (j:=0) rfl
 clear hb1 kx hw1 hb2 kr hw2 hb3 ka hw3 hb12 hb123 kx3 kr3 hs1 hs2 hg hn
 obtain ⟨n1,n6⟩:=hn6
 go_enter Try.func30,Try.ntmps30
 go_upto_region 1 with fail
 rw [HW2.out]
 go_upto_region 2 with fail
 clear c0
 rw [HW3.out,← HS3.out]
 have HS:=Lib.hid (show Bld w3 (w3.alloc (.cells #[.slice (some ⟨w2.heap.size,0,none⟩) 4 4,.int .i64 (n:Int),.slice none 0 0,.slice none 0 0] 32)) (.slice (some ⟨w2.heap.size,0,none⟩) 4 4) (.int .i64 (n:Int)) (.slice none 0 0) (.slice none 0 0) 0 0 (setB g.mb 0) (eds4 g 0) from Bld.start _ _ _)
 go_wp2
 go_loopw [4,5,6] (fun s4 s5 s6 wr=>∃ (i km ke:Nat) (mv ev v5 v6:Value),s4 = .int .i64 i∧s5 = v5∧s6 = v6∧i ≤ n∧km ≤ i∧ke ≤ i * 4∧Hid (Bld w3 wr (.slice (some ⟨w2.heap.size,0,none⟩) 4 4) (.int .i64 (n:Int)) mv ev km ke (setB g.mb i) (eds4 g i))) (fun s4 _ _ _=>n - (intOf s4).toNat)
 case atStart=>exact ⟨0,0,0,_,_,_,_,rfl,rfl,rfl,Nat.zero_le _,by omega,by omega,HS⟩
 case round =>
  clear HS
  obtain ⟨i,km,ke,mv,ev,v5,v6,rfl,rfl,rfl,hin,hkm,hke,HS⟩:=hrel
  obtain ⟨MA,mc,rfl⟩:=own_shape HS.out.mrk
  have o1:wr.cell? ⟨w3.heap.size,1,none⟩ = some (.int .i64 (n:Int)):=HS.out.blk.cell (j:=1) rfl
  by_cases hlt:i < n
  case neg =>
   obtain rfl:i = n:=by omega
   have b1:¬ (i:Int) < (i:Int):=by omega
   obtain ⟨EA,ec,rfl⟩:=own_shape HS.out.edg
   have kr:=HKR.out wr HS.out.bel
   obtain ⟨p1,p2⟩:=kr.sets [.slice (some ⟨w2.heap.size,0,none⟩) 4 4,.int .i64 (i:Int),.slice MA km mc,.slice EA ke ec] (o:=0) (by simp)
   have p3:=kr.there (o:=0) (n:=4) (by simp)
   have o0:wr.cell? ⟨w3.heap.size,0,none⟩ = some (.slice (some ⟨w2.heap.size,0,none⟩) 4 4):=HS.out.blk.cell (j:=0) rfl
   have o2:wr.cell? ⟨w3.heap.size,2,none⟩ = some (.slice MA km mc):=HS.out.blk.cell (j:=2) rfl
   have o3:wr.cell? ⟨w3.heap.size,3,none⟩ = some (.slice EA ke ec):=HS.out.blk.cell (j:=3) rfl
   have hO:=HS.out.fin (st:=(i:Int)) (al:=[0,1,2,3]) rfl (own_of_blk (base:=w.heap.size + 2) (HKA.out w3 (Below.refl _ _)) rfl (by omega) (by have:=HS2.out;omega)) (by have:=HS2.out;have:=HS3.out;omega)
   have HOK:=Lib.hid ((hO.low p2 (Nat.lt_succ_self _)).down (b0:=w.heap.size) (by omega))
   have HP1:=Lib.hid (show Blk (wr.setCells (w.heap.size + 1) 0 [.slice (some ⟨w2.heap.size,0,none⟩) 4 4,.int .i64 (i:Int),.slice MA km mc,.slice EA ke ec]) (w.heap.size + 1) 32 [.slice (some ⟨w2.heap.size,0,none⟩) 4 4,.int .i64 (i:Int),.slice MA km mc,.slice EA ke ec] from p1)
   have HTH:=Lib.hid p3
   have HBF:=Lib.hid ((HB3.out.trans (HS.out.bel.mono HB3.out.size)).grown p2 (HB3.out.trans (HS.out.bel.mono HB3.out.size)).size (fun j e=>by injection e with e;subst e;omega))
   have HAE:=Lib.hid (show aut4 g = ⟨[0,1,2,3],(i:Int),setB g.mb i,eds4 g i⟩ by unfold aut4;rw [HN.out])
   clear p1 p2 p3 kr hO
   go_wp2_with (first | (refine wpList_store_mid rfl 32 (.tmp 2) (.tmp 62) rfl (w.heap.size + 1) 0 #[.slice (some ⟨w2.heap.size,0,none⟩) 4 4,.int .i64 (i:Int),.slice MA km mc,.slice EA ke ec] rfl rfl HTH.out aut_size (all_oneCell_toArray (fun u hu=>by simp at hu;rcases hu with rfl | rfl | rfl | rfl <;> rfl)) ?_;generalize wr.setCells (w.heap.size + 1) 0 [.slice (some ⟨w2.heap.size,0,none⟩) 4 4,.int .i64 (i:Int),.slice MA km mc,.slice EA ke ec] = w9 at HP1 HBF HOK ⊢) | fail)
   have z0:=HP1.out.cell (j:=0) rfl
   have z1:=HP1.out.cell (j:=1) rfl
   have z2:=HP1.out.cell (j:=2) rfl
   have z3:=HP1.out.cell (j:=3) rfl
   refine bodyPost_ret (v:=.agg #[.slice (some ⟨w2.heap.size,0,none⟩) 4 4,.int .i64 (i:Int),.slice MA km mc,.slice EA ke ec]) (by simp [results,Try.results30,go_sem,z0,z1,z2,z3]) rfl ?_
   exact ⟨⟨some ⟨w2.heap.size,0,none⟩,4,4,MA,km,mc,EA,ke,ec,⟨[0,1,2,3],(i:Int),setB g.mb i,eds4 g i⟩⟩,rfl,HOK.out,HAE.out.symm,HBF.out⟩
  have b1:(i:Int) < (n:Int):=by omega
  have c1:wr.cell? ⟨w.heap.size,1,none⟩ = some (.int .u8 g.mb):=(HKX.out wr HS.out.bel).cell (j:=1) rfl
  cases hq:bitB g.mb i with
  | true =>
   have hb2:(bits BinOp.and IntKind.u8 (g.mb / 2 ^ i) 1 == 1) = true:=bit_u8 hq mb0 mb1
   have HMK2:=Lib.hid (show setB g.mb i ++ [(i:Int)] = setB g.mb (i + 1) by rw [setB_yes hq])
   have g2:wr.cell? ⟨w3.heap.size,2,none⟩ = some (.slice MA km mc):=HS.out.blk.cell (j:=2) rfl
   have hbs:w3.heap.size + 1 ≤ wr.heap.size:=HS.out.lt
   clear hq
   go_wp2_with (first | (at_builtin;refine wpList_pushA wr [.int .i64 (i:Int)] rfl (.tmp 27) (.tmp 29) 29 rfl (w3.heap.size + 1) 3 (.int .i64 0) 1 8 Try.underlying29 int_info rfl (by decide) rfl (.slice MA km mc) km _ rfl HS.out.mrk rfl (fun u hu=>by simp at hu;subst hu;rfl) (by omega) (by omega) hbs ?_;intro MA2 mc2 w8 ho8 hg8 hl8;have B8:=HS.out.blk.kept hg8 (own_lt_ne HS.out.mrk (Nat.lt_succ_self _));have e8:w8.cell? ⟨w3.heap.size,2,none⟩ = some (.slice MA km mc):=B8.cell (j:=2) rfl;have f8:w8.frozen? ⟨w3.heap.size,2,none⟩ = false:=B8.free 2;have l8:w3.heap.size < w8.heap.size:=B8.lt;have HS8:=Lib.hid (HS.out.mark (i:=(i:Int)) ho8 hg8);clear B8 ho8 hg8 hl8 g2 hbs o1 c1) | fail)
   have HS9:=Lib.hid (show Bld w3 _ (.slice (some ⟨w2.heap.size,0,none⟩) 4 4) (.int .i64 (n:Int)) (.slice MA2 (km + 1) mc2) ev (km + 1) ke (setB g.mb i ++ [(i:Int)]) (eds4 g i ++ row4 g i 0) from by
    have:=HS8.out
    rw [show eds4 g i ++ row4 g i 0 = eds4 g i by simp [row4]]
    exact this)
   go_loopw [5,6] (fun s5 s6 wr=>∃ (j kf:Nat) (ev v6:Value),s5 = .int .i64 j∧s6 = v6∧j ≤ 4∧kf ≤ i * 4 + j∧Hid (Bld w3 wr (.slice (some ⟨w2.heap.size,0,none⟩) 4 4) (.int .i64 (n:Int)) (.slice MA2 (km + 1) mc2) ev (km + 1) kf (setB g.mb i ++ [(i:Int)]) (eds4 g i ++ row4 g i j))) (fun s5 _ _=>4 - (intOf s5).toNat)
   case atStart=>exact ⟨0,ke,_,_,rfl,rfl,by omega,by omega,HS9⟩
   case round =>
    clear HS9
    obtain ⟨j,kf,ev,v6,rfl,rfl,hj4,hkf,HZ⟩:=hrel
    obtain ⟨EA,ec,rfl⟩:=own_shape HZ.out.edg
    by_cases hj4':j < 4
    case neg =>
     obtain rfl:j = 4:=by omega
     have b4:¬ (4:Int) < 4:=by omega
     have HZ2:=Lib.hid (show Bld w3 wr (.slice (some ⟨w2.heap.size,0,none⟩) 4 4) (.int .i64 (n:Int)) (.slice MA2 (km + 1) mc2) (.slice EA kf ec) (km + 1) kf (setB g.mb (i + 1)) (eds4 g (i + 1)) from by
      rw [← HMK2.out]
      exact HZ.out)
     go_wp2
     go_roundw
     case rel=>exact ⟨i + 1,_,kf,_,_,_,_,by go_num,rfl,rfl,by omega,by omega,by omega,HZ2⟩
     case measure=>simp [intOf];omega
    have b4:(j:Int) < 4:=by omega
    have b5:(i:Int) < 6:=by omega
    obtain ⟨hgc,hg0,hg1⟩:=smc_at HG.out (show i < 6 by omega) hj4'
    have hgv:wr.cell? ⟨w.heap.size,2 + i * 4 + j,none⟩ = some (.int .u8 (g.tg.getD (i * 4 + j) 0)):=(HKX.out wr HZ.out.bel).cell hgc
    have o1:wr.cell? ⟨w3.heap.size,1,none⟩ = some (.int .i64 (n:Int)):=HZ.out.blk.cell (j:=1) rfl
    obtain ⟨a9,ha9⟩:∃ q,g.tg.getD (i * 4 + j) 0 = q:=⟨_,rfl⟩
    rw [ha9] at hgv hg0 hg1
    have HTO:=Lib.hid (show g.too i j = a9 % 7 - 1 by unfold Sm4.too;rw [ha9])
    obtain ⟨t,ht⟩:∃ t,a9 % 7 - 1 = t:=⟨_,rfl⟩
    rw [ht] at HTO
    have HN9:=HN.out
    clear hgc ha9
    by_cases hc:0 ≤ t∧t < (n:Int)
    case neg =>
     have HEQ:=Lib.hid (row4_no (g:=g) (i:=i) (k:=j) (by rw [HTO.out,HN9];exact hc))
     have HZ2:=Lib.hid (show Bld w3 wr (.slice (some ⟨w2.heap.size,0,none⟩) 4 4) (.int .i64 (n:Int)) (.slice MA2 (km + 1) mc2) (.slice EA kf ec) (km + 1) kf (setB g.mb i ++ [(i:Int)]) (eds4 g i ++ row4 g i (j + 1)) from by rw [HEQ.out];exact HZ.out)
     by_cases h0:0 ≤ t
     ·have h1:¬ t < (n:Int):=fun h=>hc ⟨h0,h⟩
      have h0':¬ t < 0:=by omega
      clear hc
      go_wp2
      go_roundw
      case rel=>exact ⟨j + 1,kf,_,_,by go_num,rfl,by omega,by omega,HZ2⟩
      case measure=>simp [intOf];omega
     ·have h0':t < 0:=by omega
      clear hc
      go_wp2
      go_roundw
      case rel=>exact ⟨j + 1,kf,_,_,by go_num,rfl,by omega,by omega,HZ2⟩
      case measure=>simp [intOf];omega
    obtain ⟨h0,h1⟩:=hc
    have h0':¬ t < 0:=by omega
    have HEQ:=Lib.hid (row4_yes (g:=g) (i:=i) (k:=j) (by rw [HTO.out,HN9];exact ⟨h0,h1⟩))
    have f3:wr.cell? ⟨w3.heap.size,3,none⟩ = some (.slice EA kf ec):=HZ.out.blk.cell (j:=3) rfl
    have hbs:w3.heap.size + 1 ≤ wr.heap.size:=HZ.out.lt
    go_wp2_with (first | (at_builtin;refine wpList_pushA wr [.int .i64 (i:Int),.int .i64 (j:Int),.int .i64 t] rfl (.tmp 54) (.tmp 59) 30 rfl (w3.heap.size + 1) 67 (.agg #[.int .i64 0,.int .i64 0,.int .i64 0]) 3 24 Try.underlying30 edge_info rfl (by decide) rfl (.slice EA kf ec) kf _ rfl HZ.out.edg rfl (fun u hu=>by simp at hu;rcases hu with rfl | rfl | rfl <;> rfl) (by omega) (by omega) hbs ?_;intro A9 c9 w9 ho9 hg9 _;have B9:=HZ.out.blk.kept hg9 (own_lt_ne HZ.out.edg (Nat.lt_succ_self _));have e9:w9.cell? ⟨w3.heap.size,3,none⟩ = some (.slice EA kf ec):=B9.cell (j:=3) rfl;have f9:w9.frozen? ⟨w3.heap.size,3,none⟩ = false:=B9.free 3;have l9:w3.heap.size < w9.heap.size:=B9.lt;have HSX:=Lib.hid (HZ.out.edge (x:=⟨i,j,t⟩) ho9 hg9);clear B9 ho9 hg9 f3 hbs) | fail)
    have HZ2:=Lib.hid (show Bld w3 (w9.setCell ⟨w3.heap.size,3,none⟩ (.slice A9 (kf + 1) c9)) (.slice (some ⟨w2.heap.size,0,none⟩) 4 4) (.int .i64 (n:Int)) (.slice MA2 (km + 1) mc2) (.slice A9 (kf + 1) c9) (km + 1) (kf + 1) (setB g.mb i ++ [(i:Int)]) (eds4 g i ++ row4 g i (j + 1)) from by
     rw [HEQ.out,HTO.out,← List.append_assoc]
     exact HSX.out)
    go_roundw
    case rel=>exact ⟨j + 1,kf + 1,_,_,by go_num,rfl,by omega,by omega,HZ2⟩
    case measure=>simp [intOf];omega
  | false =>
   have hb2:(bits BinOp.and IntKind.u8 (g.mb / 2 ^ i) 1 == 1) = false:=bit_u8 hq mb0 mb1
   have HMK2:=Lib.hid (show setB g.mb i = setB g.mb (i + 1) by rw [setB_no hq])
   clear hq
   go_wp2
   clear o1 c1
   have HS9:=Lib.hid (show Bld w3 _ (.slice (some ⟨w2.heap.size,0,none⟩) 4 4) (.int .i64 (n:Int)) (.slice MA km mc) ev (km) ke (setB g.mb i) (eds4 g i ++ row4 g i 0) from by
    have:=HS.out
    rw [show eds4 g i ++ row4 g i 0 = eds4 g i by simp [row4]]
    exact this)
   go_loopw [5,6] (fun s5 s6 wr=>∃ (j kf:Nat) (ev v6:Value),s5 = .int .i64 j∧s6 = v6∧j ≤ 4∧kf ≤ i * 4 + j∧Hid (Bld w3 wr (.slice (some ⟨w2.heap.size,0,none⟩) 4 4) (.int .i64 (n:Int)) (.slice MA km mc) ev (km) kf (setB g.mb i) (eds4 g i ++ row4 g i j))) (fun s5 _ _=>4 - (intOf s5).toNat)
   case atStart=>exact ⟨0,ke,_,_,rfl,rfl,by omega,by omega,HS9⟩
   case round =>
    clear HS9
    obtain ⟨j,kf,ev,v6,rfl,rfl,hj4,hkf,HZ⟩:=hrel
    obtain ⟨EA,ec,rfl⟩:=own_shape HZ.out.edg
    by_cases hj4':j < 4
    case neg =>
     obtain rfl:j = 4:=by omega
     have b4:¬ (4:Int) < 4:=by omega
     have HZ2:=Lib.hid (show Bld w3 wr (.slice (some ⟨w2.heap.size,0,none⟩) 4 4) (.int .i64 (n:Int)) (.slice MA km mc) (.slice EA kf ec) (km) kf (setB g.mb (i + 1)) (eds4 g (i + 1)) from by
      rw [← HMK2.out]
      exact HZ.out)
     go_wp2
     go_roundw
     case rel=>exact ⟨i + 1,_,kf,_,_,_,_,by go_num,rfl,rfl,by omega,by omega,by omega,HZ2⟩
     case measure=>simp [intOf];omega
    have b4:(j:Int) < 4:=by omega
    have b5:(i:Int) < 6:=by omega
    obtain ⟨hgc,hg0,hg1⟩:=smc_at HG.out (show i < 6 by omega) hj4'
    have hgv:wr.cell? ⟨w.heap.size,2 + i * 4 + j,none⟩ = some (.int .u8 (g.tg.getD (i * 4 + j) 0)):=(HKX.out wr HZ.out.bel).cell hgc
    have o1:wr.cell? ⟨w3.heap.size,1,none⟩ = some (.int .i64 (n:Int)):=HZ.out.blk.cell (j:=1) rfl
    obtain ⟨a9,ha9⟩:∃ q,g.tg.getD (i * 4 + j) 0 = q:=⟨_,rfl⟩
    rw [ha9] at hgv hg0 hg1
    have HTO:=Lib.hid (show g.too i j = a9 % 7 - 1 by unfold Sm4.too;rw [ha9])
    obtain ⟨t,ht⟩:∃ t,a9 % 7 - 1 = t:=⟨_,rfl⟩
    rw [ht] at HTO
    have HN9:=HN.out
    clear hgc ha9
    by_cases hc:0 ≤ t∧t < (n:Int)
    case neg =>
     have HEQ:=Lib.hid (row4_no (g:=g) (i:=i) (k:=j) (by rw [HTO.out,HN9];exact hc))
     have HZ2:=Lib.hid (show Bld w3 wr (.slice (some ⟨w2.heap.size,0,none⟩) 4 4) (.int .i64 (n:Int)) (.slice MA km mc) (.slice EA kf ec) (km) kf (setB g.mb i) (eds4 g i ++ row4 g i (j + 1)) from by rw [HEQ.out];exact HZ.out)
     by_cases h0:0 ≤ t
     ·have h1:¬ t < (n:Int):=fun h=>hc ⟨h0,h⟩
      have h0':¬ t < 0:=by omega
      clear hc
      go_wp2
      go_roundw
      case rel=>exact ⟨j + 1,kf,_,_,by go_num,rfl,by omega,by omega,HZ2⟩
      case measure=>simp [intOf];omega
     ·have h0':t < 0:=by omega
      clear hc
      go_wp2
      go_roundw
      case rel=>exact ⟨j + 1,kf,_,_,by go_num,rfl,by omega,by omega,HZ2⟩
      case measure=>simp [intOf];omega
    obtain ⟨h0,h1⟩:=hc
    have h0':¬ t < 0:=by omega
    have HEQ:=Lib.hid (row4_yes (g:=g) (i:=i) (k:=j) (by rw [HTO.out,HN9];exact ⟨h0,h1⟩))
    have f3:wr.cell? ⟨w3.heap.size,3,none⟩ = some (.slice EA kf ec):=HZ.out.blk.cell (j:=3) rfl
    have hbs:w3.heap.size + 1 ≤ wr.heap.size:=HZ.out.lt
    go_wp2_with (first | (at_builtin;refine wpList_pushA wr [.int .i64 (i:Int),.int .i64 (j:Int),.int .i64 t] rfl (.tmp 54) (.tmp 59) 30 rfl (w3.heap.size + 1) 67 (.agg #[.int .i64 0,.int .i64 0,.int .i64 0]) 3 24 Try.underlying30 edge_info rfl (by decide) rfl (.slice EA kf ec) kf _ rfl HZ.out.edg rfl (fun u hu=>by simp at hu;rcases hu with rfl | rfl | rfl <;> rfl) (by omega) (by omega) hbs ?_;intro A9 c9 w9 ho9 hg9 _;have B9:=HZ.out.blk.kept hg9 (own_lt_ne HZ.out.edg (Nat.lt_succ_self _));have e9:w9.cell? ⟨w3.heap.size,3,none⟩ = some (.slice EA kf ec):=B9.cell (j:=3) rfl;have f9:w9.frozen? ⟨w3.heap.size,3,none⟩ = false:=B9.free 3;have l9:w3.heap.size < w9.heap.size:=B9.lt;have HSX:=Lib.hid (HZ.out.edge (x:=⟨i,j,t⟩) ho9 hg9);clear B9 ho9 hg9 f3 hbs) | fail)
    have HZ2:=Lib.hid (show Bld w3 (w9.setCell ⟨w3.heap.size,3,none⟩ (.slice A9 (kf + 1) c9)) (.slice (some ⟨w2.heap.size,0,none⟩) 4 4) (.int .i64 (n:Int)) (.slice MA km mc) (.slice A9 (kf + 1) c9) (km) (kf + 1) (setB g.mb i) (eds4 g i ++ row4 g i (j + 1)) from by
     rw [HEQ.out,HTO.out,← List.append_assoc]
     exact HSX.out)
    go_roundw
    case rel=>exact ⟨j + 1,kf + 1,_,_,by go_num,rfl,by omega,by omega,HZ2⟩
    case measure=>simp [intOf];omega
end Go.Proofs.Ytdnmpndnpfklcaa
