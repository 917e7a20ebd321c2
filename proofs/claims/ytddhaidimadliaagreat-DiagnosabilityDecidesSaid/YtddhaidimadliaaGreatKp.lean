/- Walks: slices.IndexFunc, ContainsFunc at integers, edges, events, the closure may make memory. -/
import Derived.Test.YtddhaidimadliaaGreatJy
import Derived.Test.YtddhaidimadliaaGreatKl
import Derived.Test.YtddhaidimadliaaGreatKh
namespace Go.Proofs.YtddhaidimadliaaGreat
open Go.RowKit Go
set_option maxHeartbeats 800000 in
theorem ints_IndexFuncB (A:Option Addr) (c n:Nat) (l:List Int) (g:Nat) (cap:Value) (p:Int → Bool) (w:World) (hl:l.length = n) (hR:RdI w w.heap.size A l) (hc:n ≤ 9223372036854775807)
  (eg:∀ args w,(callFunc g args).run Tryz.prog w = .ok (.enter g args) w)
  (hp:∀ x ∈ l,∀ W,Below w.heap.size w W → Calls Tryz.prog g #[.int .i64 x,cap] W fun e w'=>e = .returned (.bool (p x))∧Below W.heap.size W w') :
  Calls Tryz.prog 47 #[.slice A n c,.func (.func g) #[] #[cap]] w fun e w'=>∃ r:Int,e = .returned (.int .i64 r)∧decide (0 ≤ r) = l.any p∧Below w.heap.size w w':=by
 have HP:=Lib.hid hp
 have HL:=Lib.hid hl
 clear hp
 go_enter Tryz.func47,Tryz.ntmps47
 go_wp2
 go_loopw [4,5,8] (fun s4 s5 s8 wr=>∃ (k:Nat) (v4 v5:Value),s4 = v4∧s5 = v5∧k ≤ n∧s8 = .int .i64 k∧Hid ((l.take k).any p = false)∧Hid (Below w.heap.size w wr)) (fun _ _ s8 _=>n - (intOf s8).toNat)
 case atStart=>exact ⟨0,_,_,rfl,rfl,Nat.zero_le _,rfl,Lib.hid rfl,Lib.hid (Below.refl _ _)⟩
 case round =>
  obtain ⟨k,v4,v5,rfl,rfl,hk,rfl,HN,HB⟩:=hrel
  by_cases hlt:k < n
  ·obtain ⟨ad,x,rfl,hab,hx,hcx⟩:=(hR.below HB.out).at_ (k:=k) (by rw [HL.out];exact hlt)
   have b1:(k:Int) < (n:Int):=by omega
   have HC:=Lib.hid (HP.out x (List.mem_of_getElem? hx) wr HB.out)
   obtain ⟨q,hq⟩:∃ q,p x = q:=⟨_,rfl⟩
   rw [hq] at HC
   have HQ:=Lib.hid hq;clear hq
   have HX:=Lib.hid hx;clear hx
   clear hab
   cases q with
   | true =>
    have HR:=Lib.hid (show decide (0 ≤ (k:Int)) = l.any p by rw [decide_eq_true (by omega),List.any_eq_true.2 ⟨x,List.mem_of_getElem? HX.out,HQ.out⟩])
    go_wp2_with fail
    refine HC.out.mono ?_
    rintro e w2 ⟨rfl,hb2⟩
    have HB2:=Lib.hid (HB.out.trans (hb2.mono HB.out.size))
    clear HC hcx hb2
    go_wp2
    go_ret
    exact ⟨_,rfl,HR.out,HB2.out⟩
   | false =>
    have HN2:=Lib.hid (show (l.take (k + 1)).any p = false by rw [List.take_add_one,HX.out,List.any_append,HN.out];simp [HQ.out])
    go_wp2_with (go_at_fn g;refine HC.out.mono ?_;rintro e w2 ⟨rfl,hb2⟩;have HB2:=Lib.hid (HB.out.trans (hb2.mono HB.out.size)))
    go_roundw
    case rel=>exact ⟨k + 1,_,_,rfl,rfl,by omega,by go_num,HN2,HB2⟩
    case measure=>simp [intOf];omega
  ·obtain rfl:k = n:=by omega
   have b1:¬ (k:Int) < (k:Int):=by omega
   have HR:=Lib.hid (show decide (0 ≤ (-1:Int)) = l.any p by
    have:=HN.out
    rw [List.take_of_length_le (by rw [HL.out];exact Nat.le_refl _)] at this
    rw [this]
    decide)
   go_wp2
   go_ret
   exact ⟨_,rfl,HR.out,HB.out⟩
theorem ints_ContainsFuncB (A:Option Addr) (c n:Nat) (l:List Int) (g:Nat) (cap:Value) (p:Int → Bool) (q:Bool) (w:World) (hl:l.length = n) (hR:RdI w w.heap.size A l) (hc:n ≤ 9223372036854775807)
  (eg:∀ args w,(callFunc g args).run Tryz.prog w = .ok (.enter g args) w)
  (hp:∀ x ∈ l,∀ W,Below w.heap.size w W → Calls Tryz.prog g #[.int .i64 x,cap] W fun e w'=>e = .returned (.bool (p x))∧Below W.heap.size W w') (hq:l.any p = q) :
  Calls Tryz.prog 24 #[.slice A n c,.func (.func g) #[] #[cap]] w fun e w'=>e = .returned (.bool q)∧Below w.heap.size w w':=by
 have HI:=Lib.hid (ints_IndexFuncB A c n l g cap p w hl hR hc eg hp)
 rw [hq] at HI
 clear hp hR hq
 go_enter Tryz.func24,Tryz.ntmps24
 go_wp2_with fail
 refine HI.out.mono ?_
 rintro e w' ⟨r,rfl,hr,hb⟩
 have HB:=Lib.hid hb
 have HR:=Lib.hid hr
 clear hb hr
 go_wp2
 go_ret
 exact ⟨ret_bool HR.out,HB.out⟩
set_option maxHeartbeats 800000 in
theorem edgs_IndexFuncB (A:Option Addr) (c n:Nat) (l:List Ed) (g:Nat) (cap:Value) (p:Ed → Bool) (w:World) (hl:l.length = n) (hR:RdX w w.heap.size A l) (hc:n ≤ 9223372036854775807)
  (eg:∀ args w,(callFunc g args).run Tryz.prog w = .ok (.enter g args) w)
  (hp:∀ x ∈ l,∀ W,Below w.heap.size w W → Calls Tryz.prog g #[.agg #[.int .i64 x.f,.int .i64 x.e,.int .i64 x.t],cap] W fun e w'=>e = .returned (.bool (p x))∧Below W.heap.size W w') :
  Calls Tryz.prog 48 #[.slice A n c,.func (.func g) #[] #[cap]] w fun e w'=>∃ r:Int,e = .returned (.int .i64 r)∧decide (0 ≤ r) = l.any p∧Below w.heap.size w w':=by
 have HP:=Lib.hid hp
 have HL:=Lib.hid hl
 clear hp
 go_enter Tryz.func48,Tryz.ntmps48
 go_wp2
 go_loopw [4,5,8] (fun s4 s5 s8 wr=>∃ (k:Nat) (v4 v5:Value),s4 = v4∧s5 = v5∧k ≤ n∧s8 = .int .i64 k∧Hid ((l.take k).any p = false)∧Hid (Below w.heap.size w wr)) (fun _ _ s8 _=>n - (intOf s8).toNat)
 case atStart=>exact ⟨0,_,_,rfl,rfl,Nat.zero_le _,rfl,Lib.hid rfl,Lib.hid (Below.refl _ _)⟩
 case round =>
  obtain ⟨k,v4,v5,rfl,rfl,hk,rfl,HN,HB⟩:=hrel
  by_cases hlt:k < n
  ·obtain ⟨ad,x,rfl,hab,hx,g0,g1,g2⟩:=(hR.below HB.out).at_ (k:=k) (by rw [HL.out];exact hlt)
   have r1:wr.cell? ⟨(ad.add (k * 3)).block,(ad.add (k * 3)).off + 1,none⟩ = some (.int .i64 x.e):=st_cells (j:=0) g1
   have r2:wr.cell? ⟨(ad.add (k * 3)).block,(ad.add (k * 3)).off + 2,none⟩ = some (.int .i64 x.t):=st_cells (j:=1) g2
   have b1:(k:Int) < (n:Int):=by omega
   have HC:=Lib.hid (HP.out x (List.mem_of_getElem? hx) wr HB.out)
   obtain ⟨q,hq⟩:∃ q,p x = q:=⟨_,rfl⟩
   rw [hq] at HC
   have HQ:=Lib.hid hq;clear hq
   have HX:=Lib.hid hx;clear hx
   clear hab
   cases q with
   | true =>
    have HR:=Lib.hid (show decide (0 ≤ (k:Int)) = l.any p by rw [decide_eq_true (by omega),List.any_eq_true.2 ⟨x,List.mem_of_getElem? HX.out,HQ.out⟩])
    go_wp2_with fail
    refine HC.out.mono ?_
    rintro e w2 ⟨rfl,hb2⟩
    have HB2:=Lib.hid (HB.out.trans (hb2.mono HB.out.size))
    clear HC g0 r1 r2 g1 g2 hb2
    go_wp2
    go_ret
    exact ⟨_,rfl,HR.out,HB2.out⟩
   | false =>
    have HN2:=Lib.hid (show (l.take (k + 1)).any p = false by rw [List.take_add_one,HX.out,List.any_append,HN.out];simp [HQ.out])
    go_wp2_with (go_at_fn g;refine HC.out.mono ?_;rintro e w2 ⟨rfl,hb2⟩;have HB2:=Lib.hid (HB.out.trans (hb2.mono HB.out.size)))
    go_roundw
    case rel=>exact ⟨k + 1,_,_,rfl,rfl,by omega,by go_num,HN2,HB2⟩
    case measure=>simp [intOf];omega
  ·obtain rfl:k = n:=by omega
   have b1:¬ (k:Int) < (k:Int):=by omega
   have HR:=Lib.hid (show decide (0 ≤ (-1:Int)) = l.any p by
    have:=HN.out
    rw [List.take_of_length_le (by rw [HL.out];exact Nat.le_refl _)] at this
    rw [this]
    decide)
   go_wp2
   go_ret
   exact ⟨_,rfl,HR.out,HB.out⟩
theorem edgs_ContainsFuncB (A:Option Addr) (c n:Nat) (l:List Ed) (g:Nat) (cap:Value) (p:Ed → Bool) (q:Bool) (w:World) (hl:l.length = n) (hR:RdX w w.heap.size A l) (hc:n ≤ 9223372036854775807)
  (eg:∀ args w,(callFunc g args).run Tryz.prog w = .ok (.enter g args) w)
  (hp:∀ x ∈ l,∀ W,Below w.heap.size w W → Calls Tryz.prog g #[.agg #[.int .i64 x.f,.int .i64 x.e,.int .i64 x.t],cap] W fun e w'=>e = .returned (.bool (p x))∧Below W.heap.size W w') (hq:l.any p = q) :
  Calls Tryz.prog 27 #[.slice A n c,.func (.func g) #[] #[cap]] w fun e w'=>e = .returned (.bool q)∧Below w.heap.size w w':=by
 have HI:=Lib.hid (edgs_IndexFuncB A c n l g cap p w hl hR hc eg hp)
 rw [hq] at HI
 clear hp hR hq
 go_enter Tryz.func27,Tryz.ntmps27
 go_wp2_with fail
 refine HI.out.mono ?_
 rintro e w' ⟨r,rfl,hr,hb⟩
 have HB:=Lib.hid hb
 have HR:=Lib.hid hr
 clear hb hr
 go_wp2
 go_ret
 exact ⟨ret_bool HR.out,HB.out⟩
end Go.Proofs.YtddhaidimadliaaGreat
/- Walks: the law's reached, live, quiet's closures. -/
namespace Go.Proofs.YtddhaidimadliaaGreat
open Go.RowKit Go
def RetRe (a:Aut) (w:World) (e:Ending) (w':World):Prop:=∃ (v:Value) (l:List Int),e = .returned v∧w'.ownsRow w.heap.size 3 1 v l.length (iv l)∧(∀ t,t ∈ l ↔ 0 < a.st∧Rc a.ed anyE 0 t)∧l.length ≤ 4096∧Below w.heap.size w w'
theorem RdI.own_at' {w:World} {B n:Nat} {v:Value} {l:List Int} {i:Nat} {s:Int} (hl:l.length = n) (h:w.ownsRow B 3 1 v n (iv l)) (hs:l[i]? = some s):∃ (oa:Addr) (oc:Nat),v = .slice (some oa) n oc∧oa.block < w.heap.size∧w.cell? (oa.add i) = some (.int .i64 s):=by
 subst hl
 obtain ⟨OA,oc,rfl,h1,h2,h3⟩:=own_slI h
 obtain ⟨ad,e1,hb,hc⟩:=h3 i (.int .i64 s) (by simp [iv,hs])
 subst e1
 exact ⟨ad,oc,rfl,hb,hc⟩
theorem rdI_own {w:World} {B n c:Nat} {A:Option Addr} {l:List Int} (hl:l.length = n) (h:w.ownsRow B 3 1 (.slice A n c) n (iv l)):RdI w w.heap.size A l:=by
 subst hl
 obtain ⟨A',c',e,_,_,h3⟩:=own_slI h
 injection e with e1 e2 e3
 subst e1
 exact h3
set_option maxRecDepth 100000 in
set_option maxHeartbeats 1600000 in
theorem law_reached (x:AV) (w:World) (hx:x.ok w w.heap.size) (hw:WF x.a) :
  Calls Tryz.prog 25 #[.agg #[.slice x.A x.na x.ca,.int .i64 x.a.st,.slice x.M x.nm x.cm,.slice x.E x.ne x.ce]] w (RetRe x.a w):=by
 obtain ⟨A,na,ca,M,nm,cm,E,ne,ce,a⟩:=x
 dsimp only at hw ⊢
 have hb1:=box_below w (.cells #[.slice A na ca,.int .i64 a.st,.slice M nm cm,.slice E ne ce] 34)
 obtain ⟨w1,hw9⟩:∃ w1,w1 = w.alloc (.cells #[.slice A na ca,.int .i64 a.st,.slice M nm cm,.slice E ne ce] 34):=⟨_,rfl⟩
 have kx:Blk w1 w.heap.size 34 [.slice A na ca,.int .i64 a.st,.slice M nm cm,.slice E ne ce]:=by rw [hw9];exact Blk.new _ _ [_,_,_,_]
 rw [← hw9] at hb1
 have HG0:=Lib.hid (fun (W:World) (hb:Below w1.heap.size w1 W)=>Blk.c4 (kx.below hb kx.lt))
 have HRE:=Lib.hid (fun (W:World) (hb:Below w1.heap.size w1 W)=>((AutR.more (AutR.below hx (hb1.trans (hb.mono hb1.size))) (hb1.trans (hb.mono hb1.size)).size)).re)
 have HBL:=Lib.hid (fun (W:World) (hb:Below w1.heap.size w1 W)=>hb1.trans (hb.mono hb1.size))
 have HLE:=Lib.hid hx.le
 have HWF:=Lib.hid hw
 have hst0:=hw.st0
 have hst1:=hw.st1
 have hedl:=hw.ed_le
 rw [HLE.out] at hedl
 have HNA:=Lib.hid (fun (i:Nat) (l:List Int) (h:ReaI a i l)=>(show l.length ≤ 4096 from Nat.le_trans h.len (by omega)))
 have HS0:=Lib.hid (fun (h:¬ 0 < a.st)=>ReaI.none (a:=a) h)
 have HS1:=Lib.hid (fun (h:0 < a.st)=>ReaI.start (a:=a) h)
 have hs1:=hb1.size
 obtain ⟨sv,hsv⟩:∃ z,a.st = z:=⟨_,rfl⟩
 rw [hsv] at hw9 HG0 hst0 hst1 HS0 HS1 ⊢
 have HW9:=Lib.hid hw9;clear hw9
 have lx:=kx.lt
 clear kx hx hw hb1
 obtain ⟨a0,a1,a2,a3⟩:=HG0.out w1 (Below.refl _ _)
 have HO0:=Lib.hid (World.ownsRow_nil w1 w1.heap.size 3 1)
 go_enter Tryz.func25,Tryz.ntmps25
 go_upto_region 1 with fail
 rw [← HW9.out]
 by_cases h0:0 < sv
 case' pos =>
  go_upto_region 4 with (first | (at_builtin;refine wpList_push w1 (.int .i64 0) rfl (.tmp 10) (.tmp 11) 31 rfl w1.heap.size 3 (.int .i64 0) 8 Tryz.underlying31 int_info rfl (.slice none 0 0) 0 _ rfl HO0.out rfl rfl (by omega) (by omega) (by omega) ?_;intro v' w' ho' hg' hb1') | fail)
  obtain ⟨n0,hn0e⟩:∃ n0:Nat,n0 = 1:=⟨1,rfl⟩
  have HR0:=Lib.hid (show ∃ l:List Int,l.length = n0∧w'.ownsRow w1.heap.size 3 1 v' n0 (iv l)∧ReaI a 0 l from ⟨[0],hn0e.symm,by rw [hn0e];exact ho',HS1.out h0⟩)
  have HB0:=Lib.hid hb1'
  have hn0:n0 ≤ 4096:=by omega
  clear ho' hg' hb1' hn0e
 case' neg =>
  obtain ⟨n0,hn0e⟩:∃ n0:Nat,n0 = 0:=⟨0,rfl⟩
  have HR0:=Lib.hid (show ∃ l:List Int,l.length = n0∧w1.ownsRow w1.heap.size 3 1 (.slice none 0 0) n0 (iv l)∧ReaI a 0 l from ⟨[],hn0e.symm,by rw [hn0e];exact HO0.out,HS0.out h0⟩)
  have hn0:n0 ≤ 4096:=by omega
  have HB0:=Lib.hid (Below.refl w1.heap.size w1)
  clear hn0e
  go_upto_region 4 with fail
 all_goals
  clear a0 a1 a2 a3 HO0
  go_wp2
  go_loopw [3,4,6] (fun s3 s4 s6 wr=>∃ (i n:Nat) (v3 v6:Value) (l:List Int),v3 = s3∧s4 = .int .i64 i∧s6 = v6∧i ≤ n∧n ≤ 4096∧Hid (l.length = n)∧Hid (wr.ownsRow w1.heap.size 3 1 v3 n (iv l))∧Hid (ReaI a i l)∧Hid (Below w1.heap.size w1 wr)) (fun _ s4 _ _=>4097 - (intOf s4).toNat)
  case atStart =>
   obtain ⟨l,e1,e2,e3⟩:=HR0.out
   exact ⟨0,n0,_,_,l,rfl,rfl,rfl,Nat.zero_le _,hn0,Lib.hid e1,Lib.hid e2,Lib.hid e3,HB0⟩
  case round =>
   clear HR0 HB0 hn0
   obtain ⟨i,n,v3,v6,l,rfl,rfl,rfl,hi,hn,HL,HO,HI,HB⟩:=hrel
   obtain ⟨a0,a1,a2,a3⟩:=HG0.out wr HB.out
   obtain ⟨OA,oc,rfl⟩:=own_shape HO.out
   by_cases hlt:i < n
   case neg =>
    have b1:¬ (i:Int) < (n:Int):=by omega
    go_wp2
    go_ret
    exact ⟨_,l,rfl,by rw [HL.out];exact own_base HO.out hs1,fun t=>HI.out.fin (by rw [HL.out];omega) t,by rw [HL.out];exact hn,HBL.out _ HB.out⟩
   have b1:(i:Int) < (n:Int):=by omega
   obtain ⟨s,hs⟩:∃ s,l[i]? = some s:=⟨_,List.getElem?_eq_getElem (by rw [HL.out];exact hlt)⟩
   have HRR:=Lib.hid (ReaR.start HI.out hs)
   clear hs HI
   go_upto_region 8 with fail
   clear a0 a1 a2 a3
   go_loopw [3,6,22] (fun s3 s6 s22 wr=>∃ (k n:Nat) (v3 v6:Value) (l:List Int),v3 = s3∧s6 = v6∧s22 = .int .i64 k∧k ≤ ne∧i < n∧n ≤ 4096∧Hid (l.length = n)∧Hid (wr.ownsRow w1.heap.size 3 1 v3 n (iv l))∧Hid (ReaR a i k s l)∧Hid (Below w1.heap.size w1 wr)) (fun _ _ s22 _=>ne - (intOf s22).toNat)
   case atStart=>exact ⟨0,n,_,_,l,rfl,rfl,rfl,Nat.zero_le _,hlt,hn,HL,HO,HRR,HB⟩
   case round =>
    clear HRR HL HO HB hlt hn hi b1
    obtain ⟨k,n,v3,v6,l,rfl,rfl,rfl,hk,hin,hn,HL,HO,HRR,HB⟩:=hrel
    by_cases hke:k < ne
    case neg =>
     obtain rfl:k = ne:=by omega
     have b1:¬ (k:Int) < (k:Int):=by omega
     have HI:=Lib.hid (HRR.out.done (by rw [HLE.out];exact Nat.le_refl _))
     go_wp2
     go_roundw
     case rel=>exact ⟨i + 1,n,_,_,l,rfl,by go_num,rfl,by omega,hn,HL,HO,HI,HB⟩
     case measure=>simp [intOf];omega
    have b1:(k:Int) < (ne:Int):=by omega
    obtain ⟨ad,x,rfl,hab,hx,g0,g1,g2⟩:=(HRE.out wr HB.out).at_ (k:=k) (by rw [HLE.out];exact hke)
    have r1:wr.cell? ⟨(ad.add (k * 3)).block,(ad.add (k * 3)).off + 1,none⟩ = some (.int .i64 x.e):=st_cells (j:=0) g1
    have r2:wr.cell? ⟨(ad.add (k * 3)).block,(ad.add (k * 3)).off + 2,none⟩ = some (.int .i64 x.t):=st_cells (j:=1) g2
    have HX:=Lib.hid hx
    obtain ⟨oa,oc,rfl,ho1,ho2⟩:=RdI.own_at' HL.out HO.out HRR.out.at_
    have hbx:=box_below wr (.cells #[.int .i64 x.f,.int .i64 x.e,.int .i64 x.t] 79)
    have ke:Blk (wr.alloc (.cells #[.int .i64 x.f,.int .i64 x.e,.int .i64 x.t] 79)) wr.heap.size 79 [.int .i64 x.f,.int .i64 x.e,.int .i64 x.t]:=Blk.new _ _ [_,_,_]
    have e0:=ke.cell (j:=0) rfl
    have e2:=ke.cell (j:=2) rfl
    have eo:=(hbx.cell (p:=oa.add i) (by rw [block_of_add];exact ho1)).trans ho2
    have HBX:=Lib.hid ke.lt
    have HOB:=Lib.hid (Nat.lt_of_lt_of_le ho1 hbx.size)
    have HO5:=Lib.hid (HO.out.alloc (.cells #[.int .i64 x.f,.int .i64 x.e,.int .i64 x.t] 79))
    have HB5:=Lib.hid (HB.out.trans (hbx.mono HB.out.size))
    clear hx hab ke hbx ho1 ho2 HO HB
    go_upto_region 10 with fail
    clear g0 g1 g2 r1 r2
    generalize wr.heap.size = bx at e0 e2 HBX ⊢
    generalize wr.alloc (.cells #[.int .i64 x.f,.int .i64 x.e,.int .i64 x.t] 79) = w5 at e0 e2 eo HBX HOB HO5 HB5 ⊢
    have hsz:=HB5.out.size
    by_cases hf:x.f = s
    case neg =>
     have b2:(x.f == s) = false:=by simpa using hf
     have HR2:=Lib.hid (HRR.out.old HX.out (fun h=>absurd h hf))
     refine wp_region_U (fun W=>W.cell? ⟨bx,0,none⟩ = some (.int .i64 x.f)∧W.cell? ⟨bx,2,none⟩ = some (.int .i64 x.t)∧W.cell? (oa.add i) = some (.int .i64 s)) (fun _=>True) 99 (by kernel_rfl) ?_
     change anyU _ _ _ _ _ _ _ 14 _ _ _
     have hB0:True:=trivial
     have HAW:=Lib.hid (fun (W:World) (hW:Below w5.heap.size w5 W)=>(show W.cell? ⟨bx,0,none⟩ = some (.int .i64 x.f)∧W.cell? ⟨bx,2,none⟩ = some (.int .i64 x.t)∧W.cell? (oa.add i) = some (.int .i64 s) from
      ⟨(hW.cell HBX.out).trans e0,(hW.cell HBX.out).trans e2,(hW.cell (by rw [block_of_add];exact HOB.out)).trans eo⟩))
     have HBD:=Lib.hid (below_dr w5)
     generalize w5.drew = wd at HBD ⊢
     have hA0:=HAW.out wd HBD.out
     clear e0 e2 eo
     (refine uA 0 ?_ rfl hA0 hB0 (fun W hA=>?_) ?_;rotate_left;(· (go_simp;try with_reducible rfl));(try simp only [Act.put,List.setIfInBounds_toArray,List.set_cons_zero,List.set_cons_succ]))
     (refine uA 1 ?_ rfl hA0 hB0 (fun W hA=>?_) ?_;rotate_left;(· (obtain ⟨a0,a1,a2⟩:=hA;go_simp;try with_reducible rfl));(try simp only [Act.put,List.setIfInBounds_toArray,List.set_cons_zero,List.set_cons_succ]))
     (refine uA 2 ?_ rfl hA0 hB0 (fun W hA=>?_) ?_;rotate_left;(· (go_simp;try with_reducible rfl));refine uA 3 ?_ rfl hA0 hB0 (fun W hA=>?_) ?_;rotate_left;(· (go_simp;try with_reducible rfl));refine uA 4 ?_ rfl hA0 hB0 (fun W hA=>?_) ?_;rotate_left;(· (go_simp;try with_reducible rfl));(try simp only [Act.put,List.setIfInBounds_toArray,List.set_cons_zero,List.set_cons_succ]))
     (refine uA 5 ?_ rfl hA0 hB0 (fun W hA=>?_) ?_;rotate_left;(· (obtain ⟨a0,a1,a2⟩:=hA;go_simp;try with_reducible rfl));(try simp only [Act.put,List.setIfInBounds_toArray,List.set_cons_zero,List.set_cons_succ]))
     (refine uA 6 ?_ rfl hA0 hB0 (fun W hA=>?_) ?_;rotate_left;(· (go_simp;try with_reducible rfl));refine uA 7 ?_ rfl hA0 hB0 (fun W hA=>?_) ?_;rotate_left;(· (go_simp;try with_reducible rfl));(try simp only [Act.put,List.setIfInBounds_toArray,List.set_cons_zero,List.set_cons_succ]))
     (refine uS 8 rfl hA0 hB0 ?_;refine uS 9 rfl hA0 hB0 ?_;refine uS 10 rfl hA0 hB0 ?_;(try simp only [Act.put,List.setIfInBounds_toArray,List.set_cons_zero,List.set_cons_succ]))
     (refine uS 11 rfl hA0 hB0 ?_;refine uS 12 rfl hA0 hB0 ?_;(try simp only [Act.put,List.setIfInBounds_toArray,List.set_cons_zero,List.set_cons_succ]))
     (refine uA 13 ?_ rfl hA0 hB0 (fun W hA=>?_) ?_;rotate_left;(· (go_simp;try with_reducible rfl));(try simp only [Act.put,List.setIfInBounds_toArray,List.set_cons_zero,List.set_cons_succ]))
     refine anyU_done (by kernel_rfl) ?_ _
     have HB6:=Lib.hid (HB5.out.trans (HBD.out.mono hsz))
     have HO6:=Lib.hid (own_below HO5.out HBD.out)
     clear hA0
     go_wp2
     go_roundw
     case rel=>exact ⟨k + 1,n,_,_,l,rfl,rfl,by go_num,by omega,hin,hn,HL,HO6,HR2,HB6⟩
     case measure=>simp [intOf];omega
    have b2:(x.f == s) = true:=by simpa using hf
    obtain ⟨q,hq⟩:∃ q,hasB l x.t = q:=⟨_,rfl⟩
    refine wp_region_U (fun W=>W.cell? ⟨bx,0,none⟩ = some (.int .i64 x.f)∧W.cell? ⟨bx,2,none⟩ = some (.int .i64 x.t)∧W.cell? (oa.add i) = some (.int .i64 s)) (fun _=>True) 11 (by kernel_rfl) ?_
    change anyU _ _ _ _ _ _ _ 14 _ _ _
    have hB0:True:=trivial
    have HAW:=Lib.hid (fun (W:World) (hW:Below w5.heap.size w5 W)=>(show W.cell? ⟨bx,0,none⟩ = some (.int .i64 x.f)∧W.cell? ⟨bx,2,none⟩ = some (.int .i64 x.t)∧W.cell? (oa.add i) = some (.int .i64 s) from
     ⟨(hW.cell HBX.out).trans e0,(hW.cell HBX.out).trans e2,(hW.cell (by rw [block_of_add];exact HOB.out)).trans eo⟩))
    have HBD:=Lib.hid (below_dr w5)
    generalize w5.drew = wd at HBD ⊢
    have hA0:=HAW.out wd HBD.out
    clear e0 e2 eo
    (refine uA 0 ?_ rfl hA0 hB0 (fun W hA=>?_) ?_;rotate_left;(· (go_simp;try with_reducible rfl));(try simp only [Act.put,List.setIfInBounds_toArray,List.set_cons_zero,List.set_cons_succ]))
    (refine uA 1 ?_ rfl hA0 hB0 (fun W hA=>?_) ?_;rotate_left;(· (obtain ⟨a0,a1,a2⟩:=hA;go_simp;try with_reducible rfl));(try simp only [Act.put,List.setIfInBounds_toArray,List.set_cons_zero,List.set_cons_succ]))
    (refine uA 2 ?_ rfl hA0 hB0 (fun W hA=>?_) ?_;rotate_left;(· (go_simp;try with_reducible rfl));refine uA 3 ?_ rfl hA0 hB0 (fun W hA=>?_) ?_;rotate_left;(· (go_simp;try with_reducible rfl));refine uA 4 ?_ rfl hA0 hB0 (fun W hA=>?_) ?_;rotate_left;(· (go_simp;try with_reducible rfl));(try simp only [Act.put,List.setIfInBounds_toArray,List.set_cons_zero,List.set_cons_succ]))
    (refine uA 5 ?_ rfl hA0 hB0 (fun W hA=>?_) ?_;rotate_left;(· (obtain ⟨a0,a1,a2⟩:=hA;go_simp;try with_reducible rfl));(try simp only [Act.put,List.setIfInBounds_toArray,List.set_cons_zero,List.set_cons_succ]))
    (refine uA 6 ?_ rfl hA0 hB0 (fun W hA=>?_) ?_;rotate_left;(· (go_simp;try with_reducible rfl));refine uA 7 ?_ rfl hA0 hB0 (fun W hA=>?_) ?_;rotate_left;(· (go_simp;try with_reducible rfl));(try simp only [Act.put,List.setIfInBounds_toArray,List.set_cons_zero,List.set_cons_succ]))
    (refine uA 8 ?_ rfl hA0 hB0 (fun W hA=>?_) ?_;rotate_left;(· (go_simp;try with_reducible rfl));refine uA 9 ?_ rfl hA0 hB0 (fun W hA=>?_) ?_;rotate_left;(· (go_simp;try with_reducible rfl));(try simp only [Act.put,List.setIfInBounds_toArray,List.set_cons_zero,List.set_cons_succ]))
    (refine uA 10 ?_ rfl hA0 hB0 (fun W hA=>?_) ?_;rotate_left;(· (obtain ⟨a0,a1,a2⟩:=hA;go_simp;try with_reducible rfl));(try simp only [Act.put,List.setIfInBounds_toArray,List.set_cons_zero,List.set_cons_succ]))
    have HB6:=Lib.hid (HB5.out.trans (HBD.out.mono hsz))
    have HO6:=Lib.hid (own_below HO5.out HBD.out)
    have hcap:=own_capN HO6.out
    have HC:=Lib.hid (slices_Contains (some oa) oc n l x.t q wd HL.out hq (rdI_own HL.out HO6.out) hcap.1 hcap.2)
    clear hcap
    have HQ:=Lib.hid hq;clear hq
    refine uOne (i:=11) rfl (by kernel_rfl) (fun K hK=>?_)
    go_simp
    go_at_call 16
    refine HC.out.mono ?_
    rintro _ w7 ⟨rfl,rfl⟩
    go_simp
    (refine hK _ _ ⟨hA0,fun _=>hB0⟩ ?_;clear hK K;(try simp only [Act.put,List.setIfInBounds_toArray,List.set_cons_zero,List.set_cons_succ]))
    (refine uA 12 ?_ rfl hA0 hB0 (fun W hA=>?_) ?_;rotate_left;(· (go_simp;try with_reducible rfl));refine uA 13 ?_ rfl hA0 hB0 (fun W hA=>?_) ?_;rotate_left;(· (go_simp;try with_reducible rfl));(try simp only [Act.put,List.setIfInBounds_toArray,List.set_cons_zero,List.set_cons_succ]))
    refine anyU_done (by kernel_rfl) ?_ _
    obtain ⟨e0,e2,eo⟩:=hA0
    cases q with
    | true =>
     have HR2:=Lib.hid (HRR.out.old HX.out (fun _=>hasB_mem.1 HQ.out))
     go_wp2
     go_roundw
     case rel=>exact ⟨k + 1,n,_,_,l,rfl,rfl,by go_num,by omega,hin,hn,HL,HO6,HR2,HB6⟩
     case measure=>simp [intOf];omega
    | false =>
     have HR2:=Lib.hid (HRR.out.push HWF.out HX.out hf (fun h=>by rw [hasB_mem.2 h] at HQ;exact absurd HQ.out (by simp)))
     have hn2:n + 1 ≤ 4096:=by have:=HNA.out _ _ HR2.out.o;rw [List.length_append,HL.out] at this;exact this
     have hsz6:=HB6.out.size
     go_wp2_with (first | (at_builtin;refine wpList_push wd (.int .i64 x.t) rfl (.tmp 40) (.tmp 43) 31 rfl w1.heap.size 3 (.int .i64 0) 8 Tryz.underlying31 int_info rfl _ n _ rfl HO6.out rfl rfl (by omega) (by omega) hsz6 ?_;intro v' w' ho' hg' hb1) | fail)
     go_roundw
     case rel=>exact ⟨k + 1,n + 1,_,_,l ++ [x.t],rfl,rfl,by go_num,by omega,by omega,hn2,Lib.hid (by rw [List.length_append,HL.out];rfl),Lib.hid (by rw [iv_append];exact ho'),HR2,Lib.hid (HB6.out.trans hb1)⟩
     case measure=>simp [intOf];omega
end Go.Proofs.YtddhaidimadliaaGreat
/- Walks: the law's circles. -/
namespace Go.Proofs.YtddhaidimadliaaGreat
open Go.RowKit Go
theorem bls_info:(Tryz.prog.info? 86).map (fun i=>(i.zero,i.size,i.bytes)) = some (some (.slice none 0 0),1,24):=by kernel_rfl
def rwsB (b n i:Nat):List Value:=(List.range n).map fun j=>if j < i then .slice (some ⟨b + 1 + j,0,none⟩) n n else .slice none 0 0
theorem rwsB_len (b n i:Nat):(rwsB b n i).length = n:=by simp [rwsB]
theorem rwsB_at {b n i j:Nat} (hj:j < n):(rwsB b n i)[j]? = some (if j < i then .slice (some ⟨b + 1 + j,0,none⟩) n n else .slice none 0 0):=by
 unfold rwsB
 rw [List.getElem?_map,List.getElem?_range hj]
 rfl
theorem rwsB_zero (b n:Nat):rwsB b n 0 = List.replicate n (.slice none 0 0):=by
 unfold rwsB
 simp only [Nat.not_lt_zero,if_false]
 rw [List.map_const',List.length_range]
theorem rwsB_set {b n i:Nat} (hi:i < n):(rwsB b n i).set i (.slice (some ⟨b + 1 + i,0,none⟩) n n) = rwsB b n (i + 1):=by
 apply List.ext_getElem?
 intro j
 rw [List.getElem?_set]
 by_cases hij:i = j
 ·subst hij
  rw [if_pos rfl,if_pos (by rw [rwsB_len];exact hi),rwsB_at hi,if_pos (by omega)]
 ·rw [if_neg hij]
  rcases Nat.lt_or_ge j n with hj | hj
  ·rw [rwsB_at hj,rwsB_at hj]
   by_cases h1:j < i
   ·rw [if_pos h1,if_pos (by omega)]
   ·rw [if_neg h1,if_neg (by omega)]
  ·rw [List.getElem?_eq_none (by rw [rwsB_len];exact hj),List.getElem?_eq_none (by rw [rwsB_len];exact hj)]
structure MatP (w W:World) (n i:Nat):Prop where
 bel:Below w.heap.size w W
 sz:W.heap.size = w.heap.size + 1 + i
 ob:Blk W w.heap.size 86 (rwsB w.heap.size n i)
 rw:∀ j,j < i → Blk W (w.heap.size + 1 + j) 4 (bvl (List.replicate n false))
theorem MatP.start (w:World) (n:Nat):MatP w (w.alloc (.cells (madeCells #[.slice none 0 0] n) 86)) n 0:=by
 have e:madeCells #[.slice none 0 0] n = (List.replicate n (Value.slice none 0 0)).toArray:=by
  apply Array.ext'
  rw [toList_madeCells_one]
 rw [e]
 exact ⟨box_below w _,by simp,by rw [rwsB_zero];exact Blk.new _ _ _,fun j hj=>absurd hj (Nat.not_lt_zero _)⟩
theorem MatP.step {w W:World} {n i:Nat} (h:MatP w W n i) (hi:i < n):MatP w ((W.setCell ⟨w.heap.size,i,none⟩ (.slice (some ⟨W.heap.size,0,none⟩) n n)).alloc (.cells (madeCells #[.bool false] n) 4)) n (i + 1):=by
 have hs:=h.sz
 have hs2:(W.setCell ⟨w.heap.size,i,none⟩ (.slice (some ⟨W.heap.size,0,none⟩) n n)).heap.size = W.heap.size:=World.size_setCell ..
 have hb:=box_below (W.setCell ⟨w.heap.size,i,none⟩ (.slice (some ⟨W.heap.size,0,none⟩) n n)) (.cells (madeCells #[.bool false] n) 4)
 have hg:=grown_setCell W w.heap.size i (.slice (some ⟨W.heap.size,0,none⟩) n n)
 refine ⟨(h.bel.setCell (p:=⟨w.heap.size,i,none⟩) (Nat.le_refl _) _).trans (hb.mono (by rw [hs2];omega)),by rw [World.size_alloc,hs2,hs];omega,?_,fun j hj=>?_⟩
 ·rw [← rwsB_set hi]
  have:=h.ob.set (j:=i) (by rw [rwsB_len];exact hi) (.slice (some ⟨W.heap.size,0,none⟩) n n)
  rw [hs] at this ⊢
  rw [hs] at hb
  exact this.below hb this.lt
 ·rcases Nat.lt_or_ge j i with h1 | h1
  ·have h2:=(h.rw j h1).kept hg (by intro e;injection e with e;omega)
   exact h2.below hb h2.lt
  ·obtain rfl:j = i:=by omega
   rw [made_bools]
   have:=Blk.new (W.setCell ⟨w.heap.size,j,none⟩ (.slice (some ⟨W.heap.size,0,none⟩) n n)) 4 (bvl (List.replicate n false))
   rw [hs2,hs] at this
   rw [hs]
   exact this
structure MatB (w W:World) (n:Nat) (M:Mat):Prop where
 sq:Sq n M
 bel:Below w.heap.size w W
 ob:Blk W w.heap.size 86 (rwsB w.heap.size n n)
 rw:∀ i,i < n → Blk W (w.heap.size + 1 + i) 4 (bvl (M.getD i []))
section
variable {w W W':World} {n i j:Nat} {M:Mat}
theorem MatP.done (h:MatP w W n n):MatB w W n (List.replicate n (List.replicate n false)) :=
 ⟨sq_zero n,h.bel,h.ob,fun i hi=>by
  rw [List.getD_eq_getElem?_getD,List.getElem?_replicate,if_pos hi]
  exact h.rw i hi⟩
theorem MatB.quiet (h:MatB w W n M) (hb:Below W.heap.size W W'):MatB w W' n M :=
 ⟨h.sq,h.bel.trans (hb.mono h.bel.size),h.ob.below hb h.ob.lt,fun i hi=>(h.rw i hi).below hb (h.rw i hi).lt⟩
theorem MatB.row (h:MatB w W n M) (hi:i < n):W.cell? ⟨w.heap.size,i,none⟩ = some (.slice (some ⟨w.heap.size + 1 + i,0,none⟩) n n):=h.ob.cell (by rw [rwsB_at hi,if_pos hi])
theorem MatB.bit (h:MatB w W n M) (hi:i < n) (hj:j < n):W.cell? ⟨w.heap.size + 1 + i,j,none⟩ = some (.bool (gM M i j)):=by
 refine (h.rw i hi).cell ?_
 have hl:=h.sq.row hi
 unfold gM
 generalize M.getD i [] = r at hl ⊢
 rw [bvl_get,List.getD_eq_getElem?_getD,List.getElem?_eq_getElem (by omega)]
 rfl
theorem MatB.lt (h:MatB w W n M) (hi:i < n):w.heap.size + 1 + i < W.heap.size:=(h.rw i hi).lt
theorem MatB.set (h:MatB w W n M) (hi:i < n) (hj:j < n) (v:Bool):MatB w (W.setCell ⟨w.heap.size + 1 + i,j,none⟩ (.bool v)) n (sM M i j v):=by
 have hg:=grown_setCell W (w.heap.size + 1 + i) j (.bool v)
 refine ⟨h.sq.set hi v,h.bel.setCell (p:=⟨w.heap.size + 1 + i,j,none⟩) (by show _ ≤ w.heap.size + 1 + i;omega) _,h.ob.kept hg (by intro e;injection e with e;omega),fun k hk=>?_⟩
 unfold sM
 by_cases hki:k = i
 ·subst hki
  have:=(h.rw k hk).set (j:=j) (by rw [bvl_length,h.sq.row hk];exact hj) (.bool v)
  rw [bvl_set] at this
  rw [List.getD_eq_getElem?_getD,List.getElem?_set,if_pos rfl,if_pos (by rw [h.sq.1];exact hk)]
  exact this
 ·have:=(h.rw k hk).kept hg (by intro e;injection e with e;omega)
  rw [List.getD_eq_getElem?_getD,List.getElem?_set,if_neg (fun e=>hki e.symm),← List.getD_eq_getElem?_getD]
  exact this
end
def arcC (p:Nat × Nat):List Value:=[.int .i64 (p.1:Int),.int .i64 (p.2:Int)]
theorem arcM_at {E:List (Nat × Nat)} {M:Mat} {k:Nat} {p:Nat × Nat} (h:E[k]? = some p):arcM (E.take (k + 1)) M = sM (arcM (E.take k) M) p.1 p.2 true:=by
 unfold arcM
 rw [List.take_add_one,h,List.foldl_append]
 rfl
theorem cirK_at {n k:Nat} {M:Mat}:cirK n M (List.range (k + 1)) = cirI k n (cirK n M (List.range k)) (List.range n):=by
 unfold cirK
 rw [List.range_succ,List.foldl_append]
 rfl
theorem cirI_at {n k i:Nat} {M:Mat}:cirI k n M (List.range (i + 1)) = cirJ k i (cirI k n M (List.range i)) (List.range n):=by
 unfold cirI
 rw [List.range_succ,List.foldl_append]
 rfl
theorem cirJ_at {k i j:Nat} {M:Mat}:cirJ k i M (List.range (j + 1)) = sM (cirJ k i M (List.range j)) i j (gM (cirJ k i M (List.range j)) i j || gM (cirJ k i M (List.range j)) i k && gM (cirJ k i M (List.range j)) k j):=by
 unfold cirJ
 rw [List.range_succ,List.foldl_append]
 rfl
def dgL (n i:Nat) (M:Mat):List Bool:=(List.range n).map fun j=>if j < i then gM M j j else false
theorem dgL_len (n i:Nat) (M:Mat):(dgL n i M).length = n:=by simp [dgL]
theorem dgL_at {n i j:Nat} {M:Mat} (hj:j < n):(dgL n i M)[j]? = some (if j < i then gM M j j else false):=by
 unfold dgL
 rw [List.getElem?_map,List.getElem?_range hj]
 rfl
theorem dgL_zero (n:Nat) (M:Mat):dgL n 0 M = List.replicate n false:=by
 unfold dgL
 simp only [Nat.not_lt_zero,if_false]
 rw [List.map_const',List.length_range]
theorem dgL_set {n i:Nat} {M:Mat} (hi:i < n):(dgL n i M).set i (gM M i i) = dgL n (i + 1) M:=by
 apply List.ext_getElem?
 intro j
 rw [List.getElem?_set]
 by_cases hij:i = j
 ·subst hij
  rw [if_pos rfl,if_pos (by rw [dgL_len];exact hi),dgL_at hi,if_pos (by omega)]
 ·rw [if_neg hij]
  rcases Nat.lt_or_ge j n with hj | hj
  ·rw [dgL_at hj,dgL_at hj]
   by_cases h1:j < i
   ·rw [if_pos h1,if_pos (by omega)]
   ·rw [if_neg h1,if_neg (by omega)]
  ·rw [List.getElem?_eq_none (by rw [dgL_len];exact hj),List.getElem?_eq_none (by rw [dgL_len];exact hj)]
theorem dgL_all {n:Nat} {E:List (Nat × Nat)}:dgL n n (cirK n (arcM E (List.replicate n (List.replicate n false))) (List.range n)) = cirF n E:=by
 unfold dgL cirF
 apply List.map_congr_left
 intro i hi
 rw [if_pos (List.mem_range.1 hi)]
set_option maxRecDepth 100000 in
set_option maxHeartbeats 3200000 in
theorem law_circles (n:Nat) (A:Option Addr) (m c:Nat) (E:List (Nat × Nat)) (w:World) (hn:n ≤ 4096) (hl:E.length = m) (hm:m ≤ 1000000) (hr:RdR 2 arcC w w.heap.size A E) (hE:∀ p ∈ E,p.1 < n∧p.2 < n) :
  Calls Tryz.prog 29 #[.int .i64 (n:Int),.slice A m c] w fun e w'=>∃ ob:Nat,e = .returned (.slice (some ⟨ob,0,none⟩) n n)∧w.heap.size ≤ ob∧Blk w' ob 4 (bvl (cirF n E))∧Below w.heap.size w w':=by
 have hm1:∀ W:World,(Instr.makeSlice 113 (.int .i64 (n:Int)) (.int .i64 (n:Int))).run Tryz.prog W = .ok (.slice (some ⟨W.heap.size,0,none⟩) n n) (W.alloc (.cells (madeCells #[.slice none 0 0] n) 86)):=fun W=>run_make_row' 113 86 (.slice none 0 0) 24 Tryz.underlying113 bls_info rfl .i64 .i64 n (by omega) (by omega) W
 have hm2:∀ W:World,(Instr.makeSlice 86 (.int .i64 (n:Int)) (.int .i64 (n:Int))).run Tryz.prog W = .ok (.slice (some ⟨W.heap.size,0,none⟩) n n) (W.alloc (.cells (madeCells #[.bool false] n) 4)):=fun W=>run_make_row' 86 4 (.bool false) 1 Tryz.underlying86 bool_info rfl .i64 .i64 n (by omega) (by omega) W
 have HL:=Lib.hid hl
 have HR:=Lib.hid hr
 have HE:=Lib.hid hE
 have HP0:=Lib.hid (MatP.start w n)
 clear hl hr hE
 go_enter Tryz.func29,Tryz.ntmps29
 go_wp2
 go_loopw [6,18] (fun s6 s18 wr=>∃ (i:Nat) (v6:Value),s6 = v6∧s18 = .int .i64 i∧i ≤ n∧Hid (MatP w wr n i)) (fun _ s18 _=>n - (intOf s18).toNat)
 case atStart=>exact ⟨0,_,rfl,rfl,Nat.zero_le _,HP0⟩
 case round =>
  clear HP0
  obtain ⟨i,v6,rfl,rfl,hi,HP⟩:=hrel
  by_cases hlt:i < n
  ·have b1:(i:Int) < (n:Int):=by omega
   have g1:wr.cell? ⟨w.heap.size,i,none⟩ = some (.slice none 0 0):=HP.out.ob.cell (by rw [rwsB_at hlt,if_neg (Nat.lt_irrefl _)])
   have g2:wr.frozen? ⟨w.heap.size,i,none⟩ = false:=HP.out.ob.free _
   have g3:w.heap.size < wr.heap.size:=HP.out.ob.lt
   have HP2:=Lib.hid (HP.out.step hlt)
   go_wp2
   go_roundw
   case rel=>exact ⟨i + 1,_,rfl,by go_num,by omega,HP2⟩
   case measure=>simp [intOf];omega
  obtain rfl:i = n:=by omega
  have b1:¬ (i:Int) < (i:Int):=by omega
  have HM:=Lib.hid HP.out.done
  obtain ⟨Z,hZ⟩:∃ Z,List.replicate i (List.replicate i false) = Z:=⟨_,rfl⟩
  have HZ:=Lib.hid hZ
  have HM0:=Lib.hid (show MatB w wr i (arcM (E.take 0) Z) by rw [← HZ.out];exact HM.out)
  clear HM HP hZ
  go_wp2
  go_loopw [8,29] (fun s8 s29 wr=>∃ (k:Nat) (v8:Value),s8 = v8∧s29 = .int .i64 k∧k ≤ m∧Hid (MatB w wr i (arcM (E.take k) Z))) (fun _ s29 _=>m - (intOf s29).toNat)
  case atStart=>exact ⟨0,_,rfl,rfl,Nat.zero_le _,HM0⟩
  case round =>
   clear HM0
   obtain ⟨k,v8,rfl,rfl,hk,HM⟩:=hrel
   by_cases hlt:k < m
   ·have b2:(k:Int) < (m:Int):=by omega
    obtain ⟨ad,p,rfl,hab,hp,hcl⟩:=(HR.out.keep (fun q hq=>HM.out.bel.cell hq)).get (k:=k) (by rw [HL.out];exact hlt)
    have c0:wr.cell? (ad.add (k * 2)) = some (.int .i64 (p.1:Int)):=hcl 0 _ rfl
    have c1:wr.cell? ⟨(ad.add (k * 2)).block,(ad.add (k * 2)).off + 1,none⟩ = some (.int .i64 (p.2:Int)):=ev_cells (j:=0) (hcl 1 _ rfl)
    obtain ⟨hp1,hp2⟩:=HE.out p (List.mem_of_getElem? hp)
    obtain ⟨p1,p2⟩:=p
    dsimp only at c0 c1 hp1 hp2
    have HAM:=Lib.hid (arcM_at (M:=Z) hp)
    dsimp only at HAM
    obtain ⟨Mk,hMk⟩:∃ M,arcM (E.take k) Z = M:=⟨_,rfl⟩
    rw [hMk] at HAM HM
    have hbx:=box_below wr (.cells #[.int .i64 (p1:Int),.int .i64 (p2:Int)] 85)
    have kx:Blk (wr.alloc (.cells #[.int .i64 (p1:Int),.int .i64 (p2:Int)] 85)) wr.heap.size 85 [.int .i64 (p1:Int),.int .i64 (p2:Int)]:=Blk.new _ _ [_,_]
    have HM5:=Lib.hid (HM.out.quiet hbx)
    have HNE:=Lib.hid (HM.out.lt hp1)
    go_upto_region 10 with fail
    clear c0 c1 hcl hab hp hMk
    generalize wr.heap.size = bx at kx HNE ⊢
    generalize wr.alloc (.cells #[.int .i64 (p1:Int),.int .i64 (p2:Int)] 85) = w5 at kx hbx HM5 ⊢
    have kx2:=kx.below (below_dr w5) kx.lt
    have HMD:=Lib.hid (HM5.out.quiet (below_dr w5))
    clear HM HM5 hbx kx
    refine wp_region_U (fun W=>(W.cell? ⟨bx,0,none⟩ = some (.int .i64 (p1:Int))∧W.cell? ⟨bx,1,none⟩ = some (.int .i64 (p2:Int)))∧W.cell? ⟨w.heap.size,p1,none⟩ = some (.slice (some ⟨w.heap.size + 1 + p1,0,none⟩) i i)) (fun _=>True) 8 (by kernel_rfl) ?_
    change anyU _ _ _ _ _ _ _ 9 _ _ _
    generalize w5.drew = wd at kx2 HMD ⊢
    have hB0:True:=trivial
    have hA0:(wd.cell? ⟨bx,0,none⟩ = some (.int .i64 (p1:Int))∧wd.cell? ⟨bx,1,none⟩ = some (.int .i64 (p2:Int)))∧wd.cell? ⟨w.heap.size,p1,none⟩ = some (.slice (some ⟨w.heap.size + 1 + p1,0,none⟩) i i):=⟨⟨kx2.cell (j:=0) rfl,kx2.cell (j:=1) rfl⟩,HMD.out.row hp1⟩
    obtain ⟨qb,g9⟩:∃ q,wd.cell? ⟨w.heap.size + 1 + p1,p2,none⟩ = some (.bool q):=⟨_,HMD.out.bit hp1 hp2⟩
    have g7:wd.frozen? ⟨w.heap.size + 1 + p1,p2,none⟩ = false:=(HMD.out.rw p1 hp1).free _
    have g8:w.heap.size + 1 + p1 < wd.heap.size:=HMD.out.lt hp1
    have HM9:=Lib.hid (show MatB w (wd.setCell ⟨w.heap.size + 1 + p1,p2,none⟩ (.bool true)) i (arcM (E.take (k + 1)) Z) by rw [HAM.out];exact HMD.out.set hp1 hp2 true)
    have kx3:=kx2.kept (grown_setCell wd (w.heap.size + 1 + p1) p2 (.bool true)) (by have:=HNE.out;intro e;injection e with e;omega)
    have hAF:((wd.setCell ⟨w.heap.size + 1 + p1,p2,none⟩ (.bool true)).cell? ⟨bx,0,none⟩ = some (.int .i64 (p1:Int))∧(wd.setCell ⟨w.heap.size + 1 + p1,p2,none⟩ (.bool true)).cell? ⟨bx,1,none⟩ = some (.int .i64 (p2:Int)))∧(wd.setCell ⟨w.heap.size + 1 + p1,p2,none⟩ (.bool true)).cell? ⟨w.heap.size,p1,none⟩ = some (.slice (some ⟨w.heap.size + 1 + p1,0,none⟩) i i):=⟨⟨kx3.cell (j:=0) rfl,kx3.cell (j:=1) rfl⟩,HM9.out.row hp1⟩
    clear kx2 kx3
    (refine uA 0 ?_ rfl hA0 hB0 (fun W hA=>?_) ?_;rotate_left;(· (go_simp;try with_reducible rfl));refine uA 1 ?_ rfl hA0 hB0 (fun W hA=>?_) ?_;rotate_left;(· (go_simp;try with_reducible rfl));(try simp only [Act.put,List.setIfInBounds_toArray,List.set_cons_zero,List.set_cons_succ]))
    (refine uA 2 ?_ rfl hA0 hB0 (fun W hA=>?_) ?_;rotate_left;(· (obtain ⟨⟨a0,a1⟩,a2⟩:=hA;go_simp;try with_reducible rfl));(try simp only [Act.put,List.setIfInBounds_toArray,List.set_cons_zero,List.set_cons_succ]))
    (refine uA 3 ?_ rfl hA0 hB0 (fun W hA=>?_) ?_;rotate_left;(· (go_simp;try with_reducible rfl));(try simp only [Act.put,List.setIfInBounds_toArray,List.set_cons_zero,List.set_cons_succ]))
    (refine uA 4 ?_ rfl hA0 hB0 (fun W hA=>?_) ?_;rotate_left;(· (obtain ⟨⟨a0,a1⟩,a2⟩:=hA;go_simp;try with_reducible rfl));(try simp only [Act.put,List.setIfInBounds_toArray,List.set_cons_zero,List.set_cons_succ]))
    (refine uA 5 ?_ rfl hA0 hB0 (fun W hA=>?_) ?_;rotate_left;(· (go_simp;try with_reducible rfl));(try simp only [Act.put,List.setIfInBounds_toArray,List.set_cons_zero,List.set_cons_succ]))
    (refine uA 6 ?_ rfl hA0 hB0 (fun W hA=>?_) ?_;rotate_left;(· (obtain ⟨⟨a0,a1⟩,a2⟩:=hA;go_simp;try with_reducible rfl));(try simp only [Act.put,List.setIfInBounds_toArray,List.set_cons_zero,List.set_cons_succ]))
    (refine uA 7 ?_ rfl hA0 hB0 (fun W hA=>?_) ?_;rotate_left;(· (go_simp;try with_reducible rfl));(try simp only [Act.put,List.setIfInBounds_toArray,List.set_cons_zero,List.set_cons_succ]))
    refine uOne (i:=8) rfl (by kernel_rfl) (fun K hK=>?_)
    go_simp
    (refine hK _ _ ⟨hAF,fun _=>hB0⟩ ?_;clear hK K;(try simp only [Act.put,List.setIfInBounds_toArray,List.set_cons_zero,List.set_cons_succ]))
    refine anyU_done (by kernel_rfl) ?_ _
    clear hA0 hB0 hAF g7 g8 g9
    go_wp2
    go_roundw
    case rel=>exact ⟨k + 1,_,rfl,by go_num,by omega,HM9⟩
    case measure=>simp [intOf];omega
   obtain rfl:k = m:=by omega
   have b2:¬ (k:Int) < (k:Int):=by omega
   obtain ⟨Y,hY⟩:∃ Y,arcM E Z = Y:=⟨_,rfl⟩
   have HY:=Lib.hid hY
   have HM0:=Lib.hid (show MatB w wr i (cirK i Y (List.range 0)) by have:=HM.out;rw [List.take_of_length_le (by rw [HL.out];exact Nat.le_refl _),hY] at this;exact this)
   clear HM hY
   go_wp2
   go_loopw [9,10,11,43] (fun s9 s10 s11 s43 wr=>∃ (k:Nat) (v9 v10 v11:Value),s9 = v9∧s10 = v10∧s11 = v11∧s43 = .int .i64 k∧k ≤ i∧Hid (MatB w wr i (cirK i Y (List.range k)))) (fun _ _ _ s43 _=>i - (intOf s43).toNat)
   case atStart=>exact ⟨0,_,_,_,rfl,rfl,rfl,rfl,Nat.zero_le _,HM0⟩
   case round =>
    clear HM0
    obtain ⟨k,v9,v10,v11,rfl,rfl,rfl,rfl,hk,HM⟩:=hrel
    by_cases hlt:k < i
    ·have b3:(k:Int) < (i:Int):=by omega
     have HCK:=Lib.hid (cirK_at (n:=i) (k:=k) (M:=Y))
     obtain ⟨X,hX⟩:∃ X,cirK i Y (List.range k) = X:=⟨_,rfl⟩
     rw [hX] at HCK HM
     have HM0:=Lib.hid (show MatB w wr i (cirI k i X (List.range 0)) from HM.out)
     clear HM hX
     go_wp2
     go_loopw [10,11,47] (fun s10 s11 s47 wr=>∃ (r:Nat) (v10 v11:Value),s10 = v10∧s11 = v11∧s47 = .int .i64 r∧r ≤ i∧Hid (MatB w wr i (cirI k i X (List.range r)))) (fun _ _ s47 _=>i - (intOf s47).toNat)
     case atStart=>exact ⟨0,_,_,rfl,rfl,rfl,Nat.zero_le _,HM0⟩
     case round =>
      clear HM0
      obtain ⟨r,v10,v11,rfl,rfl,rfl,hr,HM⟩:=hrel
      by_cases hlr:r < i
      ·have b4:(r:Int) < (i:Int):=by omega
       have HCI:=Lib.hid (cirI_at (n:=i) (k:=k) (i:=r) (M:=X))
       obtain ⟨V,hV⟩:∃ V,cirI k i X (List.range r) = V:=⟨_,rfl⟩
       rw [hV] at HCI HM
       have HM0:=Lib.hid (show MatB w wr i (cirJ k r V (List.range 0)) from HM.out)
       clear HM hV
       go_wp2
       go_loopw [11,51] (fun s11 s51 wr=>∃ (j:Nat) (v11:Value),s51 = .int .i64 j∧s11 = v11∧j ≤ i∧Hid (MatB w wr i (cirJ k r V (List.range j)))) (fun _ s51 _=>i - (intOf s51).toNat)
       case atStart=>exact ⟨0,_,rfl,rfl,Nat.zero_le _,HM0⟩
       case round =>
        clear HM0
        obtain ⟨j,v11,rfl,rfl,hj,HM⟩:=hrel
        by_cases hlj:j < i
        ·have b5:(j:Int) < (i:Int):=by omega
         have HCJ:=Lib.hid (cirJ_at (k:=k) (i:=r) (j:=j) (M:=V))
         obtain ⟨U,hU⟩:∃ U,cirJ k r V (List.range j) = U:=⟨_,rfl⟩
         rw [hU] at HCJ HM
         clear hU
         go_upto_region 21 with fail
         refine wp_region_U (fun W=>W.cell? ⟨w.heap.size,r,none⟩ = some (.slice (some ⟨w.heap.size + 1 + r,0,none⟩) i i)∧W.cell? ⟨w.heap.size,k,none⟩ = some (.slice (some ⟨w.heap.size + 1 + k,0,none⟩) i i)) (fun W=>W.cell? ⟨w.heap.size + 1 + r,j,none⟩ = some (.bool (gM U r j))∧W.cell? ⟨w.heap.size + 1 + r,k,none⟩ = some (.bool (gM U r k))∧W.cell? ⟨w.heap.size + 1 + k,j,none⟩ = some (.bool (gM U k j))) 31 (by kernel_rfl) ?_
         change anyU _ _ _ _ _ _ _ 32 _ _ _
         have HMD:=Lib.hid (HM.out.quiet (below_dr wr))
         clear HM
         generalize wr.drew = wd at HMD ⊢
         have hA0:wd.cell? ⟨w.heap.size,r,none⟩ = some (.slice (some ⟨w.heap.size + 1 + r,0,none⟩) i i)∧wd.cell? ⟨w.heap.size,k,none⟩ = some (.slice (some ⟨w.heap.size + 1 + k,0,none⟩) i i):=⟨HMD.out.row hlr,HMD.out.row hlt⟩
         have hB0:wd.cell? ⟨w.heap.size + 1 + r,j,none⟩ = some (.bool (gM U r j))∧wd.cell? ⟨w.heap.size + 1 + r,k,none⟩ = some (.bool (gM U r k))∧wd.cell? ⟨w.heap.size + 1 + k,j,none⟩ = some (.bool (gM U k j)):=⟨HMD.out.bit hlr hlj,HMD.out.bit hlr hlt,HMD.out.bit hlt hlj⟩
         have g9:=hB0.1
         have g7:wd.frozen? ⟨w.heap.size + 1 + r,j,none⟩ = false:=(HMD.out.rw r hlr).free _
         have g8:w.heap.size + 1 + r < wd.heap.size:=HMD.out.lt hlr
         have HST:=Lib.hid (fun v=>HMD.out.set hlr hlj v)
         obtain ⟨q1,hq1⟩:∃ q,gM U r j = q:=⟨_,rfl⟩
         obtain ⟨q2,hq2⟩:∃ q,gM U r k = q:=⟨_,rfl⟩
         obtain ⟨q3,hq3⟩:∃ q,gM U k j = q:=⟨_,rfl⟩
         rw [hq1,hq2,hq3] at HCJ hB0 ⊢
         rw [hq1] at g9
         have HM9:=Lib.hid (show MatB w (wd.setCell ⟨w.heap.size + 1 + r,j,none⟩ (.bool (q1 || q2 && q3))) i (cirJ k r V (List.range (j + 1))) by rw [HCJ.out];exact HST.out _)
         have hAF:(wd.setCell ⟨w.heap.size + 1 + r,j,none⟩ (.bool (q1 || q2 && q3))).cell? ⟨w.heap.size,r,none⟩ = some (.slice (some ⟨w.heap.size + 1 + r,0,none⟩) i i)∧(wd.setCell ⟨w.heap.size + 1 + r,j,none⟩ (.bool (q1 || q2 && q3))).cell? ⟨w.heap.size,k,none⟩ = some (.slice (some ⟨w.heap.size + 1 + k,0,none⟩) i i):=⟨HM9.out.row hlr,HM9.out.row hlt⟩
         have g10:True:=trivial
         clear hq1 hq2 hq3 HST HMD HCJ
         cases q1 with
         | true =>
          (refine uA 0 ?_ rfl hA0 hB0 (fun W hA=>?_) ?_;rotate_left;(· (go_simp;try with_reducible rfl));refine uA 1 ?_ rfl hA0 hB0 (fun W hA=>?_) ?_;rotate_left;(· (go_simp;try with_reducible rfl));refine uA 2 ?_ rfl hA0 hB0 (fun W hA=>?_) ?_;rotate_left;(· (go_simp;try with_reducible rfl));(try simp only [Act.put,List.setIfInBounds_toArray,List.set_cons_zero,List.set_cons_succ]))
          (refine uA 3 ?_ rfl hA0 hB0 (fun W hA=>?_) ?_;rotate_left;(· (obtain ⟨a0,a1⟩:=hA;go_simp;try with_reducible rfl));(try simp only [Act.put,List.setIfInBounds_toArray,List.set_cons_zero,List.set_cons_succ]))
          (refine uA 4 ?_ rfl hA0 hB0 (fun W hA=>?_) ?_;rotate_left;(· (go_simp;try with_reducible rfl));refine uA 5 ?_ rfl hA0 hB0 (fun W hA=>?_) ?_;rotate_left;(· (go_simp;try with_reducible rfl));refine uA 6 ?_ rfl hA0 hB0 (fun W hA=>?_) ?_;rotate_left;(· (go_simp;try with_reducible rfl));refine uA 7 ?_ rfl hA0 hB0 (fun W hA=>?_) ?_;rotate_left;(· (go_simp;try with_reducible rfl));(try simp only [Act.put,List.setIfInBounds_toArray,List.set_cons_zero,List.set_cons_succ]))
          (refine uA 8 ?_ rfl hA0 hB0 (fun W hA=>?_) ?_;rotate_left;(· (obtain ⟨a0,a1⟩:=hA;go_simp;try with_reducible rfl));(try simp only [Act.put,List.setIfInBounds_toArray,List.set_cons_zero,List.set_cons_succ]))
          (refine uA 9 ?_ rfl hA0 hB0 (fun W hA=>?_) ?_;rotate_left;(· (go_simp;try with_reducible rfl));refine uA 10 ?_ rfl hA0 hB0 (fun W hA=>?_) ?_;rotate_left;(· (go_simp;try with_reducible rfl));(try simp only [Act.put,List.setIfInBounds_toArray,List.set_cons_zero,List.set_cons_succ]))
          (refine uB 11 ?_ rfl hA0 hB0 (fun W hA hB=>?_) ?_;rotate_left;(· (obtain ⟨b0,b1,b2⟩:=hB;go_simp;try with_reducible rfl));(try simp only [Act.put,List.setIfInBounds_toArray,List.set_cons_zero,List.set_cons_succ]))
          (refine uA 12 ?_ rfl hA0 hB0 (fun W hA=>?_) ?_;rotate_left;(· (go_simp;try with_reducible rfl));(try simp only [Act.put,List.setIfInBounds_toArray,List.set_cons_zero,List.set_cons_succ]))
          (refine uS 13 rfl hA0 hB0 ?_;refine uS 14 rfl hA0 hB0 ?_;refine uS 15 rfl hA0 hB0 ?_;(try simp only [Act.put,List.setIfInBounds_toArray,List.set_cons_zero,List.set_cons_succ]))
          (refine uS 16 rfl hA0 hB0 ?_;refine uS 17 rfl hA0 hB0 ?_;refine uS 18 rfl hA0 hB0 ?_;(try simp only [Act.put,List.setIfInBounds_toArray,List.set_cons_zero,List.set_cons_succ]))
          (refine uS 19 rfl hA0 hB0 ?_;refine uS 20 rfl hA0 hB0 ?_;refine uS 21 rfl hA0 hB0 ?_;(try simp only [Act.put,List.setIfInBounds_toArray,List.set_cons_zero,List.set_cons_succ]))
          (refine uS 22 rfl hA0 hB0 ?_;refine uS 23 rfl hA0 hB0 ?_;refine uS 24 rfl hA0 hB0 ?_;(try simp only [Act.put,List.setIfInBounds_toArray,List.set_cons_zero,List.set_cons_succ]))
          (refine uS 25 rfl hA0 hB0 ?_;refine uS 26 rfl hA0 hB0 ?_;refine uS 27 rfl hA0 hB0 ?_;(try simp only [Act.put,List.setIfInBounds_toArray,List.set_cons_zero,List.set_cons_succ]))
          (refine uS 28 rfl hA0 hB0 ?_;(try simp only [Act.put,List.setIfInBounds_toArray,List.set_cons_zero,List.set_cons_succ]))
          (refine uA 29 ?_ rfl hA0 hB0 (fun W hA=>?_) ?_;rotate_left;(· (go_simp;try with_reducible rfl));refine uA 30 ?_ rfl hA0 hB0 (fun W hA=>?_) ?_;rotate_left;(· (go_simp;try with_reducible rfl));(try simp only [Act.put,List.setIfInBounds_toArray,List.set_cons_zero,List.set_cons_succ]))
          refine uOne (i:=31) rfl (by kernel_rfl) (fun K hK=>?_)
          go_simp
          (refine hK _ _ ⟨hAF,fun h=>absurd (h.symm.trans (by kernel_rfl:_ = true)) Bool.false_ne_true⟩ ?_;clear hK K;(try simp only [Act.put,List.setIfInBounds_toArray,List.set_cons_zero,List.set_cons_succ]))
          refine anyU_done (by kernel_rfl) ?_ _
          clear hA0 hB0 hAF g7 g8 g9 g10
          go_wp2
          go_roundw
          case rel=>exact ⟨j + 1,_,by go_num,rfl,by omega,HM9⟩
          case measure=>simp [intOf];omega
         | false =>
          cases q2 with
          | false =>
           (refine uA 0 ?_ rfl hA0 hB0 (fun W hA=>?_) ?_;rotate_left;(· (go_simp;try with_reducible rfl));refine uA 1 ?_ rfl hA0 hB0 (fun W hA=>?_) ?_;rotate_left;(· (go_simp;try with_reducible rfl));refine uA 2 ?_ rfl hA0 hB0 (fun W hA=>?_) ?_;rotate_left;(· (go_simp;try with_reducible rfl));(try simp only [Act.put,List.setIfInBounds_toArray,List.set_cons_zero,List.set_cons_succ]))
           (refine uA 3 ?_ rfl hA0 hB0 (fun W hA=>?_) ?_;rotate_left;(· (obtain ⟨a0,a1⟩:=hA;go_simp;try with_reducible rfl));(try simp only [Act.put,List.setIfInBounds_toArray,List.set_cons_zero,List.set_cons_succ]))
           (refine uA 4 ?_ rfl hA0 hB0 (fun W hA=>?_) ?_;rotate_left;(· (go_simp;try with_reducible rfl));refine uA 5 ?_ rfl hA0 hB0 (fun W hA=>?_) ?_;rotate_left;(· (go_simp;try with_reducible rfl));refine uA 6 ?_ rfl hA0 hB0 (fun W hA=>?_) ?_;rotate_left;(· (go_simp;try with_reducible rfl));refine uA 7 ?_ rfl hA0 hB0 (fun W hA=>?_) ?_;rotate_left;(· (go_simp;try with_reducible rfl));(try simp only [Act.put,List.setIfInBounds_toArray,List.set_cons_zero,List.set_cons_succ]))
           (refine uA 8 ?_ rfl hA0 hB0 (fun W hA=>?_) ?_;rotate_left;(· (obtain ⟨a0,a1⟩:=hA;go_simp;try with_reducible rfl));(try simp only [Act.put,List.setIfInBounds_toArray,List.set_cons_zero,List.set_cons_succ]))
           (refine uA 9 ?_ rfl hA0 hB0 (fun W hA=>?_) ?_;rotate_left;(· (go_simp;try with_reducible rfl));refine uA 10 ?_ rfl hA0 hB0 (fun W hA=>?_) ?_;rotate_left;(· (go_simp;try with_reducible rfl));(try simp only [Act.put,List.setIfInBounds_toArray,List.set_cons_zero,List.set_cons_succ]))
           (refine uB 11 ?_ rfl hA0 hB0 (fun W hA hB=>?_) ?_;rotate_left;(· (obtain ⟨b0,b1,b2⟩:=hB;go_simp;try with_reducible rfl));(try simp only [Act.put,List.setIfInBounds_toArray,List.set_cons_zero,List.set_cons_succ]))
           (refine uA 12 ?_ rfl hA0 hB0 (fun W hA=>?_) ?_;rotate_left;(· (go_simp;try with_reducible rfl));refine uA 13 ?_ rfl hA0 hB0 (fun W hA=>?_) ?_;rotate_left;(· (go_simp;try with_reducible rfl));refine uA 14 ?_ rfl hA0 hB0 (fun W hA=>?_) ?_;rotate_left;(· (go_simp;try with_reducible rfl));refine uA 15 ?_ rfl hA0 hB0 (fun W hA=>?_) ?_;rotate_left;(· (go_simp;try with_reducible rfl));(try simp only [Act.put,List.setIfInBounds_toArray,List.set_cons_zero,List.set_cons_succ]))
           (refine uA 16 ?_ rfl hA0 hB0 (fun W hA=>?_) ?_;rotate_left;(· (obtain ⟨a0,a1⟩:=hA;go_simp;try with_reducible rfl));(try simp only [Act.put,List.setIfInBounds_toArray,List.set_cons_zero,List.set_cons_succ]))
           (refine uA 17 ?_ rfl hA0 hB0 (fun W hA=>?_) ?_;rotate_left;(· (go_simp;try with_reducible rfl));refine uA 18 ?_ rfl hA0 hB0 (fun W hA=>?_) ?_;rotate_left;(· (go_simp;try with_reducible rfl));(try simp only [Act.put,List.setIfInBounds_toArray,List.set_cons_zero,List.set_cons_succ]))
           (refine uB 19 ?_ rfl hA0 hB0 (fun W hA hB=>?_) ?_;rotate_left;(· (obtain ⟨b0,b1,b2⟩:=hB;go_simp;try with_reducible rfl));(try simp only [Act.put,List.setIfInBounds_toArray,List.set_cons_zero,List.set_cons_succ]))
           (refine uA 20 ?_ rfl hA0 hB0 (fun W hA=>?_) ?_;rotate_left;(· (go_simp;try with_reducible rfl));(try simp only [Act.put,List.setIfInBounds_toArray,List.set_cons_zero,List.set_cons_succ]))
           (refine uS 21 rfl hA0 hB0 ?_;refine uS 22 rfl hA0 hB0 ?_;refine uS 23 rfl hA0 hB0 ?_;(try simp only [Act.put,List.setIfInBounds_toArray,List.set_cons_zero,List.set_cons_succ]))
           (refine uS 24 rfl hA0 hB0 ?_;refine uS 25 rfl hA0 hB0 ?_;refine uS 26 rfl hA0 hB0 ?_;(try simp only [Act.put,List.setIfInBounds_toArray,List.set_cons_zero,List.set_cons_succ]))
           (refine uS 27 rfl hA0 hB0 ?_;(try simp only [Act.put,List.setIfInBounds_toArray,List.set_cons_zero,List.set_cons_succ]))
           (refine uA 28 ?_ rfl hA0 hB0 (fun W hA=>?_) ?_;rotate_left;(· (go_simp;try with_reducible rfl));refine uA 29 ?_ rfl hA0 hB0 (fun W hA=>?_) ?_;rotate_left;(· (go_simp;try with_reducible rfl));refine uA 30 ?_ rfl hA0 hB0 (fun W hA=>?_) ?_;rotate_left;(· (go_simp;try with_reducible rfl));(try simp only [Act.put,List.setIfInBounds_toArray,List.set_cons_zero,List.set_cons_succ]))
           refine uOne (i:=31) rfl (by kernel_rfl) (fun K hK=>?_)
           go_simp
           (refine hK _ _ ⟨hAF,fun h=>absurd (h.symm.trans (by kernel_rfl:_ = true)) Bool.false_ne_true⟩ ?_;clear hK K;(try simp only [Act.put,List.setIfInBounds_toArray,List.set_cons_zero,List.set_cons_succ]))
           refine anyU_done (by kernel_rfl) ?_ _
           clear hA0 hB0 hAF g7 g8 g9 g10
           go_wp2
           go_roundw
           case rel=>exact ⟨j + 1,_,by go_num,rfl,by omega,HM9⟩
           case measure=>simp [intOf];omega
          | true =>
           (refine uA 0 ?_ rfl hA0 hB0 (fun W hA=>?_) ?_;rotate_left;(· (go_simp;try with_reducible rfl));refine uA 1 ?_ rfl hA0 hB0 (fun W hA=>?_) ?_;rotate_left;(· (go_simp;try with_reducible rfl));refine uA 2 ?_ rfl hA0 hB0 (fun W hA=>?_) ?_;rotate_left;(· (go_simp;try with_reducible rfl));(try simp only [Act.put,List.setIfInBounds_toArray,List.set_cons_zero,List.set_cons_succ]))
           (refine uA 3 ?_ rfl hA0 hB0 (fun W hA=>?_) ?_;rotate_left;(· (obtain ⟨a0,a1⟩:=hA;go_simp;try with_reducible rfl));(try simp only [Act.put,List.setIfInBounds_toArray,List.set_cons_zero,List.set_cons_succ]))
           (refine uA 4 ?_ rfl hA0 hB0 (fun W hA=>?_) ?_;rotate_left;(· (go_simp;try with_reducible rfl));refine uA 5 ?_ rfl hA0 hB0 (fun W hA=>?_) ?_;rotate_left;(· (go_simp;try with_reducible rfl));refine uA 6 ?_ rfl hA0 hB0 (fun W hA=>?_) ?_;rotate_left;(· (go_simp;try with_reducible rfl));refine uA 7 ?_ rfl hA0 hB0 (fun W hA=>?_) ?_;rotate_left;(· (go_simp;try with_reducible rfl));(try simp only [Act.put,List.setIfInBounds_toArray,List.set_cons_zero,List.set_cons_succ]))
           (refine uA 8 ?_ rfl hA0 hB0 (fun W hA=>?_) ?_;rotate_left;(· (obtain ⟨a0,a1⟩:=hA;go_simp;try with_reducible rfl));(try simp only [Act.put,List.setIfInBounds_toArray,List.set_cons_zero,List.set_cons_succ]))
           (refine uA 9 ?_ rfl hA0 hB0 (fun W hA=>?_) ?_;rotate_left;(· (go_simp;try with_reducible rfl));refine uA 10 ?_ rfl hA0 hB0 (fun W hA=>?_) ?_;rotate_left;(· (go_simp;try with_reducible rfl));(try simp only [Act.put,List.setIfInBounds_toArray,List.set_cons_zero,List.set_cons_succ]))
           (refine uB 11 ?_ rfl hA0 hB0 (fun W hA hB=>?_) ?_;rotate_left;(· (obtain ⟨b0,b1,b2⟩:=hB;go_simp;try with_reducible rfl));(try simp only [Act.put,List.setIfInBounds_toArray,List.set_cons_zero,List.set_cons_succ]))
           (refine uA 12 ?_ rfl hA0 hB0 (fun W hA=>?_) ?_;rotate_left;(· (go_simp;try with_reducible rfl));refine uA 13 ?_ rfl hA0 hB0 (fun W hA=>?_) ?_;rotate_left;(· (go_simp;try with_reducible rfl));refine uA 14 ?_ rfl hA0 hB0 (fun W hA=>?_) ?_;rotate_left;(· (go_simp;try with_reducible rfl));refine uA 15 ?_ rfl hA0 hB0 (fun W hA=>?_) ?_;rotate_left;(· (go_simp;try with_reducible rfl));(try simp only [Act.put,List.setIfInBounds_toArray,List.set_cons_zero,List.set_cons_succ]))
           (refine uA 16 ?_ rfl hA0 hB0 (fun W hA=>?_) ?_;rotate_left;(· (obtain ⟨a0,a1⟩:=hA;go_simp;try with_reducible rfl));(try simp only [Act.put,List.setIfInBounds_toArray,List.set_cons_zero,List.set_cons_succ]))
           (refine uA 17 ?_ rfl hA0 hB0 (fun W hA=>?_) ?_;rotate_left;(· (go_simp;try with_reducible rfl));refine uA 18 ?_ rfl hA0 hB0 (fun W hA=>?_) ?_;rotate_left;(· (go_simp;try with_reducible rfl));(try simp only [Act.put,List.setIfInBounds_toArray,List.set_cons_zero,List.set_cons_succ]))
           (refine uB 19 ?_ rfl hA0 hB0 (fun W hA hB=>?_) ?_;rotate_left;(· (obtain ⟨b0,b1,b2⟩:=hB;go_simp;try with_reducible rfl));(try simp only [Act.put,List.setIfInBounds_toArray,List.set_cons_zero,List.set_cons_succ]))
           (refine uA 20 ?_ rfl hA0 hB0 (fun W hA=>?_) ?_;rotate_left;(· (go_simp;try with_reducible rfl));refine uA 21 ?_ rfl hA0 hB0 (fun W hA=>?_) ?_;rotate_left;(· (go_simp;try with_reducible rfl));refine uA 22 ?_ rfl hA0 hB0 (fun W hA=>?_) ?_;rotate_left;(· (go_simp;try with_reducible rfl));refine uA 23 ?_ rfl hA0 hB0 (fun W hA=>?_) ?_;rotate_left;(· (go_simp;try with_reducible rfl));(try simp only [Act.put,List.setIfInBounds_toArray,List.set_cons_zero,List.set_cons_succ]))
           (refine uA 24 ?_ rfl hA0 hB0 (fun W hA=>?_) ?_;rotate_left;(· (obtain ⟨a0,a1⟩:=hA;go_simp;try with_reducible rfl));(try simp only [Act.put,List.setIfInBounds_toArray,List.set_cons_zero,List.set_cons_succ]))
           (refine uA 25 ?_ rfl hA0 hB0 (fun W hA=>?_) ?_;rotate_left;(· (go_simp;try with_reducible rfl));refine uA 26 ?_ rfl hA0 hB0 (fun W hA=>?_) ?_;rotate_left;(· (go_simp;try with_reducible rfl));(try simp only [Act.put,List.setIfInBounds_toArray,List.set_cons_zero,List.set_cons_succ]))
           (refine uB 27 ?_ rfl hA0 hB0 (fun W hA hB=>?_) ?_;rotate_left;(· (obtain ⟨b0,b1,b2⟩:=hB;go_simp;try with_reducible rfl));(try simp only [Act.put,List.setIfInBounds_toArray,List.set_cons_zero,List.set_cons_succ]))
           (refine uA 28 ?_ rfl hA0 hB0 (fun W hA=>?_) ?_;rotate_left;(· (go_simp;try with_reducible rfl));refine uA 29 ?_ rfl hA0 hB0 (fun W hA=>?_) ?_;rotate_left;(· (go_simp;try with_reducible rfl));refine uA 30 ?_ rfl hA0 hB0 (fun W hA=>?_) ?_;rotate_left;(· (go_simp;try with_reducible rfl));(try simp only [Act.put,List.setIfInBounds_toArray,List.set_cons_zero,List.set_cons_succ]))
           refine uOne (i:=31) rfl (by kernel_rfl) (fun K hK=>?_)
           go_simp
           (refine hK _ _ ⟨hAF,fun h=>absurd (h.symm.trans (by kernel_rfl:_ = true)) Bool.false_ne_true⟩ ?_;clear hK K;(try simp only [Act.put,List.setIfInBounds_toArray,List.set_cons_zero,List.set_cons_succ]))
           refine anyU_done (by kernel_rfl) ?_ _
           clear hA0 hB0 hAF g7 g8 g9 g10
           go_wp2
           go_roundw
           case rel=>exact ⟨j + 1,_,by go_num,rfl,by omega,HM9⟩
           case measure=>simp [intOf];omega
        obtain rfl:j = i:=by omega
        have b5:¬ (j:Int) < (j:Int):=by omega
        have HM9:=Lib.hid (show MatB w wr j (cirI k j X (List.range (r + 1))) by rw [HCI.out];exact HM.out)
        go_wp2
        go_roundw
        case rel=>exact ⟨r + 1,_,_,rfl,rfl,by go_num,by omega,HM9⟩
        case measure=>simp [intOf];omega
      obtain rfl:r = i:=by omega
      have b4:¬ (r:Int) < (r:Int):=by omega
      have HM9:=Lib.hid (show MatB w wr r (cirK r Y (List.range (k + 1))) by rw [HCK.out];exact HM.out)
      go_wp2
      go_roundw
      case rel=>exact ⟨k + 1,_,_,_,rfl,rfl,rfl,by go_num,by omega,HM9⟩
      case measure=>simp [intOf];omega
    obtain rfl:k = i:=by omega
    have b3:¬ (k:Int) < (k:Int):=by omega
    obtain ⟨X,hX⟩:∃ X,cirK k Y (List.range k) = X:=⟨_,rfl⟩
    have HX:=Lib.hid (show dgL k k X = cirF k E by rw [← hX,← HY.out,← HZ.out];exact dgL_all)
    rw [hX] at HM
    clear hX
    have HO0:=Lib.hid (show Blk (wr.alloc (.cells (madeCells #[.bool false] k) 4)) wr.heap.size 4 (bvl (dgL k 0 X)) by rw [dgL_zero,made_bools];exact Blk.new _ _ _)
    have HM0:=Lib.hid (HM.out.quiet (box_below wr (.cells (madeCells #[.bool false] k) 4)))
    have hob:w.heap.size + 1 + k ≤ wr.heap.size:=by
     rcases Nat.eq_zero_or_pos k with h0 | h0
     ·have:=HM.out.ob.lt;omega
     ·have:=HM.out.lt (i:=k - 1) (by omega);omega
    clear HM
    go_upto_region 26 with fail
    generalize wr.heap.size = ob at HO0 hob ⊢
    generalize wr.alloc (.cells (madeCells #[.bool false] k) 4) = w5 at HO0 HM0 ⊢
    go_wp2
    go_loopw [13,91] (fun s13 s91 wr=>∃ (r:Nat) (v13:Value),s91 = .int .i64 r∧s13 = v13∧r ≤ k∧Hid (Blk wr ob 4 (bvl (dgL k r X)))∧Hid (MatB w wr k X)) (fun _ s91 _=>k - (intOf s91).toNat)
    case atStart=>exact ⟨0,_,rfl,rfl,Nat.zero_le _,HO0,HM0⟩
    case round =>
     clear HO0 HM0
     obtain ⟨r,v13,rfl,rfl,hr,HO,HM⟩:=hrel
     by_cases hlr:r < k
     ·have b4:(r:Int) < (k:Int):=by omega
      have c1:=HM.out.row hlr
      have c2:=HM.out.bit hlr hlr
      have g9:wr.cell? ⟨ob,r,none⟩ = some (.bool false):=HO.out.cell (by rw [bvl_get,dgL_at hlr,if_neg (Nat.lt_irrefl _)];rfl)
      have g7:wr.frozen? ⟨ob,r,none⟩ = false:=HO.out.free _
      have g8:ob < wr.heap.size:=HO.out.lt
      have HO9:=Lib.hid (show Blk (wr.setCell ⟨ob,r,none⟩ (.bool (gM X r r))) ob 4 (bvl (dgL k (r + 1) X)) by
       rw [← dgL_set hlr,← bvl_set]
       exact HO.out.set (by rw [bvl_length,dgL_len];exact hlr) _)
      have hgs:=grown_setCell wr ob r (.bool (gM X r r))
      have HM9:=Lib.hid (show MatB w (wr.setCell ⟨ob,r,none⟩ (.bool (gM X r r))) k X from ⟨HM.out.sq,HM.out.bel.setCell (p:=⟨ob,r,none⟩) (by show _ ≤ ob;omega) _,HM.out.ob.kept hgs (by intro e;injection e with e;omega),fun j hj=>(HM.out.rw j hj).kept hgs (by intro e;injection e with e;omega)⟩)
      obtain ⟨qr,hqr⟩:∃ q,gM X r r = q:=⟨_,rfl⟩
      rw [hqr] at c2 HO9 HM9
      clear hqr hgs
      go_wp2
      go_roundw
      case rel=>exact ⟨r + 1,_,by go_num,rfl,by omega,HO9,HM9⟩
      case measure=>simp [intOf];omega
     obtain rfl:r = k:=by omega
     have b4:¬ (r:Int) < (r:Int):=by omega
     have HO9:=Lib.hid (show Blk wr ob 4 (bvl (cirF r E)) by rw [← HX.out];exact HO.out)
     go_wp2
     go_ret
     exact ⟨ob,rfl,by omega,HO9.out,HM.out.bel⟩
end Go.Proofs.YtddhaidimadliaaGreat
/- Walks: the law's live, quiet, goes. -/
namespace Go.Proofs.YtddhaidimadliaaGreat
open Go.RowKit Go
theorem live11_ok (b:Nat) (x:Ed) (s:Int) (w:World) (h0:w.cell? ⟨b,0,none⟩ = some (.int .i64 s)) (hb:b < w.heap.size) :
  Calls Tryz.prog 28 #[.agg #[.int .i64 x.f,.int .i64 x.e,.int .i64 x.t],.pointer (some ⟨b,0,none⟩)] w fun e w'=>e = .returned (.bool (x.f == s))∧Below w.heap.size w w':=by
 have hbx:=box_below w (.cells #[.int .i64 x.f,.int .i64 x.e,.int .i64 x.t] 79)
 obtain ⟨w1,hw1⟩:∃ w1,w1 = w.alloc (.cells #[.int .i64 x.f,.int .i64 x.e,.int .i64 x.t] 79):=⟨_,rfl⟩
 have kx:Blk w1 w.heap.size 79 [.int .i64 x.f,.int .i64 x.e,.int .i64 x.t]:=by rw [hw1];exact Blk.new _ _ [_,_,_]
 rw [← hw1] at hbx
 have c0:=kx.cell (j:=0) rfl
 have d0:=(hbx.cell (p:=⟨b,0,none⟩) hb).trans h0
 have HW1:=Lib.hid hw1;clear hw1
 have HB1:=Lib.hid hbx;clear hbx
 clear kx h0
 go_enter Tryz.func28,Tryz.ntmps28
 go_upto_region 1 with fail
 rw [← HW1.out]
 go_wp2
 go_ret
 exact ⟨rfl,HB1.out⟩
set_option maxRecDepth 100000 in
theorem live1_ok (b:Nat) (z:DV) (s:Int) (w:World) (hz:z.ok w w.heap.size) (hk:Blk w b 37 (dvc z)) :
  Calls Tryz.prog 26 #[.int .i64 s,.pointer (some ⟨b,0,none⟩)] w fun e w'=>e = .returned (.bool (!z.x.a.ed.any fun x=>x.f == s))∧Below w.heap.size w w':=by
 obtain ⟨⟨A,na,ca,M,nm,cm,E,ne,ce,a⟩,V,nv,cv,l⟩:=z
 unfold dvc at hk
 dsimp only at hk ⊢
 have hbx:=box_below w (.cells #[.int .i64 s] 3)
 obtain ⟨w1,hw1⟩:∃ w1,w1 = w.alloc (.cells #[.int .i64 s] 3):=⟨_,rfl⟩
 have kx:Blk w1 w.heap.size 3 [.int .i64 s]:=by rw [hw1];exact Blk.new _ _ [_]
 rw [← hw1] at hbx
 have a3:=(hk.below hbx hk.lt).cell (j:=3) rfl
 have hz1:=(hz.below hbx).more hbx.size
 have hne:ne ≤ 9223372036854775807:=Nat.le_trans hz.x.ec hz.x.cE
 obtain ⟨q,hq⟩:∃ q,a.ed.any (fun x=>x.f == s) = q:=⟨_,rfl⟩
 rw [hq]
 have HC:=Lib.hid (edgs_ContainsFuncB E ce ne a.ed 28 (.pointer (some ⟨w.heap.size,0,none⟩)) (fun x=>x.f == s) q w1 hz1.x.le hz1.x.re hne (fun _ _=>rfl) (fun x _ W hW=>live11_ok _ x s W ((hW.cell kx.lt).trans (kx.cell (j:=0) rfl)) (Nat.lt_of_lt_of_le kx.lt hW.size)) hq)
 have HW1:=Lib.hid hw1;clear hw1
 have HB1:=Lib.hid hbx;clear hbx
 clear kx hz hz1 hk hq
 go_enter Tryz.func26,Tryz.ntmps26
 go_upto_region 1 with fail
 rw [← HW1.out]
 go_wp2_with fail
 refine HC.out.mono ?_
 rintro e w2 ⟨rfl,hb2⟩
 have HB2:=Lib.hid (HB1.out.trans (hb2.mono HB1.out.size))
 clear HC a3 hb2
 go_wp2
 go_ret
 exact ⟨rfl,HB2.out⟩
set_option maxRecDepth 100000 in
set_option maxHeartbeats 1600000 in
theorem law_live41 (z:DV) (w:World) (h:z.ok w w.heap.size) (hw:WF z.x.a) :
  Calls Tryz.prog 9 #[.agg (dvc z).toArray] w fun e w'=>e = .returned (.bool (liveR z.x.a).2)∧Below w.heap.size w w':=by
 obtain ⟨⟨A,na,ca,M,nm,cm,E,ne,ce,a⟩,V,nv,cv,l⟩:=z
 have hb1:=box_below w (.cells #[.slice A na ca,.int .i64 a.st,.slice M nm cm,.slice E ne ce,.slice V nv cv] 37)
 obtain ⟨w1,hw1⟩:∃ w1,w1 = w.alloc (.cells #[.slice A na ca,.int .i64 a.st,.slice M nm cm,.slice E ne ce,.slice V nv cv] 37):=⟨_,rfl⟩
 have kx:Blk w1 w.heap.size 37 [.slice A na ca,.int .i64 a.st,.slice M nm cm,.slice E ne ce,.slice V nv cv]:=by rw [hw1];exact Blk.new _ _ [_,_,_,_,_]
 rw [← hw1] at hb1
 have HK:=Lib.hid (fun (W:World) (hb:Below w1.heap.size w1 W)=>kx.below hb kx.lt)
 have HOK:=Lib.hid (fun (W:World) (hb:Below w1.heap.size w1 W)=>(h.below (hb1.trans (hb.mono hb1.size))).more (hb1.trans (hb.mono hb1.size)).size)
 have HBL:=Lib.hid (fun (W:World) (hb:Below w1.heap.size w1 W)=>hb1.trans (hb.mono hb1.size))
 have hs1:=hb1.size
 have lx:=kx.lt
 have HWF:=Lib.hid hw
 have HC:=Lib.hid (law_reached _ w1 (HOK.out w1 (Below.refl _ _)).x hw)
 have HLV:=Lib.hid (fun (W:World) (hb:Below w1.heap.size w1 W) (s:Int)=>live1_ok w.heap.size _ s W (HOK.out W hb) (kx.below hb kx.lt))
 have HAN:=Lib.hid (fun (l:List Int) (hl:∀ t,t ∈ l ↔ 0 < a.st∧Rc a.ed anyE 0 t)=>live_any (a:=a) hw hl)
 unfold dvc
 dsimp only at HC HLV HAN ⊢
 obtain ⟨sv,hsv⟩:∃ z,a.st = z:=⟨_,rfl⟩
 obtain ⟨RV,hRV⟩:∃ z,(liveR a).2 = z:=⟨_,rfl⟩
 rw [hsv] at hw1 HK HC ⊢
 rw [hRV] at HAN ⊢
 obtain ⟨a0,a1,a2,a3,a4⟩:=Blk.c5 (HK.out w1 (Below.refl _ _))
 have HW1:=Lib.hid hw1;clear hw1
 clear hsv hRV hw kx hb1 h
 go_enter Tryz.func9,Tryz.ntmps9
 go_upto_region 1 with fail
 rw [← HW1.out]
 go_wp2_with fail
 refine HC.out.mono ?_
 rintro e w2 ⟨v2,l2,rfl,ho2,hm2,hl2,hb2⟩
 obtain ⟨A2,c2,rfl,k1,k2,k3⟩:=own_slI ho2
 have HB2:=Lib.hid hb2
 have HC2:=Lib.hid (ints_ContainsFuncB A2 c2 l2.length l2 26 (.pointer (some ⟨w.heap.size,0,none⟩)) (fun s=>!a.ed.any fun x=>x.f == s) _ w2 rfl k3 (by omega) (fun _ _=>rfl) (fun s _ W hW=>HLV.out W (hb2.trans (hW.mono hb2.size)) s) rfl)
 have HAN2:=Lib.hid (HAN.out l2 hm2)
 obtain ⟨q,hq⟩:∃ q,(l2.any fun s=>!a.ed.any fun x=>x.f == s) = q:=⟨_,rfl⟩
 rw [hq] at HC2 HAN2
 generalize l2.length = n2 at HC2 ⊢
 clear HC a0 a1 a2 a3 a4 hb2 ho2 hm2 k1 k2 k3 hq HLV hl2
 go_wp2_with fail
 refine HC2.out.mono ?_
 rintro e w3 ⟨rfl,hb3⟩
 have HB3:=Lib.hid (HB2.out.trans (hb3.mono HB2.out.size))
 clear HC2 hb3
 go_wp2
 go_ret
 exact ⟨ret_bool HAN2.out,HBL.out _ HB3.out⟩
theorem quiet1_ok (b:Nat) (cb n:Nat) (N:List Bool) (s:Int) (w:World) (h0:w.cell? ⟨b,0,none⟩ = some (.slice (some ⟨cb,0,none⟩) n n)) (hk:Blk w cb 4 (bvl N)) (hN:N.length = n) (hs0:0 ≤ s) (hs1:s < (n:Int)) :
  Calls Tryz.prog 30 #[.int .i64 s,.pointer (some ⟨b,0,none⟩)] w fun e w'=>e = .returned (.bool (fl N s))∧Below w.heap.size w w':=by
 obtain ⟨j,rfl⟩:∃ j:Nat,s = (j:Int):=⟨s.toNat,by omega⟩
 obtain ⟨q,hq⟩:∃ q,fl N (j:Int) = q:=⟨_,rfl⟩
 have c1:w.cell? ⟨cb,j,none⟩ = some (.bool q):=hk.cell (by
  rw [bvl_get,List.getElem?_eq_getElem (by omega),← hq]
  unfold fl
  rw [Int.toNat_natCast,List.getD_eq_getElem?_getD,List.getElem?_eq_getElem (by omega)]
  rfl)
 rw [hq]
 have HB:=Lib.hid (Below.refl w.heap.size w)
 clear hk hN hq
 go_enter Tryz.func30,Tryz.ntmps30
 go_wp2
 go_ret
 exact ⟨rfl,HB.out⟩
theorem arcP_snoc {es:List Ed} {perm:Ed → Bool} {k:Nat} {x:Ed} (h:es[k]? = some x):arcP (es.take (k + 1)) perm = arcP (es.take k) perm ++ (if perm x = true then [(x.f.toNat,x.t.toNat)] else []):=by
 unfold arcP
 rw [List.take_add_one,h,List.filter_append,List.map_append]
 congr 1
 by_cases hp:perm x = true
 ·rw [if_pos hp];simp [hp]
 ·rw [if_neg hp];simp [hp]
theorem arc_info:(Tryz.prog.info? 85).map (fun i=>(i.zero,i.size,i.bytes)) = some (some (.agg #[.int .i64 0,.int .i64 0]),2,16):=by kernel_rfl
theorem arc_one (x y:Int):∀ v ∈ [Value.int .i64 x,.int .i64 y],v.oneCell' = true:=by
 intro v hv
 simp only [List.mem_cons,List.not_mem_nil,or_false] at hv
 rcases hv with rfl | rfl <;> rfl
set_option maxRecDepth 100000 in
set_option maxHeartbeats 3200000 in
theorem law_quiet41 (z:DV) (w:World) (h:z.ok w w.heap.size) (hd:dmE z = 0) :
  Calls Tryz.prog 10 #[.agg (dvc z).toArray] w fun e w'=>e = .returned (.bool (cycF z.x.a (kndL z 4)).2)∧Below w.heap.size w w':=by
 have hw:=dmE_wf hd
 have hal:=dmE_al hd
 have hst0:=hw.st0
 have hst1:=hw.st1
 obtain ⟨n,hn⟩:∃ n:Nat,z.x.a.st = (n:Int):=⟨z.x.a.st.toNat,by omega⟩
 have HAN:=Lib.hid (fun (l:List Int) (hl:∀ t,t ∈ l ↔ 0 < z.x.a.st∧Rc z.x.a.ed anyE 0 t)=>quiet_any hd h.ll hn hl)
 have HLL:=Lib.hid h.ll
 have HOB:=Lib.hid (fun (j:Nat) (e:Ev) (hj:z.l[j]? = some e)=>ob_at hj)
 obtain ⟨m,hm⟩:∃ m,z.m = m:=⟨_,rfl⟩
 obtain ⟨RV,hRV⟩:∃ r,(cycF z.x.a (kndL z 4)).2 = r:=⟨_,rfl⟩
 rw [hm] at HAN HOB
 rw [hRV] at HAN ⊢
 clear hm hRV
 obtain ⟨⟨A,na,ca,M,nm,cm,E,ne,ce,a⟩,V,nv,cv,l⟩:=z
 have hb1:=box_below w (.cells #[.slice A na ca,.int .i64 a.st,.slice M nm cm,.slice E ne ce,.slice V nv cv] 37)
 obtain ⟨w1,hw1⟩:∃ w1,w1 = w.alloc (.cells #[.slice A na ca,.int .i64 a.st,.slice M nm cm,.slice E ne ce,.slice V nv cv] 37):=⟨_,rfl⟩
 have kx:Blk w1 w.heap.size 37 [.slice A na ca,.int .i64 a.st,.slice M nm cm,.slice E ne ce,.slice V nv cv]:=by rw [hw1];exact Blk.new _ _ [_,_,_,_,_]
 rw [← hw1] at hb1
 have HK:=Lib.hid (fun (W:World) (hb:Below w1.heap.size w1 W)=>kx.below hb kx.lt)
 have HOK:=Lib.hid (fun (W:World) (hb:Below w1.heap.size w1 W)=>(h.below (hb1.trans (hb.mono hb1.size))).more (hb1.trans (hb.mono hb1.size)).size)
 have HBL:=Lib.hid (fun (W:World) (hb:Below w1.heap.size w1 W)=>hb1.trans (hb.mono hb1.size))
 have hs1:=hb1.size
 have lx:=kx.lt
 have HC:=Lib.hid (fun (W:World) (hb:Below w1.heap.size w1 W)=>law_reached _ W (HOK.out W hb).x hw)
 have HRE:=Lib.hid (fun (W:World) (hb:Below w1.heap.size w1 W)=>(HOK.out W hb).x.re)
 have HRL:=Lib.hid (fun (W:World) (hb:Below w1.heap.size w1 W)=>(h.rl.below (hb1.trans (hb.mono hb1.size))).more hb1.size)
 have hle:=h.x.le
 have hedl:=hw.ed_le
 have HWF:=Lib.hid hw
 unfold dvc
 dsimp only at HC HRE HRL HAN HLL HOB hn hle hedl hal hst1 ⊢
 rw [hle] at hedl
 have HLE:=Lib.hid hle
 have HRC:=Lib.hid (fun (es:List Ed) (h9:∀ x ∈ es,x ∈ a.ed)=>(show ∀ p ∈ arcP es (fun x=>!m.ob x.e),p.1 < n∧p.2 < n from arcP_rng (n:=n) (fun x hx=>by
  have:=hw.ev_rng (h9 x hx)
  rw [← hn]
  exact ⟨⟨this.1,this.2.1⟩,this.2.2.1,this.2.2.2.1⟩)))
 have HER:=Lib.hid (fun (x:Ed) (hx:x ∈ a.ed)=>(show 0 ≤ x.f∧0 ≤ x.t∧0 ≤ x.e∧x.e < (nv:Int) from by
  have h1:=hw.ev_rng hx
  have h2:=hal x.e (nxt_al hw (s:=x.f) (by rw [((nxt_ed hw).1 (show (⟨x.f,x.e,x.t⟩:Ed) ∈ a.ed from hx)).1];exact h1.2.2.1))
  exact ⟨h1.1,h1.2.2.1,h2.1,h2.2⟩))
 have HNN:=Lib.hid (show ∀ t,t < a.st → t < (n:Int) from fun t ht=>by rw [hn] at ht;exact ht)
 rw [hn] at hw1 HK HC
 rw [hn]
 obtain ⟨a0,a1,a2,a3,a4⟩:=Blk.c5 (HK.out w1 (Below.refl _ _))
 have hn4:n ≤ 4096:=by omega
 have HW1:=Lib.hid hw1;clear hw1
 clear hw hal hst0 hst1 kx hb1 h hle
 have HO0:=Lib.hid (World.ownsRow_nil w1 w1.heap.size 85 2)
 go_enter Tryz.func10,Tryz.ntmps10
 go_upto_region 1 with fail
 rw [← HW1.out]
 go_wp2
 clear a0 a1 a2 a3 a4
 go_loopw [3,5,11] (fun s3 s5 s11 wr=>∃ (k q:Nat) (v3 v5:Value),v3 = s3∧s5 = v5∧s11 = .int .i64 k∧k ≤ ne∧q ≤ k∧Hid ((arcP (a.ed.take k) fun x=>!m.ob x.e).length = q)∧Hid (wr.ownsRow w1.heap.size 85 2 v3 q ((arcP (a.ed.take k) fun x=>!m.ob x.e).flatMap arcC))∧Hid (Below w1.heap.size w1 wr)) (fun _ _ s11 _=>ne - (intOf s11).toNat)
 case atStart=>exact ⟨0,0,_,_,rfl,rfl,rfl,Nat.zero_le _,Nat.le_refl _,Lib.hid rfl,HO0,Lib.hid (Below.refl _ _)⟩
 case round =>
  clear HO0
  obtain ⟨k,q,v3,v5,rfl,rfl,rfl,hk,hqk,HQ,HO,HB⟩:=hrel
  by_cases hke:k < ne
  ·have b1:(k:Int) < (ne:Int):=by omega
   obtain ⟨ad,x,rfl,hab,hx,g0,g1,g2⟩:=(HRE.out wr HB.out).at_ (k:=k) (by rw [HLE.out];exact hke)
   have r1:wr.cell? ⟨(ad.add (k * 3)).block,(ad.add (k * 3)).off + 1,none⟩ = some (.int .i64 x.e):=st_cells (j:=0) g1
   have r2:wr.cell? ⟨(ad.add (k * 3)).block,(ad.add (k * 3)).off + 2,none⟩ = some (.int .i64 x.t):=st_cells (j:=1) g2
   have HAS:=Lib.hid (arcP_snoc (perm:=fun x=>!m.ob x.e) hx)
   obtain ⟨hx0,hx1,hx2,hx3⟩:=HER.out x (List.mem_of_getElem? hx)
   obtain ⟨xf,xe,xt⟩:=x
   dsimp only at hx0 hx1 hx2 hx3 g0 r1 r2 HAS
   obtain ⟨f,rfl⟩:∃ f:Nat,xf = (f:Int):=⟨xf.toNat,by omega⟩
   obtain ⟨t,rfl⟩:∃ f:Nat,xt = (f:Int):=⟨xt.toNat,by omega⟩
   obtain ⟨j,rfl⟩:∃ f:Nat,xe = (f:Int):=⟨xe.toNat,by omega⟩
   rw [Int.toNat_natCast,Int.toNat_natCast] at HAS
   have hbx:=box_below wr (.cells #[.int .i64 (f:Int),.int .i64 (j:Int),.int .i64 (t:Int)] 79)
   have ke:Blk (wr.alloc (.cells #[.int .i64 (f:Int),.int .i64 (j:Int),.int .i64 (t:Int)] 79)) wr.heap.size 79 [.int .i64 (f:Int),.int .i64 (j:Int),.int .i64 (t:Int)]:=Blk.new _ _ [_,_,_]
   have e0:=ke.cell (j:=0) rfl
   have e1:=ke.cell (j:=1) rfl
   have e2:=ke.cell (j:=2) rfl
   have HB5:=Lib.hid (HB.out.trans (hbx.mono HB.out.size))
   have HO5:=Lib.hid (HO.out.alloc (.cells #[.int .i64 (f:Int),.int .i64 (j:Int),.int .i64 (t:Int)] 79))
   go_upto_region 5 with fail
   clear g0 g1 g2 r1 r2 hab hx ke hbx HO HB
   generalize wr.heap.size = bx at e0 e1 e2 ⊢
   generalize wr.alloc (.cells #[.int .i64 (f:Int),.int .i64 (j:Int),.int .i64 (t:Int)] 79) = w5 at e0 e1 e2 HO5 HB5 ⊢
   obtain ⟨a0,a1,a2,a3,a4⟩:=Blk.c5 (HK.out w5 HB5.out)
   obtain ⟨ev,e,rfl,hvb,hje,hes,q0,q1,q2,q3,q4⟩:=(HRL.out w5 HB5.out).at_ (k:=j) (by have h9:=HLL.out;omega)
   have p2':=ev_cells (j:=1) q2
   have hob:=HOB.out j e hje
   rw [hob] at HAS
   obtain ⟨ob,hob2⟩:∃ b,e.o = b:=⟨_,rfl⟩
   rw [hob2] at HAS p2'
   have hsz:=HB5.out.size
   clear hob hob2 hes hvb hje q0 q1 q2 q3 q4
   cases ob with
   | true =>
    have HQ2:=Lib.hid (show (arcP (a.ed.take (k + 1)) fun x=>!m.ob x.e).length = q by rw [HAS.out,← HQ.out];simp)
    have HO2:=Lib.hid (show w5.ownsRow w1.heap.size 85 2 v3 q ((arcP (a.ed.take (k + 1)) fun x=>!m.ob x.e).flatMap arcC) by rw [HAS.out];simpa using HO5.out)
    go_wp2
    go_roundw
    case rel=>exact ⟨k + 1,q,_,_,rfl,rfl,by go_num,by omega,by omega,HQ2,HO2,HB5⟩
    case measure=>simp [intOf];omega
   | false =>
    go_wp2_with (first
     | (at_builtin;refine wpList_pushA w5 [.int .i64 (f:Int),.int .i64 (t:Int)] rfl (.tmp 23) (.tmp 29) 82 rfl w1.heap.size 85 (.agg #[.int .i64 0,.int .i64 0]) 2 16 Tryz.underlying82 arc_info rfl (by decide) rfl v3 q _ rfl HO5.out rfl (arc_one _ _) (by omega) (by omega) hsz ?_;intro A8 c8 w8 ho8 hg8 hl8;have HO8:=Lib.hid ho8;have HB8:=Lib.hid (HB5.out.grown hg8 hsz (fun j hj=>(HO5.out.lt j hj).1));clear ho8 hg8 hl8)
     | fail)
    go_roundw
    case rel=>exact ⟨k + 1,q + 1,_,_,rfl,rfl,by go_num,by omega,by omega,Lib.hid (by rw [HAS.out,List.length_append,HQ.out];rfl),Lib.hid (by rw [HAS.out,List.flatMap_append];exact HO8.out),HB8⟩
    case measure=>simp [intOf];omega
  ·obtain rfl:k = ne:=by omega
   have b1:¬ (k:Int) < (k:Int):=by omega
   obtain ⟨E0,hE0⟩:∃ E0,(arcP a.ed fun x=>!m.ob x.e) = E0:=⟨_,rfl⟩
   have HO2:=HO.out
   have HQ2:=HQ.out
   rw [List.take_of_length_le (by rw [HLE.out];exact Nat.le_refl _),hE0] at HO2 HQ2
   obtain ⟨OA,oc,rfl⟩:=own_shape HO2
   have HER2:=HRC.out a.ed (fun x hx=>hx)
   rw [hE0] at HAN HER2
   have HCI:=Lib.hid (law_circles n OA q oc E0 wr hn4 HQ2 (by omega) (by
    have:=HO2
    rw [← HQ2] at this
    exact RdR.of_own (f:=arcC) (by omega) (fun _ _=>rfl) this) HER2)
   obtain ⟨a0,a1,a2,a3,a4⟩:=Blk.c5 (HK.out wr HB.out)
   have HCL:=Lib.hid (cirF_len n E0)
   obtain ⟨N,hN⟩:∃ N,cirF n E0 = N:=⟨_,rfl⟩
   rw [hN] at HCI HAN HCL
   clear HO2 HQ2 HER2 HO HQ hE0 hN
   go_wp2_with fail
   refine HCI.out.mono ?_
   rintro _ w6 ⟨cb,rfl,hcb,hck,hb6⟩
   have HB6:=Lib.hid (HB.out.trans (hb6.mono HB.out.size))
   have hsz6:=HB6.out.size
   clear a0 a1 a2 a3 a4 HCI hb6 hcb
   have hbx:=box_below w6 (.cells #[.slice (some ⟨cb,0,none⟩) n n] 86)
   have kb:Blk (w6.alloc (.cells #[.slice (some ⟨cb,0,none⟩) n n] 86)) w6.heap.size 86 [.slice (some ⟨cb,0,none⟩) n n]:=Blk.new _ _ [_]
   have hck7:=hck.below hbx hck.lt
   have HB7:=Lib.hid (HB6.out.trans (hbx.mono hsz6))
   go_upto_region 9 with fail
   generalize w6.heap.size = bb at kb ⊢
   generalize w6.alloc (.cells #[.slice (some ⟨cb,0,none⟩) n n] 86) = w7 at kb hck7 HB7 ⊢
   clear hck hbx hsz6 HB6
   obtain ⟨a0,a1,a2,a3,a4⟩:=Blk.c5 (HK.out w7 HB7.out)
   have HC7:=Lib.hid (HC.out w7 HB7.out)
   have HQT:=Lib.hid (fun (W:World) (hb:Below w7.heap.size w7 W) (s:Int) (s0:0 ≤ s) (s1:s < (n:Int))=>quiet1_ok bb cb n N s W ((hb.cell kb.lt).trans (kb.cell (j:=0) rfl)) (hck7.below hb hck7.lt) HCL.out s0 s1)
   clear kb hck7 HC
   go_wp2_with fail
   refine HC7.out.mono ?_
   rintro _ w8 ⟨v8,l8,rfl,ho8,hm8,hl8,hb8⟩
   obtain ⟨A8,c8,rfl,k1,k2,k3⟩:=own_slI ho8
   have HAN2:=Lib.hid (HAN.out l8 hm8)
   have hrg:∀ s ∈ l8,0 ≤ s∧s < (n:Int):=fun s hs=>by
    obtain ⟨h0,hr⟩:=(hm8 s).1 hs
    have hg:=hr.rng (n:=a.st) (fun y hy=>⟨(HWF.out.ev_rng hy).2.2.1,(HWF.out.ev_rng hy).2.2.2.1⟩) ⟨Int.le_refl 0,h0⟩
    exact ⟨hg.1,HNN.out _ hg.2⟩
   have HC8:=Lib.hid (ints_ContainsFuncB A8 c8 l8.length l8 30 (.pointer (some ⟨bb,0,none⟩)) (fun s=>fl N s) _ w8 rfl k3 (by omega) (fun _ _=>rfl) (fun s hs W hW=>HQT.out W (hb8.trans (hW.mono hb8.size)) s (hrg s hs).1 (hrg s hs).2) rfl)
   have HB8:=Lib.hid (HB7.out.trans (hb8.mono HB7.out.size))
   obtain ⟨qv,hqv⟩:∃ q,(l8.any fun s=>fl N s) = q:=⟨_,rfl⟩
   rw [hqv] at HC8 HAN2
   generalize l8.length = n8 at HC8 ⊢
   clear HC7 a0 a1 a2 a3 a4 hb8 ho8 hm8 k1 k2 k3 hqv hl8 HQT hrg
   go_wp2_with fail
   refine HC8.out.mono ?_
   rintro _ w9 ⟨rfl,hb9⟩
   have HB9:=Lib.hid (HB8.out.trans (hb9.mono HB8.out.size))
   clear HC8 hb9
   go_wp2
   go_ret
   exact ⟨ret_bool HAN2.out,HBL.out _ HB9.out⟩
end Go.Proofs.YtddhaidimadliaaGreat
