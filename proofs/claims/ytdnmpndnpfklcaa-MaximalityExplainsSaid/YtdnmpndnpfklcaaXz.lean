/- The law's leads and distance. -/
import Derived.Test.YtdnmpndnpfklcaaXv
import Derived.Test.YtdnmpndnpfklcaaUk
import Derived.Test.YtdnmpndnpfklcaaJv

namespace Go.Proofs.Ytdnmpndnpfklcaa
open Go.RowKit Go Go.Maps
def ldPL (p:Mx) (set:List Int) (s:Int) (y:Ed):Bool:=decide (y.f = s) && hasB p.u y.e && !hasB set y.t
def ldEL (p:Mx) (set:List Int) (s:Int):Option Int:=(p.a.ed.find? (ldPL p set s)).map (·.e)
def ldV (o:Option Int):Value:=.tuple #[.int .i64 (o.getD (-1)),.bool o.isSome]
theorem ldEL_hit {p:Mx} {set:List Int} {s:Int} {k:Nat} {x:Ed} (h:p.a.ed[k]? = some x) (hx:ldPL p set s x = true) (hn:∀ y ∈ p.a.ed.take k,ldPL p set s y = false):ldEL p set s = some x.e:=by
  unfold ldEL
  have e:p.a.ed = p.a.ed.take k ++ x :: p.a.ed.drop (k + 1):=by
    rw [← drop_cons' h,List.take_append_drop]
  rw [e,List.find?_append,List.find?_eq_none.2 (fun y hy=>by rw [hn y hy];simp),Option.none_or,List.find?_cons_of_pos hx]
  rfl
theorem ldEL_no {p:Mx} {set:List Int} {s:Int} (hn:∀ y ∈ p.a.ed,ldPL p set s y = false):ldEL p set s = none:=by
  unfold ldEL
  rw [List.find?_eq_none.2 (fun y hy=>by rw [hn y hy];simp)]
  rfl
set_option maxRecDepth 100000 in
set_option maxHeartbeats 1600000 in
theorem law_leads (z:PB) (s:Int) (S:Option Addr) (cs ns:Nat) (set:List Int) (w:World) (h:z.ok w w.heap.size) (hel:z.x.ne ≤ 1000000) (hsl:set.length = ns) (hS:RdI w w.heap.size S set) (hns:ns ≤ 9223372036854775807) :
    Calls Try.prog 60 #[.agg (pbc z).toArray,.int .i64 s,.slice S ns cs] w fun e w'=>e = .returned (ldV (ldEL z.m set s))∧Below w.heap.size w w':=by
  have hb1:=box_below w (.cells (pbc z).toArray 34)
  have kx:=Blk.new w 34 (pbc z)
  obtain ⟨w1,hw1⟩:∃ w1,w1 = w.alloc (.cells (pbc z).toArray 34):=⟨_,rfl⟩
  rw [← hw1] at hb1 kx
  have HZ:=Lib.hid (fun (W:World) (hb:Below w1.heap.size w1 W)=>(h.below (hb1.trans (hb.mono hb1.size))).more (hb1.trans (hb.mono hb1.size)).size)
  have HSK:=Lib.hid (fun (W:World) (hb:Below w1.heap.size w1 W)=>(hS.below (hb1.trans (hb.mono hb1.size))).more (hb1.trans (hb.mono hb1.size)).size)
  have HK:=Lib.hid (fun (W:World) (hb:Below w1.heap.size w1 W)=>kx.below hb kx.lt)
  have HB:=Lib.hid (fun (W:World) (hb:Below w1.heap.size w1 W)=>hb1.trans (hb.mono hb1.size))
  have HW1:=Lib.hid (show w.alloc (.cells (pbc z).toArray 34) = w1 from hw1.symm)
  have HLE:=Lib.hid (show z.x.a.ed.length = z.x.ne from h.x.le)
  have HSL:=Lib.hid hsl
  have hec:z.x.ne ≤ z.x.ce:=h.x.ec
  have hec2:z.x.ce ≤ 9223372036854775807:=h.x.cE
  obtain ⟨RES,hRES⟩:∃ q,ldEL z.m set s = q:=⟨_,rfl⟩
  rw [hRES]
  have HRES:=Lib.hid hRES
  clear hb1 kx hw1 h hS hsl hRES
  unfold pbc at HK HW1 ⊢
  obtain ⟨⟨A,na,ca,M,nm,cm,E,ne,ce,a⟩,⟨UA,un,uc,ul⟩,FA,fn,fc,flx⟩:=z
  obtain ⟨P,hP⟩:∃ q,PB.m ⟨⟨A,na,ca,M,nm,cm,E,ne,ce,a⟩,⟨UA,un,uc,ul⟩,FA,fn,fc,flx⟩ = q:=⟨_,rfl⟩
  have HPA:=Lib.hid (show P.a = a by rw [← hP];rfl)
  have HPU:=Lib.hid (show P.u = ul by rw [← hP];rfl)
  dsimp only at HK HW1 HZ HLE hel hec hec2 ⊢
  rw [hP] at HRES
  clear hP
  have HN0:=Lib.hid (show ∀ y ∈ a.ed.take 0,ldPL P set s y = false from fun y hy=>by simp at hy)
  go_enter Try.func60,Try.ntmps60
  go_upto_region 1 with fail
  rw [HW1.out]
  go_wp2
  go_loopw [8,9] (fun s8 s9 wr=>∃ (k:Nat) (v9:Value),s8 = .int .i64 k∧s9 = v9∧k ≤ ne∧Hid (∀ y ∈ a.ed.take k,ldPL P set s y = false)∧Hid (Below w1.heap.size w1 wr)) (fun s8 _ _=>ne - (intOf s8).toNat)
  case atStart=>exact ⟨0,_,rfl,rfl,Nat.zero_le _,HN0,Lib.hid (Below.refl _ _)⟩
  case round =>
    clear HN0
    obtain ⟨k,v9,rfl,rfl,hk,HNO,HBL⟩:=hrel
    obtain ⟨⟨a0,a1,a2,a3,a4⟩,a5⟩:=Blk.c6 (HK.out wr HBL.out)
    by_cases hlt:k < ne
    case neg =>
      obtain rfl:k = ne:=by omega
      have b1:¬ (k:Int) < (k:Int):=by omega
      have HRN:=Lib.hid (show RES = none from by
        rw [← HRES.out]
        refine ldEL_no (fun y hy=>HNO.out y ?_)
        rw [List.take_of_length_le (by rw [HLE.out];exact Nat.le_refl _)]
        rw [HPA.out] at hy
        exact hy)
      go_wp2
      refine bodyPost_ret (v:=.tuple #[.int .i64 (-1),.bool false]) (by simp [results,Try.results60,go_sem]) rfl ?_
      exact ⟨by rw [HRN.out];rfl,HB.out _ HBL.out⟩
    have b1:(k:Int) < (ne:Int):=by omega
    obtain ⟨ad,x,hA,hab,hx,g0,g1,g2⟩:=(HZ.out wr HBL.out).x.re.at_ (k:=k) (by show k < a.ed.length;rw [HLE.out];exact hlt)
    have hA':E = some ad:=hA
    subst hA'
    have r1:wr.cell? ⟨(ad.add (k * 3)).block,(ad.add (k * 3)).off + 1,none⟩ = some (.int .i64 x.e):=st_cells (j:=0) g1
    have r2:wr.cell? ⟨(ad.add (k * 3)).block,(ad.add (k * 3)).off + 2,none⟩ = some (.int .i64 x.t):=st_cells (j:=1) g2
    have HX:=Lib.hid (show a.ed[k]? = some x from hx)
    have hbx:=box_below wr (.cells #[.int .i64 x.f,.int .i64 x.e,.int .i64 x.t] 67)
    have ke:Blk (wr.alloc (.cells #[.int .i64 x.f,.int .i64 x.e,.int .i64 x.t] 67)) wr.heap.size 67 [.int .i64 x.f,.int .i64 x.e,.int .i64 x.t]:=Blk.new _ _ [_,_,_]
    have HB5:=Lib.hid (HBL.out.trans (hbx.mono HBL.out.size))
    clear hA hab hx hbx HBL
    go_upto_region 5 with fail
    clear g0 g1 g2 r1 r2 a0 a1 a2 a3 a4 a5
    generalize wr.heap.size = bx at ke ⊢
    generalize wr.alloc (.cells #[.int .i64 x.f,.int .i64 x.e,.int .i64 x.t] 67) = w5 at ke HB5 ⊢
    obtain ⟨⟨_,_,_,_,a4⟩,_⟩:=Blk.c6 (HK.out w5 HB5.out)
    have e0:=ke.cell (j:=0) rfl
    have e1:=ke.cell (j:=1) rfl
    have e2:=ke.cell (j:=2) rfl
    have HNX:=Lib.hid (show ldPL P set s x = false → ∀ y ∈ a.ed.take (k + 1),ldPL P set s y = false from fun h9 y hy=>by
      rw [take_snoc' HX.out] at hy
      rcases List.mem_append.1 hy with hy | hy
      · exact HNO.out y hy
      · rw [List.mem_singleton.1 hy];exact h9)
    have HLD:=Lib.hid (show ldPL P set s x = (decide (x.f = s) && hasB ul x.e && !hasB set x.t) by unfold ldPL;rw [HPU.out])
    by_cases hf:x.f = s
    case neg =>
      have hf':(x.f == s) = false:=by rw [beq_eq_false_iff_ne];exact hf
      have HN9:=Lib.hid (HNX.out (by rw [HLD.out,decide_eq_false hf];rfl))
      clear hf
      go_wp2
      go_roundw
      case rel=>exact ⟨k + 1,_,by go_num,rfl,by omega,HN9,HB5⟩
      case measure=>simp [intOf];omega
    have hf':(x.f == s) = true:=by simpa using hf
    obtain ⟨q1,hq1⟩:∃ q,hasB ul x.e = q:=⟨_,rfl⟩
    obtain ⟨q2,hq2⟩:∃ q,hasB set x.t = q:=⟨_,rfl⟩
    rw [decide_eq_true hf,hq1,hq2] at HLD
    have hu:=(HZ.out w5 HB5.out).u
    have HC1:=Lib.hid (law_has UA uc un ul x.e q1 w5 hu.la hu.ra (Nat.le_trans hu.ac hu.cA) hq1)
    have HC2:=Lib.hid (law_has S cs ns set x.t q2 w5 HSL.out (HSK.out w5 HB5.out) hns hq2)
    clear hu hq1 hq2 hf
    cases q1 with
    | false =>
      have HN9:=Lib.hid (HNX.out (by rw [HLD.out];rfl))
      go_wp2_with fail
      refine HC1.out.mono ?_
      rintro e w6 ⟨rfl,rfl⟩
      go_wp2
      go_roundw
      case rel=>exact ⟨k + 1,_,by go_num,rfl,by omega,HN9,HB5⟩
      case measure=>simp [intOf];omega
    | true =>
      go_wp2_with fail
      refine HC1.out.mono ?_
      rintro e w6 ⟨rfl,rfl⟩
      go_wp2_with fail
      refine HC2.out.mono ?_
      rintro e w6 ⟨rfl,rfl⟩
      cases q2 with
      | true =>
        have HN9:=Lib.hid (HNX.out (by rw [HLD.out];rfl))
        go_wp2
        go_roundw
        case rel=>exact ⟨k + 1,_,by go_num,rfl,by omega,HN9,HB5⟩
        case measure=>simp [intOf];omega
      | false =>
        have HRN:=Lib.hid (show RES = some x.e from by
          rw [← HRES.out]
          exact ldEL_hit (by rw [HPA.out];exact HX.out) (by rw [HLD.out];rfl) (by rw [HPA.out];exact HNO.out))
        go_wp2
        refine bodyPost_ret (v:=.tuple #[.int .i64 x.e,.bool true]) (by simp [results,Try.results60,go_sem]) rfl ?_
        exact ⟨by rw [HRN.out];rfl,HB.out _ HB5.out⟩
def lenO:Option (List Int) → Int
  | some ws=>(ws.length:Int)
  | none=>-1
theorem lenO_dst {a:Aut} (hw:WF a) {n:Nat} (hn:a.st = (n:Int)) {set:List Int} {st:Int} (h0:0 ≤ st) (h1:st < a.st) (hs:fl (inF n set) st = true) :
    lenO (pathS a st (fl (inF n a.ma)) (fun x=>fl (inF n set) x.t)) = dstF a (inF n set) st:=by
  have hmr:∀ t ∈ a.ma,0 ≤ t∧t < (n:Int):=fun t ht=>by have:=hw.mrng t ht;omega
  refine DisOk.unique (ed:=a.ed) (N:=inF n set) (ma:=a.ma) (s:=st) ?_ (dstF_ok hw h0 h1 hs)
  have hp:=pathS_spec (perm:=fun x=>fl (inF n set) x.t) (want:=fl (inF n a.ma)) hw h0 h1
  cases hq:pathS a st (fl (inF n a.ma)) (fun x=>fl (inF n set) x.t) with
  | none =>
    rw [hq] at hp
    simp only at hp
    refine .inl ⟨rfl,fun d hd=>?_⟩
    obtain ⟨vs,u,h1,h2,_⟩:=hd.wk
    have:=hp u h1.rc
    rw [(inF_fl hmr (hmr u h2).1).2 h2] at this
    cases this
  | some ws =>
    rw [hq] at hp
    obtain ⟨u,hu,hwk⟩:=hp
    have hu0:0 ≤ u:=by
      cases hwk with
      | nil=>exact h0
      | snoc _ hx _ _=>exact (hw.ev_rng hx).2.2.1
    refine .inr ⟨ws.length,rfl,?_,fun e he=>?_⟩
    · exact hwk.dp hs (.mk (hwk.flag hs) ((inF_fl hmr hu0).1 hu))
    · obtain ⟨vs,v,k1,k2,k3⟩:=he.wk
      rw [← k3]
      exact pathS_short hw h0 h1 hq k1 ((inF_fl hmr (hmr v k2).1).2 k2)
set_option maxRecDepth 100000 in
set_option maxHeartbeats 1600000 in
theorem law_distance (z:PB) (n s:Nat) (S:Option Addr) (cs ns:Nat) (set:List Int) (w:World) (h:z.ok w w.heap.size) (hm:z.m.ok) (hn:z.x.a.st = (n:Int)) (hs:s < n) (hsl:set.length = ns) (hS:RdI w w.heap.size S set) (hs1:ns ≤ cs) (hs2:cs ≤ 9223372036854775807) (hsi:Inc set) (hsr:∀ t ∈ set,0 ≤ t∧t < (n:Int)) (hin:(s:Int) ∈ set) :
    Calls Try.prog 47 #[.agg (pbc z).toArray,.int .i64 (s:Int),.slice S ns cs] w fun e w'=>e = .returned (.int .i64 (dstF z.x.a (inF n set) (s:Int)))∧Below w.heap.size w w':=by
  have hmr:∀ t ∈ z.x.a.ma,0 ≤ t∧t < (n:Int):=fun t ht=>by have:=hm.wf.mrng t ht;have e:z.m.a = z.x.a:=rfl;rw [e] at this;omega
  have hfl:fl (inF n set) (s:Int) = true:=(inF_fl hsr (by omega)).2 hin
  obtain ⟨RES,hRES⟩:∃ q,pathS z.x.a (s:Int) (fl (inF n z.x.a.ma)) (fun x=>fl (inF n set) x.t) = q:=⟨_,rfl⟩
  have HD:=Lib.hid (show dstF z.x.a (inF n set) (s:Int) = lenO RES by rw [← hRES];exact (lenO_dst hm.wf hn (by omega) (by show (s:Int) < z.x.a.st;omega) hfl).symm)
  rw [HD.out]
  have hb1:=box_below w (.cells (pbc z).toArray 34)
  have kx:=Blk.new w 34 (pbc z)
  obtain ⟨w1,hw1⟩:∃ w1,w1 = w.alloc (.cells (pbc z).toArray 34):=⟨_,rfl⟩
  rw [← hw1] at hb1 kx
  have hz:=(h.below hb1).more hb1.size
  have HP:=Lib.hid (reach_Path z.x w1 n s hz.x hm.wf hn hs z.x.M z.x.nm z.x.cm z.x.a.ma S ns cs set hz.x.lm hz.x.rm hz.x.mc hz.x.cM (setErr_fit hm.wf.minc hmr) hmr hsl ((hS.below hb1).more hb1.size) hs1 hs2 (setErr_fit hsi hsr) hsr hfl (fun x=>fl (inF n set) x.t) (fun e _=>rfl) RES hRES)
  have HB:=Lib.hid hb1
  have HW1:=Lib.hid (show w.alloc (.cells (pbc z).toArray 34) = w1 from hw1.symm)
  clear hw1 h hS hsl hRES hz hm HD hsi hsr hin hmr hfl hb1
  unfold pbc at kx HW1 ⊢
  rw [hn] at kx HW1 HP ⊢
  obtain ⟨⟨a0,a1,a2,a3,a4⟩,a5⟩:=Blk.c6 kx
  clear hn kx
  go_enter Try.func47,Try.ntmps47
  go_upto_region 1 with fail
  rw [HW1.out]
  go_wp2_with fail
  refine HP.out.mono ?_
  cases RES with
  | none =>
    rintro e w2 ⟨rfl,hb2⟩
    have HB2:=Lib.hid (HB.out.trans (hb2.mono HB.out.size))
    clear hb2 a0 a1 a2 a3 a4 a5
    go_wp2
    go_ret
    exact ⟨rfl,HB2.out⟩
  | some ws =>
    rintro e w2 ⟨v,rfl,ho,hb2⟩
    have HB2:=Lib.hid (HB.out.trans (hb2.mono HB.out.size))
    obtain ⟨OA,oc,rfl⟩:=own_shape ho
    clear hb2 a0 a1 a2 a3 a4 a5 ho
    go_wp2
    go_ret
    exact ⟨rfl,HB2.out⟩
end Go.Proofs.Ytdnmpndnpfklcaa
/- The laws' examples (chapters 4 and 28). -/
namespace Go.Proofs.Ytdnmpndnpfklcaa
open Go.RowKit Go Go.Maps
def exW4 (w:World):World:=(((w.alloc (.cells #[.slice (some ⟨w.heap.size + 1,0,none⟩) 2 2,.int .i64 4,.slice (some ⟨w.heap.size + 1 + 1,0,none⟩) 1 1,.slice (some ⟨w.heap.size + 1 + 1 + 1,0,none⟩) 5 5] 32)).alloc (.cells #[.int .i64 0,.int .i64 1] 3)).alloc (.cells #[.int .i64 1] 3)).alloc (.cells #[.int .i64 0,.int .i64 0,.int .i64 1,.int .i64 0,.int .i64 1,.int .i64 2,.int .i64 1,.int .i64 0,.int .i64 1,.int .i64 2,.int .i64 0,.int .i64 3,.int .i64 3,.int .i64 1,.int .i64 2] 67)
theorem exW4_ok (w:World):Blk (exW4 w) w.heap.size 32 [.slice (some ⟨w.heap.size + 1,0,none⟩) 2 2,.int .i64 4,.slice (some ⟨w.heap.size + 1 + 1,0,none⟩) 1 1,.slice (some ⟨w.heap.size + 1 + 1 + 1,0,none⟩) 5 5]∧Blk (exW4 w) (w.heap.size + 1) 3 [.int .i64 0,.int .i64 1]∧Blk (exW4 w) (w.heap.size + 1 + 1) 3 [.int .i64 1]∧Blk (exW4 w) (w.heap.size + 1 + 1 + 1) 67 [.int .i64 0,.int .i64 0,.int .i64 1,.int .i64 0,.int .i64 1,.int .i64 2,.int .i64 1,.int .i64 0,.int .i64 1,.int .i64 2,.int .i64 0,.int .i64 3,.int .i64 3,.int .i64 1,.int .i64 2]∧Below w.heap.size w (exW4 w):=by
  refine ⟨?_,?_,?_,?_,?_⟩
  · unfold exW4;(repeat (first | (refine Blk.at_ _ _ _ ?_;simp;done) | (refine Blk.at_ _ _ _ rfl) | refine Blk.al ?_ _))
  · unfold exW4;(repeat (first | (refine Blk.at_ _ _ _ ?_;simp;done) | (refine Blk.at_ _ _ _ rfl) | refine Blk.al ?_ _))
  · unfold exW4;(repeat (first | (refine Blk.at_ _ _ _ ?_;simp;done) | (refine Blk.at_ _ _ _ rfl) | refine Blk.al ?_ _))
  · unfold exW4;(repeat (first | (refine Blk.at_ _ _ _ ?_;simp;done) | (refine Blk.at_ _ _ _ rfl) | refine Blk.al ?_ _))
  · unfold exW4;(repeat (first | assumption | exact Below.refl _ _ | refine below_drewN ?_ _ | (refine Below.alloc ?_ ?_ _;rotate_left;· first | (simp;done) | (simp;omega))))
def exW8 (w:World):World:=(((((w.alloc (.cells #[.slice (some ⟨w.heap.size + 1,0,none⟩) 4 4,.int .i64 4,.slice (some ⟨w.heap.size + 1 + 1,0,none⟩) 1 1,.slice (some ⟨w.heap.size + 1 + 1 + 1,0,none⟩) 4 4,.slice (some ⟨w.heap.size + 1 + 1 + 1 + 1,0,none⟩) 1 1,.slice (some ⟨w.heap.size + 1 + 1 + 1 + 1 + 1,0,none⟩) 1 1] 34)).alloc (.cells #[.int .i64 0,.int .i64 1,.int .i64 2,.int .i64 3] 3)).alloc (.cells #[.int .i64 0] 3)).alloc (.cells #[.int .i64 0,.int .i64 0,.int .i64 1,.int .i64 0,.int .i64 1,.int .i64 3,.int .i64 1,.int .i64 3,.int .i64 2,.int .i64 3,.int .i64 2,.int .i64 0] 67)).alloc (.cells #[.int .i64 3] 3)).alloc (.cells #[.int .i64 2] 3)
theorem exW8_ok (w:World):Blk (exW8 w) w.heap.size 34 [.slice (some ⟨w.heap.size + 1,0,none⟩) 4 4,.int .i64 4,.slice (some ⟨w.heap.size + 1 + 1,0,none⟩) 1 1,.slice (some ⟨w.heap.size + 1 + 1 + 1,0,none⟩) 4 4,.slice (some ⟨w.heap.size + 1 + 1 + 1 + 1,0,none⟩) 1 1,.slice (some ⟨w.heap.size + 1 + 1 + 1 + 1 + 1,0,none⟩) 1 1]∧Blk (exW8 w) (w.heap.size + 1) 3 [.int .i64 0,.int .i64 1,.int .i64 2,.int .i64 3]∧Blk (exW8 w) (w.heap.size + 1 + 1) 3 [.int .i64 0]∧Blk (exW8 w) (w.heap.size + 1 + 1 + 1) 67 [.int .i64 0,.int .i64 0,.int .i64 1,.int .i64 0,.int .i64 1,.int .i64 3,.int .i64 1,.int .i64 3,.int .i64 2,.int .i64 3,.int .i64 2,.int .i64 0]∧Blk (exW8 w) (w.heap.size + 1 + 1 + 1 + 1) 3 [.int .i64 3]∧Blk (exW8 w) (w.heap.size + 1 + 1 + 1 + 1 + 1) 3 [.int .i64 2]∧Below w.heap.size w (exW8 w):=by
  refine ⟨?_,?_,?_,?_,?_,?_,?_⟩
  · unfold exW8;(repeat (first | (refine Blk.at_ _ _ _ ?_;simp;done) | (refine Blk.at_ _ _ _ rfl) | refine Blk.al ?_ _))
  · unfold exW8;(repeat (first | (refine Blk.at_ _ _ _ ?_;simp;done) | (refine Blk.at_ _ _ _ rfl) | refine Blk.al ?_ _))
  · unfold exW8;(repeat (first | (refine Blk.at_ _ _ _ ?_;simp;done) | (refine Blk.at_ _ _ _ rfl) | refine Blk.al ?_ _))
  · unfold exW8;(repeat (first | (refine Blk.at_ _ _ _ ?_;simp;done) | (refine Blk.at_ _ _ _ rfl) | refine Blk.al ?_ _))
  · unfold exW8;(repeat (first | (refine Blk.at_ _ _ _ ?_;simp;done) | (refine Blk.at_ _ _ _ rfl) | refine Blk.al ?_ _))
  · unfold exW8;(repeat (first | (refine Blk.at_ _ _ _ ?_;simp;done) | (refine Blk.at_ _ _ _ rfl) | refine Blk.al ?_ _))
  · unfold exW8;(repeat (first | assumption | exact Below.refl _ _ | refine below_drewN ?_ _ | (refine Below.alloc ?_ ?_ _;rotate_left;· first | (simp;done) | (simp;omega))))
set_option maxRecDepth 100000 in
set_option maxHeartbeats 1600000 in
theorem law_example04 (w:World):Calls Try.prog 97 #[] w fun e w'=>∃ x:AV,e = .returned (.agg #[.slice x.A x.na x.ca,.int .i64 x.a.st,.slice x.M x.nm x.cm,.slice x.E x.ne x.ce])∧x.ok w' w'.heap.size∧x.a = exL4∧Below w.heap.size w w':=by
  have hk:=exW4_ok w
  have Z0:=Lib.hid (hk.1.cell (j:=0) rfl)
  have Z1:=Lib.hid (hk.1.cell (j:=1) rfl)
  have Z2:=Lib.hid (hk.1.cell (j:=2) rfl)
  have Z3:=Lib.hid (hk.1.cell (j:=3) rfl)
  have HK:=Lib.hid hk
  clear hk
  go_enter Try.func97,Try.ntmps97
  go_wp2
  rw [show (((w.alloc (.cells #[.slice (some ⟨w.heap.size + 1,0,none⟩) 2 2,.int .i64 4,.slice (some ⟨w.heap.size + 1 + 1,0,none⟩) 1 1,.slice (some ⟨w.heap.size + 1 + 1 + 1,0,none⟩) 5 5] 32)).alloc (.cells #[.int .i64 0,.int .i64 1] 3)).alloc (.cells #[.int .i64 1] 3)).alloc (.cells #[.int .i64 0,.int .i64 0,.int .i64 1,.int .i64 0,.int .i64 1,.int .i64 2,.int .i64 1,.int .i64 0,.int .i64 1,.int .i64 2,.int .i64 0,.int .i64 3,.int .i64 3,.int .i64 1,.int .i64 2] 67) = exW4 w from rfl]
  refine bodyPost_ret (v:=.agg #[.slice (some ⟨w.heap.size + 1,0,none⟩) 2 2,.int .i64 4,.slice (some ⟨w.heap.size + 1 + 1,0,none⟩) 1 1,.slice (some ⟨w.heap.size + 1 + 1 + 1,0,none⟩) 5 5]) (by simp [results,Try.results97,go_sem,Z0.out,Z1.out,Z2.out,Z3.out]) rfl ?_
  exact ⟨⟨some ⟨w.heap.size + 1,0,none⟩,2,2,some ⟨w.heap.size + 1 + 1,0,none⟩,1,1,some ⟨w.heap.size + 1 + 1 + 1,0,none⟩,5,5,exL4⟩,rfl,⟨rfl,by dsimp only;omega,by dsimp only;omega,rdI_blk (l:=[0,1]) HK.out.2.1,rfl,by dsimp only;omega,by dsimp only;omega,rdI_blk (l:=[1]) HK.out.2.2.1,rfl,by dsimp only;omega,by dsimp only;omega,rdX_blk (l:=exL4.ed) HK.out.2.2.2.1⟩,rfl,HK.out.2.2.2.2⟩
set_option maxRecDepth 100000 in
set_option maxHeartbeats 1600000 in
theorem law_example28 (w:World):Calls Try.prog 79 #[] w fun e w'=>∃ z:PB,e = .returned (.agg (pbc z).toArray)∧z.ok w' w'.heap.size∧z.m = exP8∧Below w.heap.size w w':=by
  have hk:=exW8_ok w
  have Z0:=Lib.hid (hk.1.cell (j:=0) rfl)
  have Z1:=Lib.hid (hk.1.cell (j:=1) rfl)
  have Z2:=Lib.hid (hk.1.cell (j:=2) rfl)
  have Z3:=Lib.hid (hk.1.cell (j:=3) rfl)
  have Z4:=Lib.hid (hk.1.cell (j:=4) rfl)
  have Z5:=Lib.hid (hk.1.cell (j:=5) rfl)
  have HK:=Lib.hid hk
  clear hk
  go_enter Try.func79,Try.ntmps79
  go_wp2
  rw [show (((((w.alloc (.cells #[.slice (some ⟨w.heap.size + 1,0,none⟩) 4 4,.int .i64 4,.slice (some ⟨w.heap.size + 1 + 1,0,none⟩) 1 1,.slice (some ⟨w.heap.size + 1 + 1 + 1,0,none⟩) 4 4,.slice (some ⟨w.heap.size + 1 + 1 + 1 + 1,0,none⟩) 1 1,.slice (some ⟨w.heap.size + 1 + 1 + 1 + 1 + 1,0,none⟩) 1 1] 34)).alloc (.cells #[.int .i64 0,.int .i64 1,.int .i64 2,.int .i64 3] 3)).alloc (.cells #[.int .i64 0] 3)).alloc (.cells #[.int .i64 0,.int .i64 0,.int .i64 1,.int .i64 0,.int .i64 1,.int .i64 3,.int .i64 1,.int .i64 3,.int .i64 2,.int .i64 3,.int .i64 2,.int .i64 0] 67)).alloc (.cells #[.int .i64 3] 3)).alloc (.cells #[.int .i64 2] 3) = exW8 w from rfl]
  refine bodyPost_ret (v:=.agg #[.slice (some ⟨w.heap.size + 1,0,none⟩) 4 4,.int .i64 4,.slice (some ⟨w.heap.size + 1 + 1,0,none⟩) 1 1,.slice (some ⟨w.heap.size + 1 + 1 + 1,0,none⟩) 4 4,.slice (some ⟨w.heap.size + 1 + 1 + 1 + 1,0,none⟩) 1 1,.slice (some ⟨w.heap.size + 1 + 1 + 1 + 1 + 1,0,none⟩) 1 1]) (by simp [results,Try.results79,go_sem,Z0.out,Z1.out,Z2.out,Z3.out,Z4.out,Z5.out]) rfl ?_
  exact ⟨⟨⟨some ⟨w.heap.size + 1,0,none⟩,4,4,some ⟨w.heap.size + 1 + 1,0,none⟩,1,1,some ⟨w.heap.size + 1 + 1 + 1,0,none⟩,4,4,exP8.a⟩,⟨some ⟨w.heap.size + 1 + 1 + 1 + 1,0,none⟩,1,1,[3]⟩,⟨some ⟨w.heap.size + 1 + 1 + 1 + 1 + 1,0,none⟩,1,1,[2]⟩⟩,rfl,⟨⟨rfl,by dsimp only;omega,by dsimp only;omega,rdI_blk (l:=[0,1,2,3]) HK.out.2.1,rfl,by dsimp only;omega,by dsimp only;omega,rdI_blk (l:=[0]) HK.out.2.2.1,rfl,by dsimp only;omega,by dsimp only;omega,rdX_blk (l:=exP8.a.ed) HK.out.2.2.2.1⟩,⟨rfl,by dsimp only;omega,by dsimp only;omega,rdI_blk (l:=[3]) HK.out.2.2.2.2.1⟩,⟨rfl,by dsimp only;omega,by dsimp only;omega,rdI_blk (l:=[2]) HK.out.2.2.2.2.2.1⟩⟩,rfl,HK.out.2.2.2.2.2.2⟩
end Go.Proofs.Ytdnmpndnpfklcaa

/- The law's known of chapter 4. -/
namespace Go.Proofs.Ytdnmpndnpfklcaa
open Go.RowKit Go Go.Maps
theorem ex4_pa2:pathS exL4 ((0:Nat):Int) (fl (inF 4 [3])) (fun x=>fl (inF 4 [0,1,2,3]) x.t) = some [1,0]:=by decide
theorem ex4_mx (x:AV) (h:x.a = exL4):x.a.st = ((4:Nat):Int):=by rw [h];rfl
set_option maxRecDepth 100000 in
set_option maxHeartbeats 3200000 in
theorem law_known04 (w:World):Calls Try.prog 80 #[] w fun e w'=>e = .returned (.bool true)∧Below w.heap.size w w':=by
  go_enter Try.func80,Try.ntmps80
  go_wp2_with fail
  refine (law_example04 w).mono ?_
  rintro e w1 ⟨x,rfl,hx,ha,hb1⟩
  have HB1:=Lib.hid hb1
  have HCO:=Lib.hid (reach_Coreachable x 4 w1 hx (by rw [ha];exact ex4_wf) (ex4_mx x ha))
  rw [ha,ex4_co] at HCO
  rw [ha]
  clear hx hb1 ha
  go_wp2_with fail
  refine HCO.out.mono ?_
  rintro e w2 ⟨v,rfl,ho,hb2⟩
  obtain ⟨A1,c1,rfl⟩:=own_shape ho
  have HC1:=Lib.hid (own_cap' ho)
  have HR1:=Lib.hid (fun (W:World) (hb:Below w2.heap.size w2 W)=>(((rdI_own (l:=[0,1]) rfl ho).below hb).more hb.size))
  have HB2:=Lib.hid (HB1.out.trans (hb2.mono HB1.out.size))
  clear HCO ho hb2
  go_wp2_with fail
  refine (law_example04 w2).mono ?_
  rintro e w3 ⟨x,rfl,hx,ha,hb3⟩
  have hbx:=box_below w3 (.cells #[.int .i64 3] 3)
  have hb3':=hb3.trans (hbx.mono hb3.size)
  have kr:Blk (w3.alloc (.cells #[.int .i64 3] 3)) w3.heap.size 3 (iv [3]):=Blk.new _ _ [_]
  have HDI:=Lib.hid (reach_Distances x 4 (some ⟨w3.heap.size,0,none⟩) 1 1 [3] (w3.alloc (.cells #[.int .i64 3] 3)) (AutR.more (AutR.below hx hbx) hbx.size) (by rw [ha];exact ex4_wf) (ex4_mx x ha) rfl (rdI_blk kr) (Nat.le_refl _) (by omega) (by simp [Inc]) (by decide))
  rw [ha,ex4_di] at HDI
  rw [ha]
  have HB3:=Lib.hid hb3'
  clear hx hb3 ha hbx hb3' kr
  go_wp2_with fail
  refine HDI.out.mono ?_
  rintro e w4 ⟨ob,rfl,hk,_,_,hb4⟩
  have HB4:=Lib.hid (HB3.out.trans (hb4.mono HB3.out.size))
  have HR4:=Lib.hid (fun (W:World) (hb:Below w4.heap.size w4 W)=>(((rdI_blk hk).below hb).more hb.size))
  clear HDI hk hb4
  go_wp2_with fail
  refine (law_example04 w4).mono ?_
  rintro e w5 ⟨x,rfl,hx,ha,hb5⟩
  have hbx:=box_below w5 (.cells #[.int .i64 3] 3)
  have hby:=box_below (w5.alloc (.cells #[.int .i64 3] 3)) (.cells #[.int .i64 0,.int .i64 1,.int .i64 2,.int .i64 3] 3)
  have hbz:=hbx.trans (hby.mono hbx.size)
  have k1:Blk ((w5.alloc (.cells #[.int .i64 3] 3)).alloc (.cells #[.int .i64 0,.int .i64 1,.int .i64 2,.int .i64 3] 3)) w5.heap.size 3 (iv [3]):=(show Blk (w5.alloc (.cells #[.int .i64 3] 3)) w5.heap.size 3 (iv [3]) from Blk.new _ _ [_]).al _
  have k2:Blk ((w5.alloc (.cells #[.int .i64 3] 3)).alloc (.cells #[.int .i64 0,.int .i64 1,.int .i64 2,.int .i64 3] 3)) (w5.heap.size + 1) 3 (iv [0,1,2,3]):=by
    have h9:Blk ((w5.alloc (.cells #[.int .i64 3] 3)).alloc (.cells #[.int .i64 0,.int .i64 1,.int .i64 2,.int .i64 3] 3)) (w5.alloc (.cells #[.int .i64 3] 3)).heap.size 3 (iv [0,1,2,3]):=Blk.new _ _ [_,_,_,_]
    simpa using h9
  have HPA:=Lib.hid (reach_Path x _ 4 0 (AutR.more (AutR.below hx hbz) hbz.size) (by rw [ha];exact ex4_wf) (ex4_mx x ha) (by omega) (some ⟨w5.heap.size,0,none⟩) 1 1 [3] (some ⟨w5.heap.size + 1,0,none⟩) 4 4 [0,1,2,3] rfl (rdI_blk k1) (Nat.le_refl _) (by omega) (by decide) (by decide) rfl (rdI_blk k2) (Nat.le_refl _) (by omega) (by decide) (by decide) (by decide) (fun y=>fl (inF 4 [0,1,2,3]) y.t) (fun y _=>rfl) (some [1,0]) (by rw [ha];exact ex4_pa2))
  rw [ha] at HPA ⊢
  have HB5:=Lib.hid (hb5.trans (hbz.mono hb5.size))
  clear hx hb5 ha hbx hby hbz k1 k2
  go_wp2_with fail
  refine HPA.out.mono ?_
  rintro e w6 ⟨v,rfl,ho,hb6⟩
  obtain ⟨A6,c6,rfl⟩:=own_shape ho
  have HC6:=Lib.hid (own_cap' ho)
  have HR6:=Lib.hid (fun (W:World) (hb:Below w6.heap.size w6 W)=>(((rdI_own (l:=[1,0]) rfl ho).below hb).more hb.size))
  have HB6:=Lib.hid (HB5.out.trans (hb6.mono HB5.out.size))
  clear HPA ho hb6
  go_wp2_with fail
  refine (law_example04 w6).mono ?_
  rintro e w7 ⟨x,rfl,hx,ha,hb7⟩
  have hbx:=box_below w7 (.cells #[.int .i64 0,.int .i64 1,.int .i64 2] 3)
  have hby:=box_below (w7.alloc (.cells #[.int .i64 0,.int .i64 1,.int .i64 2] 3)) (.cells #[.int .i64 0] 3)
  have hbz:=hbx.trans (hby.mono hbx.size)
  have k1:Blk ((w7.alloc (.cells #[.int .i64 0,.int .i64 1,.int .i64 2] 3)).alloc (.cells #[.int .i64 0] 3)) w7.heap.size 3 (iv [0,1,2]):=(show Blk (w7.alloc (.cells #[.int .i64 0,.int .i64 1,.int .i64 2] 3)) w7.heap.size 3 (iv [0,1,2]) from Blk.new _ _ [_,_,_]).al _
  have k2:Blk ((w7.alloc (.cells #[.int .i64 0,.int .i64 1,.int .i64 2] 3)).alloc (.cells #[.int .i64 0] 3)) (w7.heap.size + 1) 3 (iv [0]):=by
    have h9:Blk ((w7.alloc (.cells #[.int .i64 0,.int .i64 1,.int .i64 2] 3)).alloc (.cells #[.int .i64 0] 3)) (w7.alloc (.cells #[.int .i64 0,.int .i64 1,.int .i64 2] 3)).heap.size 3 (iv [0]):=Blk.new _ _ [_]
    simpa using h9
  have HIN:=Lib.hid (reach_Interior x 4 (some ⟨w7.heap.size,0,none⟩) 3 3 [0,1,2] (some ⟨w7.heap.size + 1,0,none⟩) 1 1 [0] _ (AutR.more (AutR.below hx hbz) hbz.size) (by rw [ha];exact ex4_wf) (ex4_mx x ha) rfl (rdI_blk k1) (Nat.le_refl _) (by omega) (by simp [Inc]) (by decide) rfl (rdI_blk k2) (Nat.le_refl _) (by omega) (by simp [Inc]) (by decide))
  rw [ha,ex4_in] at HIN
  rw [ha]
  have HB7:=Lib.hid (hb7.trans (hbz.mono hb7.size))
  clear hx hb7 ha hbx hby hbz k1 k2
  go_wp2_with fail
  refine HIN.out.mono ?_
  rintro e w8 ⟨v,rfl,ho,hb8⟩
  obtain ⟨A8,c8,rfl⟩:=own_shape ho
  have HC8:=Lib.hid (own_cap' ho)
  have HR8:=Lib.hid (fun (W:World) (hb:Below w8.heap.size w8 W)=>(((rdI_own (l:=[0,1]) rfl ho).below hb).more hb.size))
  have HB8:=Lib.hid (HB7.out.trans (hb8.mono HB7.out.size))
  clear HIN ho hb8
  -- from w2 to w8
  have h24:=HB4.out
  have h46:=HB6.out
  have h68:=HB8.out
  have HW48:=Lib.hid (h46.trans (h68.mono h46.size))
  have HW28:=Lib.hid (h24.trans (HW48.out.mono h24.size))
  have HW08:=Lib.hid (HB2.out.trans (HW28.out.mono HB2.out.size))
  clear h24 h46 h68
  have hx1:=box_below w8 (.cells #[.int .i64 0,.int .i64 1] 3)
  have hs1:=hx1
  have q1:=HW28.out.trans (hx1.mono HW28.out.size)
  have kk:Blk (w8.alloc (.cells #[.int .i64 0,.int .i64 1] 3)) w8.heap.size 3 (iv [0,1]):=Blk.new _ _ [_,_]
  have HS1:=Lib.hid (law_same04_n A1 (some ⟨w8.heap.size,0,none⟩) c1 2 2 2 [0,1] [0,1] true _ rfl rfl (by decide) (HR1.out _ q1) HC1.out.1 HC1.out.2 (rdI_blk kk))
  have HX1:=Lib.hid hx1
  clear hx1 hs1 q1 kk
  go_wp2_with fail
  refine HS1.out.mono ?_
  rintro e w9 ⟨rfl,hb9⟩
  have HW89:=Lib.hid (HX1.out.trans (hb9.mono HX1.out.size))
  clear HS1 hb9
  have hx1:=box_below w9 (.cells #[.int .i64 2,.int .i64 (-1),.int .i64 1,.int .i64 0] 3)
  have q1:=(HW48.out.trans (HW89.out.mono HW48.out.size)).trans (hx1.mono (HW48.out.trans (HW89.out.mono HW48.out.size)).size)
  have kk:Blk (w9.alloc (.cells #[.int .i64 2,.int .i64 (-1),.int .i64 1,.int .i64 0] 3)) w9.heap.size 3 (iv [2,-1,1,0]):=Blk.new _ _ [_,_,_,_]
  have HS1:=Lib.hid (law_same04_n (some ⟨ob,0,none⟩) (some ⟨w9.heap.size,0,none⟩) 4 4 4 4 [2,-1,1,0] [2,-1,1,0] true _ rfl rfl (by decide) (HR4.out _ q1) (Nat.le_refl _) (by omega) (rdI_blk kk))
  have HX1:=Lib.hid (HW89.out.trans (hx1.mono HW89.out.size))
  clear hx1 q1 kk
  go_wp2_with fail
  refine HS1.out.mono ?_
  rintro e w10 ⟨rfl,hb9⟩
  have HW8A:=Lib.hid (HX1.out.trans (hb9.mono HX1.out.size))
  clear HS1 hb9
  have hx1:=box_below w10 (.cells #[.int .i64 1,.int .i64 0] 3)
  have q1:=(HB8.out.trans (HW8A.out.mono HB8.out.size)).trans (hx1.mono (HB8.out.trans (HW8A.out.mono HB8.out.size)).size)
  have kk:Blk (w10.alloc (.cells #[.int .i64 1,.int .i64 0] 3)) w10.heap.size 3 (iv [1,0]):=Blk.new _ _ [_,_]
  have HS1:=Lib.hid (law_same04_n A6 (some ⟨w10.heap.size,0,none⟩) c6 2 2 2 [1,0] [1,0] true _ rfl rfl (by decide) (HR6.out _ q1) HC6.out.1 HC6.out.2 (rdI_blk kk))
  have HX1:=Lib.hid (HW8A.out.trans (hx1.mono HW8A.out.size))
  clear hx1 q1 kk
  go_wp2_with fail
  refine HS1.out.mono ?_
  rintro e w11 ⟨rfl,hb9⟩
  have HW8B:=Lib.hid (HX1.out.trans (hb9.mono HX1.out.size))
  clear HS1 hb9
  have hx1:=box_below w11 (.cells #[.int .i64 0,.int .i64 1] 3)
  have q1:=HW8B.out.trans (hx1.mono HW8B.out.size)
  have kk:Blk (w11.alloc (.cells #[.int .i64 0,.int .i64 1] 3)) w11.heap.size 3 (iv [0,1]):=Blk.new _ _ [_,_]
  have HS1:=Lib.hid (law_same04_n A8 (some ⟨w11.heap.size,0,none⟩) c8 2 2 2 [0,1] [0,1] true _ rfl rfl (by decide) (HR8.out _ q1) HC8.out.1 HC8.out.2 (rdI_blk kk))
  have HX1:=Lib.hid q1
  clear hx1 q1 kk
  go_wp2_with fail
  refine HS1.out.mono ?_
  rintro e w12 ⟨rfl,hb9⟩
  have HWF:=Lib.hid (HW08.out.trans ((HX1.out.trans (hb9.mono HX1.out.size)).mono HW08.out.size))
  clear HS1 hb9
  go_wp2
  go_ret
  exact ⟨rfl,HWF.out⟩
end Go.Proofs.Ytdnmpndnpfklcaa

/- The laws' Known of chapter 4 and Bits. -/
namespace Go.Proofs.Ytdnmpndnpfklcaa
open Go.RowKit Go Go.Maps
theorem law_Known04 (w:World):Calls Try.prog 35 #[] w fun e w'=>e = .returned (.bool true)∧Below w.heap.size w w':=by
  have HK:=Lib.hid (law_known04 w)
  go_enter Try.func35,Try.ntmps35
  go_wp2_with fail
  refine HK.out.mono ?_
  rintro e w1 ⟨rfl,hb1⟩
  have HB:=Lib.hid hb1
  clear hb1
  go_wp2
  go_ret
  exact ⟨rfl,HB.out⟩
set_option maxRecDepth 100000 in
set_option maxHeartbeats 1600000 in
theorem law_Bits (x:Int) (n:Nat) (w:World) (hx:0 ≤ x∧x ≤ 255) (hn:n ≤ 8) :
    Calls Try.prog 26 #[.int .u8 x,.int .i64 (n:Int)] w (RetO 3 (setB x n) w):=by
  obtain ⟨hx0,hx1⟩:=hx
  go_enter Try.func26,Try.ntmps26
  go_wp2
  go_loopw [5,6] (fun o i wr=>∃ k m:Nat,k ≤ n∧i = .int .i64 k∧m ≤ k∧Hid ((setB x k).length = m)∧Hid (wr.ownsRow w.heap.size 3 1 o m (iv (setB x k)))∧Hid (Below w.heap.size w wr)) (fun _ i _=>n - (intOf i).toNat)
  case atStart=>exact ⟨0,0,Nat.zero_le _,rfl,Nat.le_refl _,Lib.hid rfl,Lib.hid (World.ownsRow_nil _ _ _ _),Lib.hid (Below.refl _ _)⟩
  case round =>
    obtain ⟨k,m,hk,rfl,hmk,HM,HO,HB⟩:=hrel
    have hsz:=HB.out.size
    by_cases hlt:k < n
    case pos =>
      have b1:(k:Int) < (n:Int):=by omega
      have hk256:k < 256:=by omega
      cases hq:bitB x k with
      | true =>
        have hb2:(bits BinOp.and IntKind.u8 (x / 2 ^ k) 1 == 1) = true:=bit_u8 hq hx0 hx1
        have HQ:=Lib.hid hq;clear hq
        go_wp2_with (first | (at_builtin;refine wpList_push wr (.int .i64 (k:Int)) rfl (.tmp 17) (.tmp 19) 29 rfl w.heap.size 3 (.int .i64 0) 8 Try.underlying29 int_info rfl u5 m _ rfl HO.out rfl rfl (by omega) (by omega) hsz ?_;intro v' w' ho' hg' hb1) | fail)
        go_roundw
        case rel=>exact ⟨k + 1,m + 1,by omega,by go_num,by omega,Lib.hid (by rw [setB_yes HQ.out,List.length_append,HM.out];rfl),Lib.hid (by rw [setB_yes HQ.out,iv_append];exact ho'),Lib.hid (HB.out.trans hb1)⟩
        case measure=>simp [intOf];omega
      | false =>
        have hb2:(bits BinOp.and IntKind.u8 (x / 2 ^ k) 1 == 1) = false:=bit_u8 hq hx0 hx1
        have HQ:=Lib.hid hq;clear hq
        go_wp2
        go_roundw
        case rel=>exact ⟨k + 1,m,by omega,by go_num,by omega,Lib.hid (by rw [setB_no HQ.out];exact HM.out),Lib.hid (by rw [setB_no HQ.out];exact HO.out),HB⟩
        case measure=>simp [intOf];omega
    obtain rfl:k = n:=by omega
    have b1:¬ (k:Int) < (k:Int):=by omega
    go_wp2
    refine bodyPost_ret (v:=_) (by simp [results,Try.results26,go_sem];rfl) rfl ?_
    exact ⟨_,rfl,by rw [HM.out];exact HO.out,HB.out⟩
end Go.Proofs.Ytdnmpndnpfklcaa
