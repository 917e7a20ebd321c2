/- Walk of the law MaximalityProves. -/
import Derived.Test.YtdnmpndnpfklcaaBr
import Derived.Test.YtdnmpndnpfklcaaBc
import Derived.Deep.QuietTactic
import Derived.BigQuiet

namespace Go.Proofs.Ytdnmpndnpfklcaa
open Go.RowKit Go Go.Maps
end Go.Proofs.Ytdnmpndnpfklcaa
/- The law's admissible. -/
namespace Go.Proofs.Ytdnmpndnpfklcaa
open Go.RowKit Go Go.Maps
end Go.Proofs.Ytdnmpndnpfklcaa

/- The closures of Admissible. -/
namespace Go.Proofs.Ytdnmpndnpfklcaa
open Go.RowKit Go Go.Maps
end Go.Proofs.Ytdnmpndnpfklcaa

/- The law's keeps. -/
namespace Go.Proofs.Ytdnmpndnpfklcaa
open Go.RowKit Go Go.Maps
def DnX (c:Ce) (s d:Int) (j:Nat) (x:Ed):Prop:=x.f = s∧∃ (i:Nat) (e:Int),i < j∧c.kp[i]? = some x.t∧c.ds[i]? = some e∧e < d
def DnP (p:Mx) (c:Ce) (s d:Int) (k:Nat):Prop:=d = 0 ∨ ∃ x ∈ p.a.ed.take k,DnX c s d c.kp.length x
theorem ldEL_none {p:Mx} {set:List Int} {s:Int}:ldEL p set s = none ↔ ∀ x ∈ p.a.ed,x.f = s → hasB p.u x.e = true → x.t ∈ set:=by
 unfold ldEL
 rw [Option.map_eq_none_iff,List.find?_eq_none]
 constructor
 ·intro h x hx hf hu
  have h1:=h x hx
  unfold ldPL at h1
  rw [hf,hu] at h1
  simpa [hasB_mem] using h1
 ·intro h x hx h1
  unfold ldPL at h1
  simp only [Bool.and_eq_true,decide_eq_true_eq,Bool.not_eq_true'] at h1
  have h2:=h x hx h1.1.1 h1.1.2
  rw [hasB_mem.2 h2] at h1
  exact absurd h1.2 (by simp)
theorem keeps_iff {p:Mx} {c:Ce} {s d:Int} {q:Bool} (hl:ldEL p c.kp s = none) (hf:hasB p.f s = false) (h0:¬ d < 0) (hz:d = 0 → hasB p.a.ma s = true) (hq:q = true ↔ DnP p c s d p.a.ed.length):q = true ↔ KOk p c s d:=by
 rw [hq]
 unfold DnP
 rw [List.take_length]
 constructor
 ·intro h
  refine ⟨fun h1=>?_,ldEL_none.1 hl,by omega,fun h1=>hasB_mem.1 (hz h1),fun h1=>?_⟩
  ·rw [hasB_mem.2 h1] at hf;cases hf
  ·rcases h with h | ⟨x,hx,h2,i,e,_,h3,h4,h5⟩
   ·exact absurd h h1
   ·exact ⟨x,hx,h2,i,e,h3,h4,h5⟩
 ·intro h
  by_cases h1:d = 0
  ·exact .inl h1
  ·obtain ⟨x,hx,h2,i,e,h3,h4,h5⟩:=h.down h1
   exact .inr ⟨x,hx,h2,i,e,(List.getElem?_eq_some_iff.1 h3).1,h3,h4,h5⟩
theorem DnP.succ {p:Mx} {c:Ce} {s d:Int} {k:Nat} {x:Ed} (h:p.a.ed[k]? = some x):DnP p c s d (k + 1) ↔ DnP p c s d k ∨ DnX c s d c.kp.length x:=by
 unfold DnP
 rw [take_snoc' h]
 constructor
 ·rintro (h1 | ⟨y,hy,h2⟩)
  ·exact .inl (.inl h1)
  ·rcases List.mem_append.1 hy with hy | hy
   ·exact .inl (.inr ⟨y,hy,h2⟩)
   ·rw [List.mem_singleton.1 hy] at h2;exact .inr h2
 ·rintro ((h1 | ⟨y,hy,h2⟩) | h2)
  ·exact .inl h1
  ·exact .inr ⟨y,List.mem_append_left _ hy,h2⟩
  ·exact .inr ⟨x,List.mem_append_right _ (List.mem_singleton.2 rfl),h2⟩
theorem DnX.succ {c:Ce} {s d y e:Int} {j:Nat} {x:Ed} (h1:c.kp[j]? = some y) (h2:c.ds[j]? = some e):DnX c s d (j + 1) x ↔ DnX c s d j x ∨ (x.f = s∧x.t = y∧e < d):=by
 unfold DnX
 constructor
 ·rintro ⟨h3,i,e',hi,h4,h5,h6⟩
  by_cases hij:i = j
  ·subst hij
   rw [h1] at h4
   rw [h2] at h5
   injection h4 with h4
   injection h5 with h5
   exact .inr ⟨h3,h4.symm,by rw [h5];exact h6⟩
  ·exact .inl ⟨h3,i,e',by omega,h4,h5,h6⟩
 ·rintro (⟨h3,i,e',hi,h4,h5,h6⟩ | ⟨h3,h4,h5⟩)
  ·exact ⟨h3,i,e',by omega,h4,h5,h6⟩
  ·exact ⟨h3,j,e,by omega,by rw [h4];exact h1,h2,h5⟩
set_option maxRecDepth 100000 in
set_option maxHeartbeats 6400000 in
theorem law_keeps (z:PB) (C:CV) (s d:Int) (w:World) (h:z.ok w w.heap.size) (hc:C.ok w w.heap.size) (hel:z.x.ne ≤ 1000000) (hrn:C.k.n ≤ 1000000) (hdl:C.d.n = C.k.n) :
  Calls Try.prog 52 #[.agg (pbc z).toArray,.agg (cvc C).toArray,.int .i64 s,.int .i64 d] w (RetB (KOk z.m C.ce s d) w):=by
 have hb1:=box_below w (.cells (pbc z).toArray 34)
 have kx:=Blk.new w 34 (pbc z)
 obtain ⟨w1,hw1⟩:∃ w1,w1 = w.alloc (.cells (pbc z).toArray 34):=⟨_,rfl⟩
 rw [← hw1] at hb1 kx
 have hb2:=box_below w1 (.cells (cvc C).toArray 38)
 have kx2:=kx.below hb2 kx.lt
 have kc:=Blk.new w1 38 (cvc C)
 have hs1:w1.heap.size = w.heap.size + 1:=by rw [hw1];simp
 rw [hs1] at kc
 obtain ⟨w2,hw2⟩:∃ w2,w2 = w1.alloc (.cells (cvc C).toArray 38):=⟨_,rfl⟩
 rw [← hw2] at hb2 kx2 kc
 have hb12:=hb1.trans (hb2.mono hb1.size)
 have HZ:=Lib.hid (fun (W:World) (hb:Below w2.heap.size w2 W)=>(h.below (hb12.trans (hb.mono hb12.size))).more (hb12.trans (hb.mono hb12.size)).size)
 have HC:=Lib.hid (fun (W:World) (hb:Below w2.heap.size w2 W)=>(hc.below (hb12.trans (hb.mono hb12.size))).more (hb12.trans (hb.mono hb12.size)).size)
 have HKP:=Lib.hid (fun (W:World) (hb:Below w2.heap.size w2 W)=>Blk.c6 (kx2.below hb kx2.lt))
 have HKC:=Lib.hid (fun (W:World) (hb:Below w2.heap.size w2 W)=>Blk.c3 (kc.below hb kc.lt))
 have HB:=Lib.hid (fun (W:World) (hb:Below w2.heap.size w2 W)=>hb12.trans (hb.mono hb12.size))
 have HW2:=Lib.hid (show (w.alloc (.cells (pbc z).toArray 34)).alloc (.cells (cvc C).toArray 38) = w2 by rw [hw2,hw1])
 have HEL:=Lib.hid (show z.m.a.ed.length = z.x.ne from h.x.le)
 have HKL:=Lib.hid (show C.k.l.length = C.k.n from hc.k.la)
 have HDL:=Lib.hid (show C.d.l.length = C.d.n from hc.d.la)
 have hec:z.x.ne ≤ z.x.ce:=h.x.ec
 have hec2:z.x.ce ≤ 9223372036854775807:=h.x.cE
 have HPV:=Lib.hid (show pbc z = [.slice z.x.A z.x.na z.x.ca,.int .i64 z.x.a.st,.slice z.x.M z.x.nm z.x.cm,.slice z.x.E z.x.ne z.x.ce,.slice z.u.A z.u.n z.u.c,.slice z.f.A z.f.n z.f.c] from rfl)
 have HCV:=Lib.hid (show cvc C = [.slice C.k.A C.k.n C.k.c,.slice C.d.A C.d.n C.d.c,.slice C.R C.rn C.rc] from rfl)
 obtain ⟨RES,hRES⟩:∃ q,ldEL z.m C.k.l s = q:=⟨_,rfl⟩
 have HLD:=Lib.hid (law_leads z s C.k.A C.k.c C.k.n C.k.l w2 (HZ.out w2 (Below.refl _ _)) hel hc.k.la (HC.out w2 (Below.refl _ _)).k.ra (Nat.le_trans hrn (by omega)))
 rw [hRES] at HLD
 have HRS:=Lib.hid hRES
 have HLDK:=Lib.hid hdl;clear hdl
 clear hb1 kx hw1 hb2 kx2 kc hw2 hs1 hb12 h hc hRES
 rw [HPV.out] at HW2 HLD ⊢
 rw [HCV.out] at HW2 ⊢
 unfold pbc at HKP
 unfold cvc at HKC
 go_enter Try.func52,Try.ntmps52
 go_upto_region 1 with fail
 rw [HW2.out]
 obtain ⟨⟨a0,a1,a2,a3,a4⟩,a5⟩:=HKP.out w2 (Below.refl _ _)
 obtain ⟨c0,c1,c2⟩:=HKC.out w2 (Below.refl _ _)
 go_wp2_with fail
 refine HLD.out.mono ?_
 rintro e w3 ⟨rfl,hb3⟩
 have HB3:=Lib.hid hb3
 clear hb3 a0 a1 a2 a3 a4 a5 c0 c1 c2 HLD
 obtain ⟨⟨a0,a1,a2,a3,a4⟩,a5⟩:=HKP.out w3 HB3.out
 obtain ⟨c0,c1,c2⟩:=HKC.out w3 HB3.out
 cases RES with
 | some ev =>
  unfold ldV
  have HN9:=Lib.hid (show ¬ KOk z.m C.ce s d from fun h=>by
   have h1:=ldEL_none.2 h.un
   rw [show ldEL z.m C.ce.kp s = some ev from HRS.out] at h1
   cases h1)
  go_wp2
  go_ret
  exact ⟨false,rfl,⟨(fun h=>by cases h),fun h=>absurd h HN9.out⟩,HB.out _ HB3.out⟩
 | none =>
 unfold ldV
 have HLN:=Lib.hid (show ldEL z.m C.ce.kp s = none from HRS.out)
 obtain ⟨qf,hqf⟩:∃ q,hasB z.f.l s = q:=⟨_,rfl⟩
 have hff:=(HZ.out w3 HB3.out).f
 have HF:=Lib.hid (law_has z.f.A z.f.c z.f.n z.f.l s qf w3 hff.la hff.ra (Nat.le_trans hff.ac hff.cA) hqf)
 have HQF:=Lib.hid (show hasB z.m.f s = qf from hqf)
 clear hff hqf
 go_wp2_with fail
 refine HF.out.mono ?_
 rintro e w6 ⟨rfl,rfl⟩
 clear HF
 cases qf with
 | true =>
  have HN9:=Lib.hid (show ¬ KOk z.m C.ce s d from fun h=>h.fo (hasB_mem.1 HQF.out))
  go_wp2
  go_ret
  exact ⟨false,rfl,⟨(fun h=>by cases h),fun h=>absurd h HN9.out⟩,HB.out _ HB3.out⟩
 | false =>
 have HFN:=Lib.hid (show hasB z.m.f s = false from HQF.out)
 by_cases hd0:d < 0
 case pos =>
  have HN9:=Lib.hid (show ¬ KOk z.m C.ce s d from fun h=>by have:=h.pos;omega)
  go_wp2
  go_ret
  exact ⟨false,rfl,⟨(fun h=>by cases h),fun h=>absurd h HN9.out⟩,HB.out _ HB3.out⟩
 by_cases hdz:d = 0
 case neg =>
  have hdz':(d == 0) = false:=by simpa using hdz
  have HZN:=Lib.hid (show d = 0 → hasB z.m.a.ma s = true from fun h=>absurd h hdz)
  have HQ0:=Lib.hid (show true = false ↔ DnP z.m C.ce s d 0 from by
   unfold DnP
   simp [List.take_zero]
   exact hdz)
  go_wp2
  clear a0 a1 a2 a3 a4 a5 c0 c1 c2
  go_loopw [11,12,13] (fun s11 s12 s13 wr=>∃ (q:Bool) (k:Nat) (v13:Value),s11 = .bool q∧s12 = .int .i64 k∧s13 = v13∧k ≤ z.x.ne∧Hid (true = q ↔ DnP z.m C.ce s d k)∧Hid (Below w2.heap.size w2 wr)) (fun _ s12 _ _=>z.x.ne - (intOf s12).toNat)
  case atStart=>exact ⟨false,0,_,rfl,rfl,rfl,Nat.zero_le _,Lib.hid (by have h9:=HQ0.out;simpa using h9),HB3⟩
  case round =>
   clear HQ0
   obtain ⟨q,k,v13,rfl,rfl,rfl,hk,HQ,HBL⟩:=hrel
   obtain ⟨⟨a0,a1,a2,a3,a4⟩,a5⟩:=HKP.out wr HBL.out
   obtain ⟨c0,c1,c2⟩:=HKC.out wr HBL.out
   by_cases hlt:k < z.x.ne
   case neg =>
    obtain rfl:k = z.x.ne:=by omega
    have b1:¬ (z.x.ne:Int) < (z.x.ne:Int):=by omega
    have HFIN:=Lib.hid (show q = true ↔ KOk z.m C.ce s d from keeps_iff HLN.out HFN.out (by omega) HZN.out (by rw [HEL.out];exact ⟨fun h=>HQ.out.1 h.symm,fun h=>(HQ.out.2 h).symm⟩))
    go_wp2
    go_ret
    exact ⟨q,rfl,HFIN.out,HB.out _ HBL.out⟩
   have b1:(k:Int) < (z.x.ne:Int):=by omega
   obtain ⟨ad,x,hA,_,hx,g0,g1,g2⟩:=(HZ.out wr HBL.out).x.re.at_ (k:=k) (by show k < z.m.a.ed.length;rw [HEL.out];exact hlt)
   have HX:=Lib.hid (show z.m.a.ed[k]? = some x from hx)
   have HI0:=Lib.hid (show true = q ↔ DnP z.m C.ce s d k ∨ DnX C.ce s d 0 x from by
    rw [HQ.out]
    exact ⟨.inl,fun h=>h.elim id (fun ⟨_,i,_,hi,_⟩=>absurd hi (Nat.not_lt_zero i))⟩)
   have HRR:=Lib.hid (fun (W:World) (hb:Below w2.heap.size w2 W)=>(show W.cell? (ad.add (k * 3)) = some (.int .i64 x.f)∧W.cell? ⟨(ad.add (k * 3)).block,(ad.add (k * 3)).off + 2,none⟩ = some (.int .i64 x.t)∧W.cell? ⟨w.heap.size,3,none⟩ = some (.slice (some ad) z.x.ne z.x.ce) from by
    obtain ⟨ad2,y,e1,_,e2,f0,f1,f2⟩:=(HZ.out W hb).x.re.at_ (k:=k) (by show k < z.m.a.ed.length;rw [HEL.out];exact hlt)
    rw [hA] at e1
    injection e1 with e1
    subst e1
    rw [hx] at e2
    injection e2 with e2
    subst e2
    obtain ⟨⟨_,_,_,a3,_⟩,_⟩:=HKP.out W hb
    rw [hA] at a3
    exact ⟨f0,st_cells (j:=1) f2,a3⟩))
   clear hA hx g0 g1 g2
   go_wp2
   clear a0 a1 a2 a3 a4 a5 c0 c1 c2
   go_loopw [11,13] (fun s11 s13 wi=>∃ (q:Bool) (j:Nat),s11 = .bool q∧s13 = .int .i64 j∧j ≤ C.k.n∧Hid (true = q ↔ DnP z.m C.ce s d k ∨ DnX C.ce s d j x)∧Hid (Below w2.heap.size w2 wi)) (fun _ s13 _=>C.k.n - (intOf s13).toNat)
   case atStart=>exact ⟨q,0,rfl,rfl,Nat.zero_le _,HI0,HBL⟩
   case round =>
    clear HI0
    obtain ⟨q,j,rfl,rfl,hj,HJ,HBJ⟩:=hrel
    obtain ⟨wi,rfl⟩:∃ q,q = wr:=⟨_,rfl⟩
    obtain ⟨c0,c1,c2⟩:=HKC.out wi HBJ.out
    by_cases hlj:j < C.k.n
    case neg =>
     obtain rfl:j = C.k.n:=by omega
     have b2:¬ (C.k.n:Int) < (C.k.n:Int):=by omega
     have HQ9:=Lib.hid (show true = q ↔ DnP z.m C.ce s d (k + 1) from by
      rw [DnP.succ HX.out,HJ.out,show C.ce.kp.length = C.k.n from HKL.out])
     go_wp2
     go_roundw
     case rel=>exact ⟨q,k + 1,_,rfl,by go_num,rfl,by omega,HQ9,HBJ⟩
     case measure=>simp [intOf];omega
    have b2:(j:Int) < (C.k.n:Int):=by omega
    have b3:(j:Int) < (C.d.n:Int):=by have:=HLDK.out;omega
    obtain ⟨kd,y,hK,_,hy,hcy⟩:=(HC.out wi HBJ.out).k.ra.at_ (k:=j) (by rw [HKL.out];exact hlj)
    obtain ⟨dd,e,hD,_,he,hce⟩:=(HC.out wi HBJ.out).d.ra.at_ (k:=j) (by rw [HDL.out,HLDK.out];exact hlj)
    rw [hK] at c0
    rw [hD] at c1
    have HXS:=Lib.hid (show DnX C.ce s d (j + 1) x ↔ DnX C.ce s d j x ∨ (x.f = s∧x.t = y∧e < d) from DnX.succ hy he)
    obtain ⟨g0,r2,a3⟩:=HRR.out wi HBJ.out
    clear hK hD hy he
    cases q with
    | true =>
     have HQ9:=Lib.hid (show true = true ↔ DnP z.m C.ce s d k ∨ DnX C.ce s d (j + 1) x from ⟨(fun _=>by
      rw [HXS.out]
      rcases HJ.out.1 rfl with h | h
      ·exact .inl h
      ·exact .inr (.inl h)),fun _=>rfl⟩)
     go_wp2_with fail
     go_quiet (fail)
     go_wp2
     go_roundw
     case rel=>exact ⟨true,j + 1,rfl,by go_num,by omega,Lib.hid (by have h9:=HQ9.out;simpa using h9),Lib.hid (below_drewN HBJ.out _)⟩
     case measure=>simp [intOf];omega
    | false =>
     have HNO:=Lib.hid (show ¬ DnP z.m C.ce s d k∧¬ DnX C.ce s d j x from ⟨(fun h=>by have:=HJ.out.2 (.inl h);cases this),(fun h=>by have:=HJ.out.2 (.inr h);cases this)⟩)
     have HQN:=Lib.hid (show ¬ (x.f = s∧x.t = y∧e < d) → (true = false ↔ DnP z.m C.ce s d k ∨ DnX C.ce s d (j + 1) x) from fun h=>⟨(fun h1=>by cases h1),fun h1=>by
      rw [HXS.out] at h1
      rcases h1 with h1 | h1 | h1
      ·exact absurd h1 HNO.out.1
      ·exact absurd h1 HNO.out.2
      ·exact absurd h1 h⟩)
     by_cases hf:x.f = s
     case neg =>
      have hf':(x.f == s) = false:=by rw [beq_eq_false_iff_ne];exact hf
      have HQ9:=Lib.hid (HQN.out (fun h=>hf h.1))
      clear hf
      go_wp2_with fail
      go_quiet (fail)
      go_wp2
      go_roundw
      case rel=>exact ⟨false,j + 1,rfl,by go_num,by omega,HQ9,Lib.hid (below_drewN HBJ.out _)⟩
      case measure=>simp [intOf];omega
     have hf':(x.f == s) = true:=by simpa using hf
     by_cases ht:x.t = y
     case neg =>
      have ht':(x.t == y) = false:=by rw [beq_eq_false_iff_ne];exact ht
      have HQ9:=Lib.hid (HQN.out (fun h=>ht h.2.1))
      clear ht hf
      go_wp2_with fail
      go_quiet (fail)
      go_wp2
      go_roundw
      case rel=>exact ⟨false,j + 1,rfl,by go_num,by omega,HQ9,Lib.hid (below_drewN HBJ.out _)⟩
      case measure=>simp [intOf];omega
     have ht':(x.t == y) = true:=by simpa using ht
     by_cases hed:e < d
     case neg =>
      have hed':decide (e < d) = false:=by simpa using hed
      have HQ9:=Lib.hid (HQN.out (fun h=>hed h.2.2))
      clear ht hf
      go_wp2_with fail
      go_quiet (fail)
      go_wp2
      go_roundw
      case rel=>exact ⟨false,j + 1,rfl,by go_num,by omega,HQ9,Lib.hid (below_drewN HBJ.out _)⟩
      case measure=>simp [intOf];omega
     have HQ9:=Lib.hid (show true = true ↔ DnP z.m C.ce s d k ∨ DnX C.ce s d (j + 1) x from ⟨fun _=>.inr (HXS.out.2 (.inr ⟨hf,ht,hed⟩)),fun _=>rfl⟩)
     clear ht hf
     go_wp2_with fail
     go_quiet (fail)
     go_wp2
     go_roundw
     case rel=>exact ⟨true,j + 1,rfl,by go_num,by omega,Lib.hid (by have h9:=HQ9.out;simpa using h9),Lib.hid (below_drewN HBJ.out _)⟩
     case measure=>simp [intOf];omega
 have hdz':(d == 0) = true:=by simpa using hdz
 have HDZ:=Lib.hid hdz;clear hdz
 obtain ⟨qm,hqm⟩:∃ q,hasB z.x.a.ma s = q:=⟨_,rfl⟩
 have hfm:=(HZ.out w3 HB3.out).x
 have HM:=Lib.hid (law_has z.x.M z.x.cm z.x.nm z.x.a.ma s qm w3 hfm.lm hfm.rm (Nat.le_trans hfm.mc hfm.cM) hqm)
 have HQM:=Lib.hid (show hasB z.m.a.ma s = qm from hqm)
 clear hfm hqm
 go_wp2_with fail
 refine HM.out.mono ?_
 rintro e w7 ⟨rfl,rfl⟩
 clear HM
 cases qm with
 | false =>
  have HN9:=Lib.hid (show ¬ KOk z.m C.ce s d from fun h=>by
   have h1:=hasB_mem.2 (h.zero HDZ.out)
   rw [HQM.out] at h1
   cases h1)
  go_wp2
  go_ret
  exact ⟨false,rfl,⟨(fun h=>by cases h),fun h=>absurd h HN9.out⟩,HB.out _ HB3.out⟩
 | true =>
  have HZN:=Lib.hid (show d = 0 → hasB z.m.a.ma s = true from fun _=>HQM.out)
  have HQ0:=Lib.hid (show true = true ↔ DnP z.m C.ce s d 0 from by
   unfold DnP
   simp [List.take_zero]
   exact HDZ.out)
  go_wp2
  clear a0 a1 a2 a3 a4 a5 c0 c1 c2
  go_loopw [11,12,13] (fun s11 s12 s13 wr=>∃ (q:Bool) (k:Nat) (v13:Value),s11 = .bool q∧s12 = .int .i64 k∧s13 = v13∧k ≤ z.x.ne∧Hid (true = q ↔ DnP z.m C.ce s d k)∧Hid (Below w2.heap.size w2 wr)) (fun _ s12 _ _=>z.x.ne - (intOf s12).toNat)
  case atStart=>exact ⟨true,0,_,rfl,rfl,rfl,Nat.zero_le _,Lib.hid (by have h9:=HQ0.out;simpa using h9),HB3⟩
  case round =>
   clear HQ0
   obtain ⟨q,k,v13,rfl,rfl,rfl,hk,HQ,HBL⟩:=hrel
   obtain ⟨⟨a0,a1,a2,a3,a4⟩,a5⟩:=HKP.out wr HBL.out
   obtain ⟨c0,c1,c2⟩:=HKC.out wr HBL.out
   by_cases hlt:k < z.x.ne
   case neg =>
    obtain rfl:k = z.x.ne:=by omega
    have b1:¬ (z.x.ne:Int) < (z.x.ne:Int):=by omega
    have HFIN:=Lib.hid (show q = true ↔ KOk z.m C.ce s d from keeps_iff HLN.out HFN.out (by omega) HZN.out (by rw [HEL.out];exact ⟨fun h=>HQ.out.1 h.symm,fun h=>(HQ.out.2 h).symm⟩))
    go_wp2
    go_ret
    exact ⟨q,rfl,HFIN.out,HB.out _ HBL.out⟩
   have b1:(k:Int) < (z.x.ne:Int):=by omega
   obtain ⟨ad,x,hA,_,hx,g0,g1,g2⟩:=(HZ.out wr HBL.out).x.re.at_ (k:=k) (by show k < z.m.a.ed.length;rw [HEL.out];exact hlt)
   have HX:=Lib.hid (show z.m.a.ed[k]? = some x from hx)
   have HI0:=Lib.hid (show true = q ↔ DnP z.m C.ce s d k ∨ DnX C.ce s d 0 x from by
    rw [HQ.out]
    exact ⟨.inl,fun h=>h.elim id (fun ⟨_,i,_,hi,_⟩=>absurd hi (Nat.not_lt_zero i))⟩)
   have HRR:=Lib.hid (fun (W:World) (hb:Below w2.heap.size w2 W)=>(show W.cell? (ad.add (k * 3)) = some (.int .i64 x.f)∧W.cell? ⟨(ad.add (k * 3)).block,(ad.add (k * 3)).off + 2,none⟩ = some (.int .i64 x.t)∧W.cell? ⟨w.heap.size,3,none⟩ = some (.slice (some ad) z.x.ne z.x.ce) from by
    obtain ⟨ad2,y,e1,_,e2,f0,f1,f2⟩:=(HZ.out W hb).x.re.at_ (k:=k) (by show k < z.m.a.ed.length;rw [HEL.out];exact hlt)
    rw [hA] at e1
    injection e1 with e1
    subst e1
    rw [hx] at e2
    injection e2 with e2
    subst e2
    obtain ⟨⟨_,_,_,a3,_⟩,_⟩:=HKP.out W hb
    rw [hA] at a3
    exact ⟨f0,st_cells (j:=1) f2,a3⟩))
   clear hA hx g0 g1 g2
   go_wp2
   clear a0 a1 a2 a3 a4 a5 c0 c1 c2
   go_loopw [11,13] (fun s11 s13 wi=>∃ (q:Bool) (j:Nat),s11 = .bool q∧s13 = .int .i64 j∧j ≤ C.k.n∧Hid (true = q ↔ DnP z.m C.ce s d k ∨ DnX C.ce s d j x)∧Hid (Below w2.heap.size w2 wi)) (fun _ s13 _=>C.k.n - (intOf s13).toNat)
   case atStart=>exact ⟨q,0,rfl,rfl,Nat.zero_le _,HI0,HBL⟩
   case round =>
    clear HI0
    obtain ⟨q,j,rfl,rfl,hj,HJ,HBJ⟩:=hrel
    obtain ⟨wi,rfl⟩:∃ q,q = wr:=⟨_,rfl⟩
    obtain ⟨c0,c1,c2⟩:=HKC.out wi HBJ.out
    by_cases hlj:j < C.k.n
    case neg =>
     obtain rfl:j = C.k.n:=by omega
     have b2:¬ (C.k.n:Int) < (C.k.n:Int):=by omega
     have HQ9:=Lib.hid (show true = q ↔ DnP z.m C.ce s d (k + 1) from by
      rw [DnP.succ HX.out,HJ.out,show C.ce.kp.length = C.k.n from HKL.out])
     go_wp2
     go_roundw
     case rel=>exact ⟨q,k + 1,_,rfl,by go_num,rfl,by omega,HQ9,HBJ⟩
     case measure=>simp [intOf];omega
    have b2:(j:Int) < (C.k.n:Int):=by omega
    have b3:(j:Int) < (C.d.n:Int):=by have:=HLDK.out;omega
    obtain ⟨kd,y,hK,_,hy,hcy⟩:=(HC.out wi HBJ.out).k.ra.at_ (k:=j) (by rw [HKL.out];exact hlj)
    obtain ⟨dd,e,hD,_,he,hce⟩:=(HC.out wi HBJ.out).d.ra.at_ (k:=j) (by rw [HDL.out,HLDK.out];exact hlj)
    rw [hK] at c0
    rw [hD] at c1
    have HXS:=Lib.hid (show DnX C.ce s d (j + 1) x ↔ DnX C.ce s d j x ∨ (x.f = s∧x.t = y∧e < d) from DnX.succ hy he)
    obtain ⟨g0,r2,a3⟩:=HRR.out wi HBJ.out
    clear hK hD hy he
    cases q with
    | true =>
     have HQ9:=Lib.hid (show true = true ↔ DnP z.m C.ce s d k ∨ DnX C.ce s d (j + 1) x from ⟨(fun _=>by
      rw [HXS.out]
      rcases HJ.out.1 rfl with h | h
      ·exact .inl h
      ·exact .inr (.inl h)),fun _=>rfl⟩)
     go_wp2_with fail
     go_quiet (fail)
     go_wp2
     go_roundw
     case rel=>exact ⟨true,j + 1,rfl,by go_num,by omega,Lib.hid (by have h9:=HQ9.out;simpa using h9),Lib.hid (below_drewN HBJ.out _)⟩
     case measure=>simp [intOf];omega
    | false =>
     have HNO:=Lib.hid (show ¬ DnP z.m C.ce s d k∧¬ DnX C.ce s d j x from ⟨(fun h=>by have:=HJ.out.2 (.inl h);cases this),(fun h=>by have:=HJ.out.2 (.inr h);cases this)⟩)
     have HQN:=Lib.hid (show ¬ (x.f = s∧x.t = y∧e < d) → (true = false ↔ DnP z.m C.ce s d k ∨ DnX C.ce s d (j + 1) x) from fun h=>⟨(fun h1=>by cases h1),fun h1=>by
      rw [HXS.out] at h1
      rcases h1 with h1 | h1 | h1
      ·exact absurd h1 HNO.out.1
      ·exact absurd h1 HNO.out.2
      ·exact absurd h1 h⟩)
     by_cases hf:x.f = s
     case neg =>
      have hf':(x.f == s) = false:=by rw [beq_eq_false_iff_ne];exact hf
      have HQ9:=Lib.hid (HQN.out (fun h=>hf h.1))
      clear hf
      go_wp2_with fail
      go_quiet (fail)
      go_wp2
      go_roundw
      case rel=>exact ⟨false,j + 1,rfl,by go_num,by omega,HQ9,Lib.hid (below_drewN HBJ.out _)⟩
      case measure=>simp [intOf];omega
     have hf':(x.f == s) = true:=by simpa using hf
     by_cases ht:x.t = y
     case neg =>
      have ht':(x.t == y) = false:=by rw [beq_eq_false_iff_ne];exact ht
      have HQ9:=Lib.hid (HQN.out (fun h=>ht h.2.1))
      clear ht hf
      go_wp2_with fail
      go_quiet (fail)
      go_wp2
      go_roundw
      case rel=>exact ⟨false,j + 1,rfl,by go_num,by omega,HQ9,Lib.hid (below_drewN HBJ.out _)⟩
      case measure=>simp [intOf];omega
     have ht':(x.t == y) = true:=by simpa using ht
     by_cases hed:e < d
     case neg =>
      have hed':decide (e < d) = false:=by simpa using hed
      have HQ9:=Lib.hid (HQN.out (fun h=>hed h.2.2))
      clear ht hf
      go_wp2_with fail
      go_quiet (fail)
      go_wp2
      go_roundw
      case rel=>exact ⟨false,j + 1,rfl,by go_num,by omega,HQ9,Lib.hid (below_drewN HBJ.out _)⟩
      case measure=>simp [intOf];omega
     have HQ9:=Lib.hid (show true = true ↔ DnP z.m C.ce s d k ∨ DnX C.ce s d (j + 1) x from ⟨fun _=>.inr (HXS.out.2 (.inr ⟨hf,ht,hed⟩)),fun _=>rfl⟩)
     clear ht hf
     go_wp2_with fail
     go_quiet (fail)
     go_wp2
     go_roundw
     case rel=>exact ⟨true,j + 1,rfl,by go_num,by omega,Lib.hid (by have h9:=HQ9.out;simpa using h9),Lib.hid (below_drewN HBJ.out _)⟩
     case measure=>simp [intOf];omega
end Go.Proofs.Ytdnmpndnpfklcaa
