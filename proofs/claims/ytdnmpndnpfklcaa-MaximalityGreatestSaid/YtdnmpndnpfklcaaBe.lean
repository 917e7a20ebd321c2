/- The law's admissible. -/
import Derived.Test.YtdnmpndnpfklcaaBc

namespace Go.Proofs.Ytdnmpndnpfklcaa
open Go.RowKit Go Go.Maps
def AdS (p:Mx) (n:Nat) (set:List Int) (s:Int):Prop:=ldEL p set s = none∧hasB p.f s = false∧0 ≤ dstF p.a (inF n set) s
set_option maxRecDepth 100000 in
set_option maxHeartbeats 3200000 in
theorem law_admissible (z:PB) (n:Nat) (S:Option Addr) (cs ns:Nat) (set:List Int) (w:World) (h:z.ok w w.heap.size) (hm:z.m.ok) (hn:z.x.a.st = (n:Int)) (hel:z.x.ne ≤ 1000000) (hsl:set.length = ns) (hS:RdI w w.heap.size S set) (hs1:ns ≤ cs) (hs2:cs ≤ 9223372036854775807) (hsi:Inc set) (hsr:∀ t ∈ set,0 ≤ t∧t < (n:Int)) :
    Calls Try.prog 25 #[.agg (pbc z).toArray,.slice S ns cs] w (RetB (∀ s ∈ set,AdS z.m n set s) w):=by
  have hb1:=box_below w (.cells (pbc z).toArray 34)
  have kx:=Blk.new w 34 (pbc z)
  obtain ⟨w1,hw1⟩:∃ w1,w1 = w.alloc (.cells (pbc z).toArray 34):=⟨_,rfl⟩
  rw [← hw1] at hb1 kx
  have HZ:=Lib.hid (fun (W:World) (hb:Below w1.heap.size w1 W)=>(h.below (hb1.trans (hb.mono hb1.size))).more (hb1.trans (hb.mono hb1.size)).size)
  have HSK:=Lib.hid (fun (W:World) (hb:Below w1.heap.size w1 W)=>(hS.below (hb1.trans (hb.mono hb1.size))).more (hb1.trans (hb.mono hb1.size)).size)
  have HK:=Lib.hid (fun (W:World) (hb:Below w1.heap.size w1 W)=>kx.below hb kx.lt)
  have HB:=Lib.hid (fun (W:World) (hb:Below w1.heap.size w1 W)=>hb1.trans (hb.mono hb1.size))
  have HW1:=Lib.hid (show w.alloc (.cells (pbc z).toArray 34) = w1 from hw1.symm)
  have HSL:=Lib.hid hsl
  have HLD:=Lib.hid (fun (W:World) (s:Int) (hb:Below w1.heap.size w1 W)=>law_leads z s S cs ns set W (HZ.out W hb) hel hsl (HSK.out W hb) (Nat.le_trans hs1 hs2))
  have HDI:=Lib.hid (fun (W:World) (s:Nat) (hb:Below w1.heap.size w1 W) (h1:(s:Int) ∈ set)=>law_distance z n s S cs ns set W (HZ.out W hb) hm hn (by have:=hsr _ h1;omega) hsl (HSK.out W hb) hs1 hs2 hsi hsr h1)
  have HSR:=Lib.hid hsr
  clear hb1 kx hw1 h hS hsl hm hsi hsr
  unfold pbc at HK HW1 HLD HDI ⊢
  have HN0:=Lib.hid (show ∀ s ∈ set.take 0,AdS z.m n set s from fun y hy=>by simp at hy)
  rw [hn] at HK HW1 HLD HDI ⊢
  go_enter Try.func25,Try.ntmps25
  go_upto_region 1 with fail
  rw [HW1.out]
  go_wp2
  go_loopw [5,6,7] (fun s5 s6 s7 wr=>∃ (k:Nat) (v6 v7:Value),s5 = .int .i64 k∧s6 = v6∧s7 = v7∧k ≤ ns∧Hid (∀ s ∈ set.take k,AdS z.m n set s)∧Hid (Below w1.heap.size w1 wr)) (fun s5 _ _ _=>ns - (intOf s5).toNat)
  case atStart=>exact ⟨0,_,_,rfl,rfl,rfl,Nat.zero_le _,HN0,Lib.hid (Below.refl _ _)⟩
  case round =>
    clear HN0
    obtain ⟨k,v6,v7,rfl,rfl,rfl,hk,HNO,HBL⟩:=hrel
    by_cases hlt:k < ns
    case neg =>
      obtain rfl:k = ns:=by omega
      have b1:¬ (k:Int) < (k:Int):=by omega
      go_wp2
      go_ret
      exact ⟨true,rfl,⟨fun _ s hs=>HNO.out s (by rw [List.take_of_length_le (by rw [HSL.out];exact Nat.le_refl _)];exact hs),fun _=>rfl⟩,HB.out _ HBL.out⟩
    have b1:(k:Int) < (ns:Int):=by omega
    obtain ⟨ad,s,hA,_,hs,_⟩:=(HSK.out wr HBL.out).at_ (k:=k) (by rw [HSL.out];exact hlt)
    subst hA
    obtain ⟨s0,s1⟩:=HSR.out s (List.mem_of_getElem? hs)
    obtain ⟨ss,rfl⟩:∃ q:Nat,s = (q:Int):=⟨s.toNat,by omega⟩
    have HSM:=Lib.hid (List.mem_of_getElem? hs)
    have HTS:=Lib.hid (take_snoc' hs)
    have HAV:=Lib.hid (show ∀ V:World,Below w1.heap.size w1 V → (C5 V w.heap.size (.slice z.x.A z.x.na z.x.ca) (.int .i64 (n:Int)) (.slice z.x.M z.x.nm z.x.cm) (.slice z.x.E z.x.ne z.x.ce) (.slice z.u.A z.u.n z.u.c)∧V.cell? ⟨w.heap.size,5,none⟩ = some (.slice z.f.A z.f.n z.f.c))∧V.cell? (ad.add k) = some (.int .i64 (ss:Int)) from fun V hb=>⟨Blk.c6 (HK.out V hb),by
      obtain ⟨ad2,y,e1,_,e2,e3⟩:=(HSK.out V hb).at_ (k:=k) (by rw [HSL.out];exact hlt)
      injection e1 with e1
      subst e1
      rw [hs] at e2
      injection e2 with e2
      rw [e2];exact e3⟩)
    clear hs
    have HY:=Lib.hid (show AdS z.m n set (ss:Int) → ∀ y ∈ set.take (k + 1),AdS z.m n set y from fun h9 y hy=>by
      rw [HTS.out] at hy
      rcases List.mem_append.1 hy with hy | hy
      · exact HNO.out y hy
      · rw [List.mem_singleton.1 hy];exact h9)
    have HNN:=Lib.hid (show ¬ AdS z.m n set (ss:Int) → ¬ ∀ y ∈ set,AdS z.m n set y from fun h9 h8=>h9 (h8 _ HSM.out))
    obtain ⟨RES,hRES⟩:∃ q,ldEL z.m set (ss:Int) = q:=⟨_,rfl⟩
    have HRS:=Lib.hid hRES
    clear hRES
    go_upto_region 4 with fail
    have HBD:=Lib.hid (HBL.out.trans ((below_dr wr).mono HBL.out.size))
    refine wp_region_U (fun V=>(C5 V w.heap.size (.slice z.x.A z.x.na z.x.ca) (.int .i64 (n:Int)) (.slice z.x.M z.x.nm z.x.cm) (.slice z.x.E z.x.ne z.x.ce) (.slice z.u.A z.u.n z.u.c)∧V.cell? ⟨w.heap.size,5,none⟩ = some (.slice z.f.A z.f.n z.f.c))∧V.cell? (ad.add k) = some (.int .i64 (ss:Int))) (fun _=>True) 99 (by kernel_rfl) ?_
    change anyU _ _ _ _ _ _ _ 12 _ _ _
    generalize wr.drew = w3 at HBD ⊢
    have hA0:=HAV.out w3 HBD.out
    have hB0:True:=trivial
    have HL3:=Lib.hid (HLD.out w3 (ss:Int) HBD.out)
    rw [HRS.out] at HL3
    (refine uA 0 ?_ rfl hA0 hB0 (fun W hA=>?_) ?_;rotate_left;(· (obtain ⟨⟨⟨a0,a1,a2,a3,a4⟩,a5⟩,_⟩:=hA;go_simp;try with_reducible rfl));(try simp only [Act.put,List.setIfInBounds_toArray,List.set_cons_zero,List.set_cons_succ]))
    (refine uA 1 ?_ rfl hA0 hB0 (fun W hA=>?_) ?_;rotate_left;(· (go_simp;try with_reducible rfl));refine uA 2 ?_ rfl hA0 hB0 (fun W hA=>?_) ?_;rotate_left;(· (go_simp;try with_reducible rfl));refine uA 3 ?_ rfl hA0 hB0 (fun W hA=>?_) ?_;rotate_left;(· (go_simp;try with_reducible rfl));(try simp only [Act.put,List.setIfInBounds_toArray,List.set_cons_zero,List.set_cons_succ]))
    (refine uA 4 ?_ rfl hA0 hB0 (fun W hA=>?_) ?_;rotate_left;(· (obtain ⟨_,a0⟩:=hA;go_simp;try with_reducible rfl));(try simp only [Act.put,List.setIfInBounds_toArray,List.set_cons_zero,List.set_cons_succ]))
    (refine uA 5 ?_ rfl hA0 hB0 (fun W hA=>?_) ?_;rotate_left;(· (go_simp;try with_reducible rfl));(try simp only [Act.put,List.setIfInBounds_toArray,List.set_cons_zero,List.set_cons_succ]))
    refine uOne (i:=6) rfl (by kernel_rfl) (fun K hK=>?_)
    go_simp
    go_at_call 60
    refine HL3.out.mono ?_
    rintro e w4 ⟨rfl,hb4⟩
    have HB4:=Lib.hid (HBD.out.trans (hb4.mono HBD.out.size))
    clear hA0 hb4 HL3
    have hA0:=HAV.out w4 HB4.out
    cases RES with
    | some ev =>
      unfold ldV
      go_simp
      (refine hK _ _ ⟨hA0,fun h=>absurd (h.symm.trans (by kernel_rfl:_ = true)) Bool.false_ne_true⟩ ?_;clear hK K;(try simp only [Act.put,List.setIfInBounds_toArray,List.set_cons_zero,List.set_cons_succ]))
      (refine uA 7 ?_ rfl hA0 hB0 (fun W hA=>?_) ?_;rotate_left;(· (go_simp;try with_reducible rfl));refine uA 8 ?_ rfl hA0 hB0 (fun W hA=>?_) ?_;rotate_left;(· (go_simp;try with_reducible rfl));refine uA 9 ?_ rfl hA0 hB0 (fun W hA=>?_) ?_;rotate_left;(· (go_simp;try with_reducible rfl));(try simp only [Act.put,List.setIfInBounds_toArray,List.set_cons_zero,List.set_cons_succ]))
      refine uOne (i:=10) rfl (by kernel_rfl) (fun K hK=>?_)
      go_simp
      (refine hK _ _ ⟨hA0,fun h=>absurd (h.symm.trans (by kernel_rfl:_ = true)) Bool.false_ne_true⟩ ?_;clear hK K;(try simp only [Act.put,List.setIfInBounds_toArray,List.set_cons_zero,List.set_cons_succ]))
      refine uOne (i:=11) rfl (by kernel_rfl) (fun K hK=>?_)
      go_simp
      (refine hK _ _ ⟨hA0,fun h=>absurd (h.symm.trans (by kernel_rfl:_ = true)) Bool.false_ne_true⟩ ?_;clear hK K;(try simp only [Act.put,List.setIfInBounds_toArray,List.set_cons_zero,List.set_cons_succ]))
      refine anyU_done (by kernel_rfl) ?_ _
      clear hA0
      go_upto_region 5 with fail
      have HB5:=Lib.hid (HB4.out.trans ((below_dr w4).mono HB4.out.size))
      refine wp_region_U (fun V=>(C5 V w.heap.size (.slice z.x.A z.x.na z.x.ca) (.int .i64 (n:Int)) (.slice z.x.M z.x.nm z.x.cm) (.slice z.x.E z.x.ne z.x.ce) (.slice z.u.A z.u.n z.u.c)∧V.cell? ⟨w.heap.size,5,none⟩ = some (.slice z.f.A z.f.n z.f.c))∧V.cell? (ad.add k) = some (.int .i64 (ss:Int))) (fun _=>True) 99 (by kernel_rfl) ?_
      change anyU _ _ _ _ _ _ _ 20 _ _ _
      generalize w4.drew = w5 at HB5 ⊢
      have hA0:=HAV.out w5 HB5.out
      have HN9:=Lib.hid (HNN.out (fun h=>by have:=h.1;rw [HRS.out] at this;cases this))
      (refine uA 0 ?_ rfl hA0 hB0 (fun W hA=>?_) ?_;rotate_left;(· (go_simp;try with_reducible rfl));refine uA 1 ?_ rfl hA0 hB0 (fun W hA=>?_) ?_;rotate_left;(· (go_simp;try with_reducible rfl));(try simp only [Act.put,List.setIfInBounds_toArray,List.set_cons_zero,List.set_cons_succ]))
      (refine uS 2 rfl hA0 hB0 ?_;refine uS 3 rfl hA0 hB0 ?_;refine uS 4 rfl hA0 hB0 ?_;(try simp only [Act.put,List.setIfInBounds_toArray,List.set_cons_zero,List.set_cons_succ]))
      (refine uS 5 rfl hA0 hB0 ?_;refine uS 6 rfl hA0 hB0 ?_;refine uS 7 rfl hA0 hB0 ?_;(try simp only [Act.put,List.setIfInBounds_toArray,List.set_cons_zero,List.set_cons_succ]))
      (refine uS 8 rfl hA0 hB0 ?_;(try simp only [Act.put,List.setIfInBounds_toArray,List.set_cons_zero,List.set_cons_succ]))
      (refine uA 9 ?_ rfl hA0 hB0 (fun W hA=>?_) ?_;rotate_left;(· (go_simp;try with_reducible rfl));refine uA 10 ?_ rfl hA0 hB0 (fun W hA=>?_) ?_;rotate_left;(· (go_simp;try with_reducible rfl));(try simp only [Act.put,List.setIfInBounds_toArray,List.set_cons_zero,List.set_cons_succ]))
      (refine uS 11 rfl hA0 hB0 ?_;refine uS 12 rfl hA0 hB0 ?_;refine uS 13 rfl hA0 hB0 ?_;(try simp only [Act.put,List.setIfInBounds_toArray,List.set_cons_zero,List.set_cons_succ]))
      (refine uS 14 rfl hA0 hB0 ?_;refine uS 15 rfl hA0 hB0 ?_;refine uS 16 rfl hA0 hB0 ?_;(try simp only [Act.put,List.setIfInBounds_toArray,List.set_cons_zero,List.set_cons_succ]))
      (refine uS 17 rfl hA0 hB0 ?_;refine uS 18 rfl hA0 hB0 ?_;(try simp only [Act.put,List.setIfInBounds_toArray,List.set_cons_zero,List.set_cons_succ]))
      (refine uA 19 ?_ rfl hA0 hB0 (fun W hA=>?_) ?_;rotate_left;(· (go_simp;try with_reducible rfl));(try simp only [Act.put,List.setIfInBounds_toArray,List.set_cons_zero,List.set_cons_succ]))
      refine anyU_done (by kernel_rfl) ?_ _
      go_wp2
      go_ret
      exact ⟨false,rfl,⟨(fun h=>by cases h),fun h=>absurd h HN9.out⟩,HB.out _ HB5.out⟩
    | none =>
      unfold ldV
      go_simp
      (refine hK _ _ ⟨hA0,fun h=>absurd (h.symm.trans (by kernel_rfl:_ = true)) Bool.false_ne_true⟩ ?_;clear hK K;(try simp only [Act.put,List.setIfInBounds_toArray,List.set_cons_zero,List.set_cons_succ]))
      (refine uA 7 ?_ rfl hA0 hB0 (fun W hA=>?_) ?_;rotate_left;(· (go_simp;try with_reducible rfl));refine uA 8 ?_ rfl hA0 hB0 (fun W hA=>?_) ?_;rotate_left;(· (go_simp;try with_reducible rfl));refine uA 9 ?_ rfl hA0 hB0 (fun W hA=>?_) ?_;rotate_left;(· (go_simp;try with_reducible rfl));(try simp only [Act.put,List.setIfInBounds_toArray,List.set_cons_zero,List.set_cons_succ]))
      refine uOne (i:=10) rfl (by kernel_rfl) (fun K hK=>?_)
      go_simp
      (refine hK _ _ ⟨hA0,fun h=>absurd (h.symm.trans (by kernel_rfl:_ = true)) Bool.false_ne_true⟩ ?_;clear hK K;(try simp only [Act.put,List.setIfInBounds_toArray,List.set_cons_zero,List.set_cons_succ]))
      refine uOne (i:=11) rfl (by kernel_rfl) (fun K hK=>?_)
      go_simp
      (refine hK _ _ ⟨hA0,fun h=>absurd (h.symm.trans (by kernel_rfl:_ = true)) Bool.false_ne_true⟩ ?_;clear hK K;(try simp only [Act.put,List.setIfInBounds_toArray,List.set_cons_zero,List.set_cons_succ]))
      refine anyU_done (by kernel_rfl) ?_ _
      clear hA0
      go_upto_region 5 with fail
      have HB5:=Lib.hid (HB4.out.trans ((below_dr w4).mono HB4.out.size))
      refine wp_region_U (fun V=>(C5 V w.heap.size (.slice z.x.A z.x.na z.x.ca) (.int .i64 (n:Int)) (.slice z.x.M z.x.nm z.x.cm) (.slice z.x.E z.x.ne z.x.ce) (.slice z.u.A z.u.n z.u.c)∧V.cell? ⟨w.heap.size,5,none⟩ = some (.slice z.f.A z.f.n z.f.c))∧V.cell? (ad.add k) = some (.int .i64 (ss:Int))) (fun _=>True) 99 (by kernel_rfl) ?_
      change anyU _ _ _ _ _ _ _ 20 _ _ _
      generalize w4.drew = w5 at HB5 ⊢
      have hA0:=HAV.out w5 HB5.out
      obtain ⟨q,hq⟩:∃ q,hasB z.f.l (ss:Int) = q:=⟨_,rfl⟩
      have HQ:=Lib.hid (show hasB z.m.f (ss:Int) = q from hq)
      have hff:=(HZ.out w5 HB5.out).f
      have HH:=Lib.hid (law_has z.f.A z.f.c z.f.n z.f.l (ss:Int) q w5 hff.la hff.ra (Nat.le_trans hff.ac hff.cA) hq)
      clear hff hq
      (refine uA 0 ?_ rfl hA0 hB0 (fun W hA=>?_) ?_;rotate_left;(· (go_simp;try with_reducible rfl));refine uA 1 ?_ rfl hA0 hB0 (fun W hA=>?_) ?_;rotate_left;(· (go_simp;try with_reducible rfl));refine uA 2 ?_ rfl hA0 hB0 (fun W hA=>?_) ?_;rotate_left;(· (go_simp;try with_reducible rfl));(try simp only [Act.put,List.setIfInBounds_toArray,List.set_cons_zero,List.set_cons_succ]))
      (refine uA 3 ?_ rfl hA0 hB0 (fun W hA=>?_) ?_;rotate_left;(· (obtain ⟨⟨_,a5⟩,_⟩:=hA;go_simp;try with_reducible rfl));(try simp only [Act.put,List.setIfInBounds_toArray,List.set_cons_zero,List.set_cons_succ]))
      (refine uA 4 ?_ rfl hA0 hB0 (fun W hA=>?_) ?_;rotate_left;(· (go_simp;try with_reducible rfl));refine uA 5 ?_ rfl hA0 hB0 (fun W hA=>?_) ?_;rotate_left;(· (go_simp;try with_reducible rfl));refine uA 6 ?_ rfl hA0 hB0 (fun W hA=>?_) ?_;rotate_left;(· (go_simp;try with_reducible rfl));(try simp only [Act.put,List.setIfInBounds_toArray,List.set_cons_zero,List.set_cons_succ]))
      (refine uA 7 ?_ rfl hA0 hB0 (fun W hA=>?_) ?_;rotate_left;(· (obtain ⟨_,a0⟩:=hA;go_simp;try with_reducible rfl));(try simp only [Act.put,List.setIfInBounds_toArray,List.set_cons_zero,List.set_cons_succ]))
      refine uOne (i:=8) rfl (by kernel_rfl) (fun K hK=>?_)
      go_simp
      go_at_call 21
      refine HH.out.mono ?_
      rintro e w6 ⟨rfl,rfl⟩
      go_simp
      (refine hK _ _ ⟨hA0,fun h=>absurd (h.symm.trans (by kernel_rfl:_ = true)) Bool.false_ne_true⟩ ?_;clear hK K;(try simp only [Act.put,List.setIfInBounds_toArray,List.set_cons_zero,List.set_cons_succ]))
      cases q with
      | true =>
        have HN9:=Lib.hid (HNN.out (fun h=>by have:=h.2.1;rw [HQ.out] at this;cases this))
        (refine uA 9 ?_ rfl hA0 hB0 (fun W hA=>?_) ?_;rotate_left;(· (go_simp;try with_reducible rfl));refine uA 10 ?_ rfl hA0 hB0 (fun W hA=>?_) ?_;rotate_left;(· (go_simp;try with_reducible rfl));(try simp only [Act.put,List.setIfInBounds_toArray,List.set_cons_zero,List.set_cons_succ]))
        (refine uS 11 rfl hA0 hB0 ?_;refine uS 12 rfl hA0 hB0 ?_;refine uS 13 rfl hA0 hB0 ?_;(try simp only [Act.put,List.setIfInBounds_toArray,List.set_cons_zero,List.set_cons_succ]))
        (refine uS 14 rfl hA0 hB0 ?_;refine uS 15 rfl hA0 hB0 ?_;refine uS 16 rfl hA0 hB0 ?_;(try simp only [Act.put,List.setIfInBounds_toArray,List.set_cons_zero,List.set_cons_succ]))
        (refine uS 17 rfl hA0 hB0 ?_;refine uS 18 rfl hA0 hB0 ?_;(try simp only [Act.put,List.setIfInBounds_toArray,List.set_cons_zero,List.set_cons_succ]))
        (refine uA 19 ?_ rfl hA0 hB0 (fun W hA=>?_) ?_;rotate_left;(· (go_simp;try with_reducible rfl));(try simp only [Act.put,List.setIfInBounds_toArray,List.set_cons_zero,List.set_cons_succ]))
        refine anyU_done (by kernel_rfl) ?_ _
        go_wp2
        go_ret
        exact ⟨false,rfl,⟨(fun h=>by cases h),fun h=>absurd h HN9.out⟩,HB.out _ HB5.out⟩
      | false =>
        have HDD:=Lib.hid (HDI.out w5 ss HB5.out HSM.out)
        obtain ⟨dv,hdv⟩:∃ q,dstF z.x.a (inF n set) (ss:Int) = q:=⟨_,rfl⟩
        rw [hdv] at HDD
        have HDV:=Lib.hid (show dstF z.m.a (inF n set) (ss:Int) = dv from hdv)
        clear hdv
        (refine uA 9 ?_ rfl hA0 hB0 (fun W hA=>?_) ?_;rotate_left;(· (go_simp;try with_reducible rfl));refine uA 10 ?_ rfl hA0 hB0 (fun W hA=>?_) ?_;rotate_left;(· (go_simp;try with_reducible rfl));(try simp only [Act.put,List.setIfInBounds_toArray,List.set_cons_zero,List.set_cons_succ]))
        (refine uA 11 ?_ rfl hA0 hB0 (fun W hA=>?_) ?_;rotate_left;(· (obtain ⟨⟨⟨a0,a1,a2,a3,a4⟩,a5⟩,_⟩:=hA;go_simp;try with_reducible rfl));(try simp only [Act.put,List.setIfInBounds_toArray,List.set_cons_zero,List.set_cons_succ]))
        (refine uA 12 ?_ rfl hA0 hB0 (fun W hA=>?_) ?_;rotate_left;(· (go_simp;try with_reducible rfl));refine uA 13 ?_ rfl hA0 hB0 (fun W hA=>?_) ?_;rotate_left;(· (go_simp;try with_reducible rfl));refine uA 14 ?_ rfl hA0 hB0 (fun W hA=>?_) ?_;rotate_left;(· (go_simp;try with_reducible rfl));(try simp only [Act.put,List.setIfInBounds_toArray,List.set_cons_zero,List.set_cons_succ]))
        (refine uA 15 ?_ rfl hA0 hB0 (fun W hA=>?_) ?_;rotate_left;(· (obtain ⟨_,a0⟩:=hA;go_simp;try with_reducible rfl));(try simp only [Act.put,List.setIfInBounds_toArray,List.set_cons_zero,List.set_cons_succ]))
        (refine uA 16 ?_ rfl hA0 hB0 (fun W hA=>?_) ?_;rotate_left;(· (go_simp;try with_reducible rfl));(try simp only [Act.put,List.setIfInBounds_toArray,List.set_cons_zero,List.set_cons_succ]))
        refine uOne (i:=17) rfl (by kernel_rfl) (fun K hK=>?_)
        go_simp
        go_at_call 47
        refine HDD.out.mono ?_
        rintro e w6 ⟨rfl,hb6⟩
        have HB6:=Lib.hid (HB5.out.trans (hb6.mono HB5.out.size))
        clear hA0 hb6
        have hA0:=HAV.out w6 HB6.out
        go_simp
        (refine hK _ _ ⟨hA0,fun h=>absurd (h.symm.trans (by kernel_rfl:_ = true)) Bool.false_ne_true⟩ ?_;clear hK K;(try simp only [Act.put,List.setIfInBounds_toArray,List.set_cons_zero,List.set_cons_succ]))
        by_cases hd:dv < 0
        · have HN9:=Lib.hid (HNN.out (fun h=>by have:=h.2.2;rw [HDV.out] at this;omega))
          (refine uA 18 ?_ rfl hA0 hB0 (fun W hA=>?_) ?_;rotate_left;(· (go_simp;try with_reducible rfl));refine uA 19 ?_ rfl hA0 hB0 (fun W hA=>?_) ?_;rotate_left;(· (go_simp;try with_reducible rfl));(try simp only [Act.put,List.setIfInBounds_toArray,List.set_cons_zero,List.set_cons_succ]))
          refine anyU_done (by kernel_rfl) ?_ _
          clear hA0
          go_wp2
          go_ret
          exact ⟨false,rfl,⟨(fun h=>by cases h),fun h=>absurd h HN9.out⟩,HB.out _ HB6.out⟩
        · have HY9:=Lib.hid (HY.out ⟨HRS.out,HQ.out,by rw [HDV.out];omega⟩)
          (refine uA 18 ?_ rfl hA0 hB0 (fun W hA=>?_) ?_;rotate_left;(· (go_simp;try with_reducible rfl));refine uA 19 ?_ rfl hA0 hB0 (fun W hA=>?_) ?_;rotate_left;(· (go_simp;try with_reducible rfl));(try simp only [Act.put,List.setIfInBounds_toArray,List.set_cons_zero,List.set_cons_succ]))
          refine anyU_done (by kernel_rfl) ?_ _
          clear hA0
          go_wp2
          go_roundw
          case rel=>exact ⟨k + 1,_,_,by go_num,rfl,rfl,by omega,HY9,HB6⟩
          case measure=>simp [intOf];omega
end Go.Proofs.Ytdnmpndnpfklcaa
/- The closures of Admissible. -/
namespace Go.Proofs.Ytdnmpndnpfklcaa
open Go.RowKit Go Go.Maps
theorem max_adm1 (bx fb n:Nat) (N:List Bool) (s:Int) (w:World) (kb:Blk w bx 87 [.slice (some ⟨fb,0,none⟩) n n]) (kf:Blk w fb 4 (bvl N)) (hN:N.length = n) (h0:0 ≤ s) (h1:s < (n:Int)) (q:Bool) (hq:fl N s = q) :
    Calls Try.prog 62 #[.int .i64 s,.pointer (some ⟨bx,0,none⟩)] w fun e w'=>e = .returned (.bool q)∧w = w':=by
  have c0:=kb.cell (j:=0) rfl
  have c1:w.cell? ⟨fb,s.toNat,none⟩ = some (.bool q):=kf.cell (by rw [bvl_get,fl_get hq h0 (by omega)];rfl)
  have t1:¬ s < 0:=by omega
  clear hq kb kf
  go_enter Try.func62,Try.ntmps62
  go_wp2
  go_ret
  exact ⟨rfl,rfl⟩
theorem max_adm3 (bx ob n:Nat) (D:List Int) (s:Int) (w:World) (kb:Blk w bx 29 [.slice (some ⟨ob,0,none⟩) n n]) (kd:Blk w ob 3 (iv D)) (hD:D.length = n) (h0:0 ≤ s) (h1:s < (n:Int)) (q:Bool) (hq:decide (gI D s < 0) = q) :
    Calls Try.prog 65 #[.int .i64 s,.pointer (some ⟨bx,0,none⟩)] w fun e w'=>e = .returned (.bool q)∧w = w':=by
  obtain ⟨d,hd⟩:∃ d,gI D s = d:=⟨_,rfl⟩
  have c0:=kb.cell (j:=0) rfl
  have c1:w.cell? ⟨ob,s.toNat,none⟩ = some (.int .i64 d):=by
    have h9:=kd.cell (iv_gI (l:=D) (i:=s.toNat) (by omega))
    rw [show ((s.toNat:Nat):Int) = s by omega,hd] at h9
    exact h9
  have t1:¬ s < 0:=by omega
  rw [hd] at hq
  have HQ:=Lib.hid hq
  clear hq kb kd hd
  go_enter Try.func65,Try.ntmps65
  go_wp2
  go_ret
  exact ⟨by rw [← HQ.out];rfl,rfl⟩
theorem max_adm2 (bx fb by_ cb n:Nat) (N C:List Bool) (x:Ed) (w:World) (kb:Blk w bx 87 [.slice (some ⟨fb,0,none⟩) n n]) (kf:Blk w fb 4 (bvl N)) (hN:N.length = n) (kc:Blk w by_ 87 [.slice (some ⟨cb,0,none⟩) 32 32]) (kd:Blk w cb 4 (bvl C)) (hC:C.length = 32)
    (hf:0 ≤ x.f∧x.f < (n:Int)) (ht:0 ≤ x.t∧x.t < (n:Int)) (he:0 ≤ x.e∧x.e < 32) :
    Calls Try.prog 64 #[.agg #[.int .i64 x.f,.int .i64 x.e,.int .i64 x.t],.pointer (some ⟨bx,0,none⟩),.pointer (some ⟨by_,0,none⟩)] w fun e w'=>e = .returned (.bool (fl N x.f && !fl N x.t && fl C x.e))∧Below w.heap.size w w':=by
  have hb1:=box_below w (.cells #[.int .i64 x.f,.int .i64 x.e,.int .i64 x.t] 67)
  have ke:Blk (w.alloc (.cells #[.int .i64 x.f,.int .i64 x.e,.int .i64 x.t] 67)) w.heap.size 67 [.int .i64 x.f,.int .i64 x.e,.int .i64 x.t]:=Blk.new _ _ [_,_,_]
  obtain ⟨q1,hq1⟩:∃ q,fl N x.f = q:=⟨_,rfl⟩
  obtain ⟨q2,hq2⟩:∃ q,fl N x.t = q:=⟨_,rfl⟩
  obtain ⟨q3,hq3⟩:∃ q,fl C x.e = q:=⟨_,rfl⟩
  have c0:=(kb.below hb1 kb.lt).cell (j:=0) rfl
  have c1:=(kc.below hb1 kc.lt).cell (j:=0) rfl
  have d1:=(kf.below hb1 kf.lt).cell (j:=x.f.toNat) (u:=.bool q1) (by rw [bvl_get,fl_get hq1 hf.1 (by omega)];rfl)
  have d2:=(kf.below hb1 kf.lt).cell (j:=x.t.toNat) (u:=.bool q2) (by rw [bvl_get,fl_get hq2 ht.1 (by omega)];rfl)
  have d3:=(kd.below hb1 kd.lt).cell (j:=x.e.toNat) (u:=.bool q3) (by rw [bvl_get,fl_get hq3 he.1 (by omega)];rfl)
  have HB:=Lib.hid hb1
  have t1:¬ x.f < 0:=by omega
  have t2:¬ x.t < 0:=by omega
  have t3:¬ x.e < 0:=by omega
  obtain ⟨f0,f1⟩:=hf
  obtain ⟨u0,u1⟩:=ht
  obtain ⟨v0,v1⟩:=he
  rw [hq1,hq2,hq3]
  have e0:=ke.cell (j:=0) rfl
  have e1:=ke.cell (j:=1) rfl
  have e2:=ke.cell (j:=2) rfl
  clear hq1 hq2 hq3 kb kf kc kd hb1 ke
  cases q1 <;> cases q2 <;> cases q3 <;> (go_enter Try.func64,Try.ntmps64;go_wp2;go_ret;exact ⟨rfl,HB.out⟩)
end Go.Proofs.Ytdnmpndnpfklcaa
