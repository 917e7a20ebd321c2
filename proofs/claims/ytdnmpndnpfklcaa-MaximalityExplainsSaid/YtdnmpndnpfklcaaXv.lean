/- The law's small functions: same, has, removal. -/
import Derived.Test.YtdnmpndnpfklcaaXu
import Derived.Test.YtdnmpndnpfklcaaMi
namespace Go.Proofs.Ytdnmpndnpfklcaa
open Go.RowKit Go Go.Maps
set_option maxHeartbeats 400000 in
theorem law_same28 (A B:Option Addr) (c d:Nat) (a b:List Int) (w:World) (ha:RdI w w.heap.size A a) (hac:a.length ≤ c) (hc:c ≤ 9223372036854775807)
    (hb:RdI w w.heap.size B b) :
    Calls Try.prog 18 #[.slice A a.length c,.slice B b.length d] w fun e w'=>e = .returned (.bool (eqB a b))∧∃ n,w' = w.drewN n:=by
  by_cases hl:a.length = b.length
  · have hl1:((a.length:Int) != (b.length:Int)) = false:=by simp [hl]
    have HL:=Lib.hid hl;clear hl
    go_enter Try.func18,Try.ntmps18
    go_wp2
    go_loopw [5] (fun i wr=>∃ k:Nat,k ≤ a.length∧i = .int .i64 k∧Hid (a.take k = b.take k)∧∃ n,wr = w.drewN n) (fun i _=>a.length - (intOf i).toNat)
    case atStart=>exact ⟨0,Nat.zero_le _,rfl,Lib.hid rfl,(by first | exact dr00 _ | exact dr0 _ _ | exact dr1 _ _ _ | exact dr2 _ _ _ _ | exact dr3 _ _ _ _ _)⟩
    case round =>
      obtain ⟨k,hk,rfl,HX,n,rfl⟩:=hrel
      by_cases hlt:k < a.length
      · obtain ⟨ad,x,rfl,_,hx,hcx⟩:=ha.at_ hlt
        obtain ⟨bd,y,rfl,_,hy,hcy⟩:=hb.at_ (k:=k) (by have:=HL.out;omega)
        have HXX:=Lib.hid hx;clear hx
        have HYY:=Lib.hid hy;clear hy
        have hkb:k < b.length:=by have:=HL.out;omega
        have b1:(k:Int) < (a.length:Int):=by omega
        have b2:(k:Int) < (b.length:Int):=by omega
        by_cases hxy:x = y
        · subst hxy
          go_wp2
          go_quiet (fail)
          go_wp2
          go_roundw
          case rel=>exact ⟨k + 1,by omega,by go_num,Lib.hid (take_eq_snoc HXX.out HYY.out HX.out),(by first | exact dr00 _ | exact dr0 _ _ | exact dr1 _ _ _ | exact dr2 _ _ _ _ | exact dr3 _ _ _ _ _)⟩
          case measure=>simp [intOf];omega
        · have hxy':(x != y) = true:=by simpa using hxy
          go_wp2
          go_quiet (fail)
          go_wp2
          go_ret
          exact ⟨ret_bool (ne_of_get HXX.out HYY.out hxy).symm,(by first | exact dr00 _ | exact dr0 _ _ | exact dr1 _ _ _ | exact dr2 _ _ _ _ | exact dr3 _ _ _ _ _)⟩
      · go_wp2
        go_ret
        exact ⟨ret_bool (eqB_of (eq_of_drop HL.out HX.out hlt)).symm,(by first | exact dr00 _ | exact dr0 _ _ | exact dr1 _ _ _ | exact dr2 _ _ _ _ | exact dr3 _ _ _ _ _)⟩
  · have hl1:((a.length:Int) != (b.length:Int)) = true:=by rw [bne_iff_ne];omega
    have HL:=Lib.hid hl;clear hl
    go_enter Try.func18,Try.ntmps18
    go_wp2
    go_ret
    exact ⟨ret_bool (ne_of_len HL.out).symm,(by first | exact dr00 _ | exact dr0 _ _ | exact dr1 _ _ _ | exact dr2 _ _ _ _ | exact dr3 _ _ _ _ _)⟩
theorem law_same_n (A B:Option Addr) (c d na nb:Nat) (a b:List Int) (q:Bool) (w:World) (hna:a.length = na) (hnb:b.length = nb) (hq:eqB a b = q) (ha:RdI w w.heap.size A a) (hac:na ≤ c) (hc:c ≤ 9223372036854775807)
    (hb:RdI w w.heap.size B b):Calls Try.prog 18 #[.slice A na c,.slice B nb d] w fun e w'=>e = .returned (.bool q)∧Below w.heap.size w w':=by
  subst hna hnb hq
  exact (law_same28 A B c d a b w ha hac hc hb).mono fun e w' ⟨h1,n,h2⟩=>⟨h1,by rw [h2];exact below_drewN (Below.refl _ _) n⟩
set_option maxHeartbeats 400000 in
theorem law_same04 (A B:Option Addr) (c d:Nat) (a b:List Int) (w:World) (ha:RdI w w.heap.size A a) (hac:a.length ≤ c) (hc:c ≤ 9223372036854775807)
    (hb:RdI w w.heap.size B b) :
    Calls Try.prog 100 #[.slice A a.length c,.slice B b.length d] w fun e w'=>e = .returned (.bool (eqB a b))∧∃ n,w' = w.drewN n:=by
  by_cases hl:a.length = b.length
  · have hl1:((a.length:Int) != (b.length:Int)) = false:=by simp [hl]
    have HL:=Lib.hid hl;clear hl
    go_enter Try.func100,Try.ntmps100
    go_wp2
    go_loopw [5] (fun i wr=>∃ k:Nat,k ≤ a.length∧i = .int .i64 k∧Hid (a.take k = b.take k)∧∃ n,wr = w.drewN n) (fun i _=>a.length - (intOf i).toNat)
    case atStart=>exact ⟨0,Nat.zero_le _,rfl,Lib.hid rfl,(by first | exact dr00 _ | exact dr0 _ _ | exact dr1 _ _ _ | exact dr2 _ _ _ _ | exact dr3 _ _ _ _ _)⟩
    case round =>
      obtain ⟨k,hk,rfl,HX,n,rfl⟩:=hrel
      by_cases hlt:k < a.length
      · obtain ⟨ad,x,rfl,_,hx,hcx⟩:=ha.at_ hlt
        obtain ⟨bd,y,rfl,_,hy,hcy⟩:=hb.at_ (k:=k) (by have:=HL.out;omega)
        have HXX:=Lib.hid hx;clear hx
        have HYY:=Lib.hid hy;clear hy
        have hkb:k < b.length:=by have:=HL.out;omega
        have b1:(k:Int) < (a.length:Int):=by omega
        have b2:(k:Int) < (b.length:Int):=by omega
        by_cases hxy:x = y
        · subst hxy
          go_wp2
          go_quiet (fail)
          go_wp2
          go_roundw
          case rel=>exact ⟨k + 1,by omega,by go_num,Lib.hid (take_eq_snoc HXX.out HYY.out HX.out),(by first | exact dr00 _ | exact dr0 _ _ | exact dr1 _ _ _ | exact dr2 _ _ _ _ | exact dr3 _ _ _ _ _)⟩
          case measure=>simp [intOf];omega
        · have hxy':(x != y) = true:=by simpa using hxy
          go_wp2
          go_quiet (fail)
          go_wp2
          go_ret
          exact ⟨ret_bool (ne_of_get HXX.out HYY.out hxy).symm,(by first | exact dr00 _ | exact dr0 _ _ | exact dr1 _ _ _ | exact dr2 _ _ _ _ | exact dr3 _ _ _ _ _)⟩
      · go_wp2
        go_ret
        exact ⟨ret_bool (eqB_of (eq_of_drop HL.out HX.out hlt)).symm,(by first | exact dr00 _ | exact dr0 _ _ | exact dr1 _ _ _ | exact dr2 _ _ _ _ | exact dr3 _ _ _ _ _)⟩
  · have hl1:((a.length:Int) != (b.length:Int)) = true:=by rw [bne_iff_ne];omega
    have HL:=Lib.hid hl;clear hl
    go_enter Try.func100,Try.ntmps100
    go_wp2
    go_ret
    exact ⟨ret_bool (ne_of_len HL.out).symm,(by first | exact dr00 _ | exact dr0 _ _ | exact dr1 _ _ _ | exact dr2 _ _ _ _ | exact dr3 _ _ _ _ _)⟩
theorem law_same04_n (A B:Option Addr) (c d na nb:Nat) (a b:List Int) (q:Bool) (w:World) (hna:a.length = na) (hnb:b.length = nb) (hq:eqB a b = q) (ha:RdI w w.heap.size A a) (hac:na ≤ c) (hc:c ≤ 9223372036854775807)
    (hb:RdI w w.heap.size B b):Calls Try.prog 100 #[.slice A na c,.slice B nb d] w fun e w'=>e = .returned (.bool q)∧Below w.heap.size w w':=by
  subst hna hnb hq
  exact (law_same04 A B c d a b w ha hac hc hb).mono fun e w' ⟨h1,n,h2⟩=>⟨h1,by rw [h2];exact below_drewN (Below.refl _ _) n⟩
theorem hasB_hitD {l:List Int} {k:Nat} {x y:Int} (h:l[k]? = some y) (he:y = x):hasB (l.drop k) x = true:=by
  rw [drop_cons' h];subst he;simp [hasB]
theorem hasB_goD {l:List Int} {k:Nat} {x y:Int} (h:l[k]? = some y) (he:y ≠ x):hasB (l.drop k) x = hasB (l.drop (k + 1)) x:=by
  rw [drop_cons' h];simp [hasB,Ne.symm he]
theorem hasB_endD {l:List Int} {k:Nat} {x:Int} (h:¬ k < l.length):hasB (l.drop k) x = false:=by
  rw [List.drop_of_length_le (by omega)];rfl
set_option maxRecDepth 100000 in
set_option maxHeartbeats 1600000 in
theorem law_has (A:Option Addr) (c n:Nat) (l:List Int) (x:Int) (r:Bool) (w:World) (hl:l.length = n) (h:RdI w w.heap.size A l) (hn:n ≤ 9223372036854775807) (hr:hasB l x = r) :
    Calls Try.prog 21 #[.slice A n c,.int .i64 x] w fun e w'=>e = .returned (.bool r)∧w = w':=by
  have HR:=Lib.hid (show r = hasB (l.drop 0) x from hr.symm)
  have HL:=Lib.hid hl;clear hl
  clear hr
  go_enter Try.func21,Try.ntmps21
  go_wp2
  go_loop [5] (fun i=>∃ k:Nat,k ≤ n∧i = .int .i64 k∧Hid (r = hasB (l.drop k) x)) (fun i=>n - (intOf i).toNat)
  case atStart=>exact ⟨0,Nat.zero_le _,rfl,HR⟩
  case round =>
    obtain ⟨k,hk,rfl,HX⟩:=hrel
    clear HR
    by_cases hlt:k < n
    · obtain ⟨ad,y,rfl,hbb,hy,q0⟩:=h.at_ (k:=k) (by have:=HL.out;omega)
      have b1:(k:Int) < (n:Int):=by omega
      have HY:=Lib.hid hy;clear hy
      by_cases c1:y = x
      · have d1:(y == x) = true:=by simpa using c1
        have HB:=Lib.hid (show r = true by rw [HX.out,hasB_hitD HY.out c1])
        clear c1
        go_wp2
        go_ret
        exact ⟨ret_bool HB.out.symm,rfl⟩
      · have d1:(y == x) = false:=by simpa using c1
        have HB:=Lib.hid (show r = hasB (l.drop (k + 1)) x by rw [HX.out,hasB_goD HY.out c1])
        clear c1
        go_wp2
        go_round
        case rel=>exact ⟨k + 1,by omega,by go_num,HB⟩
        case measure=>simp [intOf];omega
    · have hf:r = false:=by rw [HX.out,hasB_endD (by have:=HL.out;omega)]
      have HF:=Lib.hid hf;clear hf
      go_wp2
      go_ret
      exact ⟨ret_bool HF.out.symm,rfl⟩
def rmV (o:Option Rm):Value:=.tuple #[.agg (rmc (o.getD ⟨0,0,0,0⟩)).toArray,.bool o.isSome]
theorem rmOf_hit {c:Ce} {k:Nat} {x:Int} {r:Rm} (h:c.rm[k]? = some r) (he:r.s = x) (hn:∀ y ∈ c.rm.take k,y.s ≠ x):rmOf c x = some r:=by
  unfold rmOf
  have e:c.rm = c.rm.take k ++ r :: c.rm.drop (k + 1):=by
    rw [← drop_cons' h,List.take_append_drop]
  rw [e,List.find?_append,List.find?_eq_none.2 (fun y hy=>by simpa using hn y hy),Option.none_or,List.find?_cons_of_pos (by simpa using he)]
set_option maxRecDepth 100000 in
set_option maxHeartbeats 1600000 in
theorem law_removal (c:CV) (x:Int) (w:World) (hc:c.ok w w.heap.size) :
    Calls Try.prog 24 #[.agg (cvc c).toArray,.int .i64 x] w fun e w'=>e = .returned (rmV (rmOf c.ce x))∧Below w.heap.size w w':=by
  have hb1:=box_below w (.cells (cvc c).toArray 38)
  have kx:=Blk.new w 38 (cvc c)
  obtain ⟨w1,hw1⟩:∃ w1,w1 = w.alloc (.cells (cvc c).toArray 38):=⟨_,rfl⟩
  rw [← hw1] at hb1 kx
  have hb2:=box_below w1 (.cells #[.int .i64 0,.int .i64 0,.int .i64 0,.int .i64 0] 63)
  have kx2:=kx.below hb2 kx.lt
  have kr:Blk (w1.alloc (.cells #[.int .i64 0,.int .i64 0,.int .i64 0,.int .i64 0] 63)) w1.heap.size 63 z4c:=Blk.new _ _ [_,_,_,_]
  have hs1:w1.heap.size = w.heap.size + 1:=by rw [hw1];simp
  rw [hs1] at kr
  obtain ⟨w2,hw2⟩:∃ w2,w2 = w1.alloc (.cells #[.int .i64 0,.int .i64 0,.int .i64 0,.int .i64 0] 63):=⟨_,rfl⟩
  rw [← hw2] at hb2 kx2 kr
  have hb12:=hb1.trans (hb2.mono hb1.size)
  have HZC:=Lib.hid ((hc.below hb12).more hb12.size)
  have HB:=Lib.hid hb12
  have HKR:=Lib.hid kr
  have HW2:=Lib.hid (show (w.alloc (.cells (cvc c).toArray 38)).alloc (.cells #[.int .i64 0,.int .i64 0,.int .i64 0,.int .i64 0] 63) = w2 by rw [hw2,hw1])
  obtain ⟨RES,hRES⟩:∃ q,rmOf c.ce x = q:=⟨_,rfl⟩
  rw [hRES]
  have HRES:=Lib.hid hRES
  obtain ⟨⟨KA,kn,kc,kl⟩,⟨DA,dn,dc,dl⟩,RA,rn,rc,l⟩:=c
  unfold cvc at kx2 HW2 ⊢
  dsimp only at kx2 HW2 HZC ⊢
  have HRL:=Lib.hid (show l.length = rn from HZC.out.rl)
  have hrc:rn ≤ rc:=HZC.out.r1
  have hrc2:rc ≤ 9223372036854775807:=HZC.out.r2
  have HN0:=Lib.hid (show ∀ y ∈ l.take 0,y.s ≠ x from fun y hy=>by simp at hy)
  have c2:w2.cell? ⟨w.heap.size,2,none⟩ = some (.slice RA rn rc):=kx2.cell (j:=2) rfl
  clear hb1 kx hw1 hb2 kx2 hw2 hb12 hs1 kr hc hRES
  go_enter Try.func24,Try.ntmps24
  go_upto_region 1 with fail
  rw [HW2.out]
  go_wp2
  go_loopw [6] (fun s6 wr=>∃ k:Nat,s6 = .int .i64 k∧k ≤ rn∧Hid (∀ y ∈ l.take k,y.s ≠ x)∧wr = w2) (fun s6 _=>rn - (intOf s6).toNat)
  case atStart=>exact ⟨0,rfl,Nat.zero_le _,HN0,rfl⟩
  case round =>
    clear HN0
    obtain ⟨k,rfl,hk,HNO,rfl⟩:=hrel
    by_cases hlt:k < rn
    case pos =>
      have b1:(k:Int) < (rn:Int):=by omega
      obtain ⟨ad,r,hA,hr,g0,g1,g2,g3⟩:=rm_reads HZC.out.rr (j:=k) (by show k < l.length;rw [HRL.out];exact hlt)
      have hA':RA = some ad:=hA
      subst hA'
      have HRI:=Lib.hid (show l[k]? = some r from hr)
      clear hA hr
      by_cases hx:r.s = x
      case neg =>
        have hx':(r.s == x) = false:=by rw [beq_eq_false_iff_ne];exact hx
        have HN9:=Lib.hid (show ∀ y ∈ l.take (k + 1),y.s ≠ x from fun y hy=>by
          rw [take_snoc' HRI.out] at hy
          rcases List.mem_append.1 hy with hy | hy
          · exact HNO.out y hy
          · rw [List.mem_singleton.1 hy];exact hx)
        clear hx
        go_wp2
        go_roundw
        case rel=>exact ⟨k + 1,by go_num,by omega,HN9,trivial⟩
        case measure=>simp [intOf];omega
      have hx':(r.s == x) = true:=by simpa using hx
      have HRM:=Lib.hid (show RES = some r from by rw [← HRES.out];exact rmOf_hit (c:=CV.ce ⟨⟨KA,kn,kc,kl⟩,⟨DA,dn,dc,dl⟩,some ad,rn,rc,l⟩) HRI.out hx HNO.out)
      obtain ⟨p1,p2,p3⟩:=rm_put HKR.out r
      have HTH:=Lib.hid p3
      have HPB:=Lib.hid (HB.out.grown p2 HB.out.size (fun j e=>by injection e with e;subst e;omega))
      unfold rmc at p1 HPB
      have HP1:=Lib.hid p1
      clear p1 p2 p3 hx
      go_wp2_with (first | (refine wpList_store_mid rfl 63 (.tmp 4) (.tmp 26) rfl (w.heap.size + 1) 0 #[.int .i64 r.s,.int .i64 r.k,.int .i64 r.r,.int .i64 r.e] rfl rfl HTH.out rm_size (all_oneCell_toArray (rm_one r)) ?_;generalize wr.setCells (w.heap.size + 1) 0 [.int .i64 r.s,.int .i64 r.k,.int .i64 r.r,.int .i64 r.e] = w9 at HP1 HPB ⊢) | fail)
      have z0:=HP1.out.cell (j:=0) rfl
      have z1:=HP1.out.cell (j:=1) rfl
      have z2:=HP1.out.cell (j:=2) rfl
      have z3:=HP1.out.cell (j:=3) rfl
      refine bodyPost_ret (v:=.tuple #[.agg #[.int .i64 r.s,.int .i64 r.k,.int .i64 r.r,.int .i64 r.e],.bool true]) (by simp [results,Try.results24,go_sem,z0,z1,z2,z3]) rfl ?_
      exact ⟨by rw [HRM.out];rfl,HPB.out⟩
    obtain rfl:k = rn:=by omega
    have b1:¬ (k:Int) < (k:Int):=by omega
    have HRM:=Lib.hid (show RES = none from by
      rw [← HRES.out]
      refine rmOf_none.2 ?_
      rintro ⟨r,hr,e⟩
      exact HNO.out r (by rw [List.take_of_length_le (by rw [HRL.out];exact Nat.le_refl _)];exact hr) e)
    obtain ⟨p1,p2,p3⟩:=rm_put HKR.out ⟨0,0,0,0⟩
    have HTH:=Lib.hid p3
    have HPB:=Lib.hid (HB.out.grown p2 HB.out.size (fun j e=>by injection e with e;subst e;omega))
    unfold rmc at p1 HPB
    have HP1:=Lib.hid p1
    clear p1 p2 p3
    go_wp2_with (first | (refine wpList_store_mid rfl 63 (.tmp 4) (.tmp 27) rfl (w.heap.size + 1) 0 #[.int .i64 0,.int .i64 0,.int .i64 0,.int .i64 0] rfl rfl HTH.out rm_size (all_oneCell_toArray (rm_one ⟨0,0,0,0⟩)) ?_;generalize wr.setCells (w.heap.size + 1) 0 [.int .i64 0,.int .i64 0,.int .i64 0,.int .i64 0] = w9 at HP1 HPB ⊢) | fail)
    have z0:=HP1.out.cell (j:=0) rfl
    have z1:=HP1.out.cell (j:=1) rfl
    have z2:=HP1.out.cell (j:=2) rfl
    have z3:=HP1.out.cell (j:=3) rfl
    refine bodyPost_ret (v:=.tuple #[.agg #[.int .i64 0,.int .i64 0,.int .i64 0,.int .i64 0],.bool false]) (by simp [results,Try.results24,go_sem,z0,z1,z2,z3]) rfl ?_
    exact ⟨by rw [HRM.out];rfl,HPB.out⟩
end Go.Proofs.Ytdnmpndnpfklcaa
