/- Walk: maximality.Ranks. -/
import Derived.Test.YtdnmpndnpfklcaaXt
import Derived.Test.YtdnmpndnpfklcaaMi
import Derived.Test.YtdnmpndnpfklcaaUk

namespace Go.Proofs.Ytdnmpndnpfklcaa
open Go.RowKit Go Go.Maps
end Go.Proofs.Ytdnmpndnpfklcaa
/- The law's small functions: same, has, removal. -/
namespace Go.Proofs.Ytdnmpndnpfklcaa
open Go.RowKit Go Go.Maps
set_option maxHeartbeats 400000 in
theorem law_same28 (A B:Option Addr) (c d:Nat) (a b:List Int) (w:World) (ha:RdI w w.heap.size A a) (hac:a.length ≤ c) (hc:c ≤ 9223372036854775807)
  (hb:RdI w w.heap.size B b) :
  Calls Try.prog 18 #[.slice A a.length c,.slice B b.length d] w fun e w'=>e = .returned (.bool (eqB a b))∧∃ n,w' = w.drewN n:=by
 by_cases hl:a.length = b.length
 ·have hl1:((a.length:Int) != (b.length:Int)) = false:=by simp [hl]
  have HL:=Lib.hid hl;clear hl
  go_enter Try.func18,Try.ntmps18
  go_wp2
  go_loopw [5] (fun i wr=>∃ k:Nat,k ≤ a.length∧i = .int .i64 k∧Hid (a.take k = b.take k)∧∃ n,wr = w.drewN n) (fun i _=>a.length - (intOf i).toNat)
  case atStart=>exact ⟨0,Nat.zero_le _,rfl,Lib.hid rfl,(by first | exact dr00 _ | exact dr0 _ _ | exact dr1 _ _ _ | exact dr2 _ _ _ _ | exact dr3 _ _ _ _ _)⟩
  case round =>
   obtain ⟨k,hk,rfl,HX,n,rfl⟩:=hrel
   by_cases hlt:k < a.length
   ·obtain ⟨ad,x,rfl,_,hx,hcx⟩:=ha.at_ hlt
    obtain ⟨bd,y,rfl,_,hy,hcy⟩:=hb.at_ (k:=k) (by have:=HL.out;omega)
    have HXX:=Lib.hid hx;clear hx
    have HYY:=Lib.hid hy;clear hy
    have hkb:k < b.length:=by have:=HL.out;omega
    have b1:(k:Int) < (a.length:Int):=by omega
    have b2:(k:Int) < (b.length:Int):=by omega
    by_cases hxy:x = y
    ·subst hxy
     go_wp2
     go_quiet (fail)
     go_wp2
     go_roundw
     case rel=>exact ⟨k + 1,by omega,by go_num,Lib.hid (take_eq_snoc HXX.out HYY.out HX.out),(by first | exact dr00 _ | exact dr0 _ _ | exact dr1 _ _ _ | exact dr2 _ _ _ _ | exact dr3 _ _ _ _ _)⟩
     case measure=>simp [intOf];omega
    ·have hxy':(x != y) = true:=by simpa using hxy
     go_wp2
     go_quiet (fail)
     go_wp2
     go_ret
     exact ⟨ret_bool (ne_of_get HXX.out HYY.out hxy).symm,(by first | exact dr00 _ | exact dr0 _ _ | exact dr1 _ _ _ | exact dr2 _ _ _ _ | exact dr3 _ _ _ _ _)⟩
   ·go_wp2
    go_ret
    exact ⟨ret_bool (eqB_of (eq_of_drop HL.out HX.out hlt)).symm,(by first | exact dr00 _ | exact dr0 _ _ | exact dr1 _ _ _ | exact dr2 _ _ _ _ | exact dr3 _ _ _ _ _)⟩
 ·have hl1:((a.length:Int) != (b.length:Int)) = true:=by rw [bne_iff_ne];omega
  have HL:=Lib.hid hl;clear hl
  go_enter Try.func18,Try.ntmps18
  go_wp2
  go_ret
  exact ⟨ret_bool (ne_of_len HL.out).symm,(by first | exact dr00 _ | exact dr0 _ _ | exact dr1 _ _ _ | exact dr2 _ _ _ _ | exact dr3 _ _ _ _ _)⟩
theorem law_same_n (A B:Option Addr) (c d na nb:Nat) (a b:List Int) (q:Bool) (w:World) (hna:a.length = na) (hnb:b.length = nb) (hq:eqB a b = q) (ha:RdI w w.heap.size A a) (hac:na ≤ c) (hc:c ≤ 9223372036854775807)
  (hb:RdI w w.heap.size B b):Calls Try.prog 18 #[.slice A na c,.slice B nb d] w fun e w'=>e = .returned (.bool q)∧Below w.heap.size w w':=by
 subst hna hnb hq
 exact (law_same28 A B c d a b w ha hac hc hb).mono fun e w' ⟨h1,n,h2⟩=>⟨h1,by rw [h2];exact below_drewN (Below.refl _ _) n⟩
set_option maxHeartbeats 400000 in
theorem law_same04 (A B:Option Addr) (c d:Nat) (a b:List Int) (w:World) (ha:RdI w w.heap.size A a) (hac:a.length ≤ c) (hc:c ≤ 9223372036854775807)
  (hb:RdI w w.heap.size B b) :
  Calls Try.prog 100 #[.slice A a.length c,.slice B b.length d] w fun e w'=>e = .returned (.bool (eqB a b))∧∃ n,w' = w.drewN n:=by
 by_cases hl:a.length = b.length
 ·have hl1:((a.length:Int) != (b.length:Int)) = false:=by simp [hl]
  have HL:=Lib.hid hl;clear hl
  go_enter Try.func100,Try.ntmps100
  go_wp2
  go_loopw [5] (fun i wr=>∃ k:Nat,k ≤ a.length∧i = .int .i64 k∧Hid (a.take k = b.take k)∧∃ n,wr = w.drewN n) (fun i _=>a.length - (intOf i).toNat)
  case atStart=>exact ⟨0,Nat.zero_le _,rfl,Lib.hid rfl,(by first | exact dr00 _ | exact dr0 _ _ | exact dr1 _ _ _ | exact dr2 _ _ _ _ | exact dr3 _ _ _ _ _)⟩
  case round =>
   obtain ⟨k,hk,rfl,HX,n,rfl⟩:=hrel
   by_cases hlt:k < a.length
   ·obtain ⟨ad,x,rfl,_,hx,hcx⟩:=ha.at_ hlt
    obtain ⟨bd,y,rfl,_,hy,hcy⟩:=hb.at_ (k:=k) (by have:=HL.out;omega)
    have HXX:=Lib.hid hx;clear hx
    have HYY:=Lib.hid hy;clear hy
    have hkb:k < b.length:=by have:=HL.out;omega
    have b1:(k:Int) < (a.length:Int):=by omega
    have b2:(k:Int) < (b.length:Int):=by omega
    by_cases hxy:x = y
    ·subst hxy
     go_wp2
     go_quiet (fail)
     go_wp2
     go_roundw
     case rel=>exact ⟨k + 1,by omega,by go_num,Lib.hid (take_eq_snoc HXX.out HYY.out HX.out),(by first | exact dr00 _ | exact dr0 _ _ | exact dr1 _ _ _ | exact dr2 _ _ _ _ | exact dr3 _ _ _ _ _)⟩
     case measure=>simp [intOf];omega
    ·have hxy':(x != y) = true:=by simpa using hxy
     go_wp2
     go_quiet (fail)
     go_wp2
     go_ret
     exact ⟨ret_bool (ne_of_get HXX.out HYY.out hxy).symm,(by first | exact dr00 _ | exact dr0 _ _ | exact dr1 _ _ _ | exact dr2 _ _ _ _ | exact dr3 _ _ _ _ _)⟩
   ·go_wp2
    go_ret
    exact ⟨ret_bool (eqB_of (eq_of_drop HL.out HX.out hlt)).symm,(by first | exact dr00 _ | exact dr0 _ _ | exact dr1 _ _ _ | exact dr2 _ _ _ _ | exact dr3 _ _ _ _ _)⟩
 ·have hl1:((a.length:Int) != (b.length:Int)) = true:=by rw [bne_iff_ne];omega
  have HL:=Lib.hid hl;clear hl
  go_enter Try.func100,Try.ntmps100
  go_wp2
  go_ret
  exact ⟨ret_bool (ne_of_len HL.out).symm,(by first | exact dr00 _ | exact dr0 _ _ | exact dr1 _ _ _ | exact dr2 _ _ _ _ | exact dr3 _ _ _ _ _)⟩
theorem law_same04_n (A B:Option Addr) (c d na nb:Nat) (a b:List Int) (q:Bool) (w:World) (hna:a.length = na) (hnb:b.length = nb) (hq:eqB a b = q) (ha:RdI w w.heap.size A a) (hac:na ≤ c) (hc:c ≤ 9223372036854775807)
  (hb:RdI w w.heap.size B b):Calls Try.prog 100 #[.slice A na c,.slice B nb d] w fun e w'=>e = .returned (.bool q)∧Below w.heap.size w w':=by
 subst hna hnb hq
 exact (law_same04 A B c d a b w ha hac hc hb).mono fun e w' ⟨h1,n,h2⟩=>⟨h1,by rw [h2];exact below_drewN (Below.refl _ _) n⟩
theorem hasB_hitD {l:List Int} {k:Nat} {x y:Int} (h:l[k]? = some y) (he:y = x):hasB (l.drop k) x = true:=by
 rw [drop_cons' h];subst he;simp [hasB]
theorem hasB_goD {l:List Int} {k:Nat} {x y:Int} (h:l[k]? = some y) (he:y ≠ x):hasB (l.drop k) x = hasB (l.drop (k + 1)) x:=by
 rw [drop_cons' h];simp [hasB,Ne.symm he]
theorem hasB_endD {l:List Int} {k:Nat} {x:Int} (h:¬ k < l.length):hasB (l.drop k) x = false:=by
 rw [List.drop_of_length_le (by omega)];rfl
set_option maxRecDepth 100000 in
set_option maxHeartbeats 1600000 in
theorem law_has (A:Option Addr) (c n:Nat) (l:List Int) (x:Int) (r:Bool) (w:World) (hl:l.length = n) (h:RdI w w.heap.size A l) (hn:n ≤ 9223372036854775807) (hr:hasB l x = r) :
  Calls Try.prog 21 #[.slice A n c,.int .i64 x] w fun e w'=>e = .returned (.bool r)∧w = w':=by
 have HR:=Lib.hid (show r = hasB (l.drop 0) x from hr.symm)
 have HL:=Lib.hid hl;clear hl
 clear hr
 go_enter Try.func21,Try.ntmps21
 go_wp2
 go_loop [5] (fun i=>∃ k:Nat,k ≤ n∧i = .int .i64 k∧Hid (r = hasB (l.drop k) x)) (fun i=>n - (intOf i).toNat)
 case atStart=>exact ⟨0,Nat.zero_le _,rfl,HR⟩
 case round =>
  obtain ⟨k,hk,rfl,HX⟩:=hrel
  clear HR
  by_cases hlt:k < n
  ·obtain ⟨ad,y,rfl,hbb,hy,q0⟩:=h.at_ (k:=k) (by have:=HL.out;omega)
   have b1:(k:Int) < (n:Int):=by omega
   have HY:=Lib.hid hy;clear hy
   by_cases c1:y = x
   ·have d1:(y == x) = true:=by simpa using c1
    have HB:=Lib.hid (show r = true by rw [HX.out,hasB_hitD HY.out c1])
    clear c1
    go_wp2
    go_ret
    exact ⟨ret_bool HB.out.symm,rfl⟩
   ·have d1:(y == x) = false:=by simpa using c1
    have HB:=Lib.hid (show r = hasB (l.drop (k + 1)) x by rw [HX.out,hasB_goD HY.out c1])
    clear c1
    go_wp2
    go_round
    case rel=>exact ⟨k + 1,by omega,by go_num,HB⟩
    case measure=>simp [intOf];omega
  ·have hf:r = false:=by rw [HX.out,hasB_endD (by have:=HL.out;omega)]
   have HF:=Lib.hid hf;clear hf
   go_wp2
   go_ret
   exact ⟨ret_bool HF.out.symm,rfl⟩
end Go.Proofs.Ytdnmpndnpfklcaa

/- The law's leads and distance. -/
namespace Go.Proofs.Ytdnmpndnpfklcaa
open Go.RowKit Go Go.Maps
def ldPL (p:Mx) (set:List Int) (s:Int) (y:Ed):Bool:=decide (y.f = s) && hasB p.u y.e && !hasB set y.t
def ldEL (p:Mx) (set:List Int) (s:Int):Option Int:=(p.a.ed.find? (ldPL p set s)).map (·.e)
def ldV (o:Option Int):Value:=.tuple #[.int .i64 (o.getD (-1)),.bool o.isSome]
theorem ldEL_hit {p:Mx} {set:List Int} {s:Int} {k:Nat} {x:Ed} (h:p.a.ed[k]? = some x) (hx:ldPL p set s x = true) (hn:∀ y ∈ p.a.ed.take k,ldPL p set s y = false):ldEL p set s = some x.e:=by
 unfold ldEL
 have e:p.a.ed = p.a.ed.take k ++ x :: p.a.ed.drop (k + 1):=by
  rw [← drop_cons' h,List.take_append_drop]
 rw [e,List.find?_append,List.find?_eq_none.2 (fun y hy=>by rw [hn y hy];simp),Option.none_or,List.find?_cons_of_pos hx]
 rfl
theorem ldEL_no {p:Mx} {set:List Int} {s:Int} (hn:∀ y ∈ p.a.ed,ldPL p set s y = false):ldEL p set s = none:=by
 unfold ldEL
 rw [List.find?_eq_none.2 (fun y hy=>by rw [hn y hy];simp)]
 rfl
set_option maxRecDepth 100000 in
set_option maxHeartbeats 1600000 in
theorem law_leads (z:PB) (s:Int) (S:Option Addr) (cs ns:Nat) (set:List Int) (w:World) (h:z.ok w w.heap.size) (hel:z.x.ne ≤ 1000000) (hsl:set.length = ns) (hS:RdI w w.heap.size S set) (hns:ns ≤ 9223372036854775807) :
  Calls Try.prog 60 #[.agg (pbc z).toArray,.int .i64 s,.slice S ns cs] w fun e w'=>e = .returned (ldV (ldEL z.m set s))∧Below w.heap.size w w':=by
 have hb1:=box_below w (.cells (pbc z).toArray 34)
 have kx:=Blk.new w 34 (pbc z)
 obtain ⟨w1,hw1⟩:∃ w1,w1 = w.alloc (.cells (pbc z).toArray 34):=⟨_,rfl⟩
 rw [← hw1] at hb1 kx
 have HZ:=Lib.hid (fun (W:World) (hb:Below w1.heap.size w1 W)=>(h.below (hb1.trans (hb.mono hb1.size))).more (hb1.trans (hb.mono hb1.size)).size)
 have HSK:=Lib.hid (fun (W:World) (hb:Below w1.heap.size w1 W)=>(hS.below (hb1.trans (hb.mono hb1.size))).more (hb1.trans (hb.mono hb1.size)).size)
 have HK:=Lib.hid (fun (W:World) (hb:Below w1.heap.size w1 W)=>kx.below hb kx.lt)
 have HB:=Lib.hid (fun (W:World) (hb:Below w1.heap.size w1 W)=>hb1.trans (hb.mono hb1.size))
 have HW1:=Lib.hid (show w.alloc (.cells (pbc z).toArray 34) = w1 from hw1.symm)
 have HLE:=Lib.hid (show z.x.a.ed.length = z.x.ne from h.x.le)
 have HSL:=Lib.hid hsl
 have hec:z.x.ne ≤ z.x.ce:=h.x.ec
 have hec2:z.x.ce ≤ 9223372036854775807:=h.x.cE
 obtain ⟨RES,hRES⟩:∃ q,ldEL z.m set s = q:=⟨_,rfl⟩
 rw [hRES]
 have HRES:=Lib.hid hRES
 clear hb1 kx hw1 h hS hsl hRES
 unfold pbc at HK HW1 ⊢
 obtain ⟨⟨A,na,ca,M,nm,cm,E,ne,ce,a⟩,⟨UA,un,uc,ul⟩,FA,fn,fc,flx⟩:=z
 obtain ⟨P,hP⟩:∃ q,PB.m ⟨⟨A,na,ca,M,nm,cm,E,ne,ce,a⟩,⟨UA,un,uc,ul⟩,FA,fn,fc,flx⟩ = q:=⟨_,rfl⟩
 have HPA:=Lib.hid (show P.a = a by rw [← hP];rfl)
 have HPU:=Lib.hid (show P.u = ul by rw [← hP];rfl)
 dsimp only at HK HW1 HZ HLE hel hec hec2 ⊢
 rw [hP] at HRES
 clear hP
 have HN0:=Lib.hid (show ∀ y ∈ a.ed.take 0,ldPL P set s y = false from fun y hy=>by simp at hy)
 go_enter Try.func60,Try.ntmps60
 go_upto_region 1 with fail
 rw [HW1.out]
 go_wp2
 go_loopw [8,9] (fun s8 s9 wr=>∃ (k:Nat) (v9:Value),s8 = .int .i64 k∧s9 = v9∧k ≤ ne∧Hid (∀ y ∈ a.ed.take k,ldPL P set s y = false)∧Hid (Below w1.heap.size w1 wr)) (fun s8 _ _=>ne - (intOf s8).toNat)
 case atStart=>exact ⟨0,_,rfl,rfl,Nat.zero_le _,HN0,Lib.hid (Below.refl _ _)⟩
 case round =>
  clear HN0
  obtain ⟨k,v9,rfl,rfl,hk,HNO,HBL⟩:=hrel
  obtain ⟨⟨a0,a1,a2,a3,a4⟩,a5⟩:=Blk.c6 (HK.out wr HBL.out)
  by_cases hlt:k < ne
  case neg =>
   obtain rfl:k = ne:=by omega
   have b1:¬ (k:Int) < (k:Int):=by omega
   have HRN:=Lib.hid (show RES = none from by
    rw [← HRES.out]
    refine ldEL_no (fun y hy=>HNO.out y ?_)
    rw [List.take_of_length_le (by rw [HLE.out];exact Nat.le_refl _)]
    rw [HPA.out] at hy
    exact hy)
   go_wp2
   refine bodyPost_ret (v:=.tuple #[.int .i64 (-1),.bool false]) (by simp [results,Try.results60,go_sem]) rfl ?_
   exact ⟨by rw [HRN.out];rfl,HB.out _ HBL.out⟩
  have b1:(k:Int) < (ne:Int):=by omega
  obtain ⟨ad,x,hA,hab,hx,g0,g1,g2⟩:=(HZ.out wr HBL.out).x.re.at_ (k:=k) (by show k < a.ed.length;rw [HLE.out];exact hlt)
  have hA':E = some ad:=hA
  subst hA'
  have r1:wr.cell? ⟨(ad.add (k * 3)).block,(ad.add (k * 3)).off + 1,none⟩ = some (.int .i64 x.e):=st_cells (j:=0) g1
  have r2:wr.cell? ⟨(ad.add (k * 3)).block,(ad.add (k * 3)).off + 2,none⟩ = some (.int .i64 x.t):=st_cells (j:=1) g2
  have HX:=Lib.hid (show a.ed[k]? = some x from hx)
  have hbx:=box_below wr (.cells #[.int .i64 x.f,.int .i64 x.e,.int .i64 x.t] 67)
  have ke:Blk (wr.alloc (.cells #[.int .i64 x.f,.int .i64 x.e,.int .i64 x.t] 67)) wr.heap.size 67 [.int .i64 x.f,.int .i64 x.e,.int .i64 x.t]:=Blk.new _ _ [_,_,_]
  have HB5:=Lib.hid (HBL.out.trans (hbx.mono HBL.out.size))
  clear hA hab hx hbx HBL
  go_upto_region 5 with fail
  clear g0 g1 g2 r1 r2 a0 a1 a2 a3 a4 a5
  generalize wr.heap.size = bx at ke ⊢
  generalize wr.alloc (.cells #[.int .i64 x.f,.int .i64 x.e,.int .i64 x.t] 67) = w5 at ke HB5 ⊢
  obtain ⟨⟨_,_,_,_,a4⟩,_⟩:=Blk.c6 (HK.out w5 HB5.out)
  have e0:=ke.cell (j:=0) rfl
  have e1:=ke.cell (j:=1) rfl
  have e2:=ke.cell (j:=2) rfl
  have HNX:=Lib.hid (show ldPL P set s x = false → ∀ y ∈ a.ed.take (k + 1),ldPL P set s y = false from fun h9 y hy=>by
   rw [take_snoc' HX.out] at hy
   rcases List.mem_append.1 hy with hy | hy
   ·exact HNO.out y hy
   ·rw [List.mem_singleton.1 hy];exact h9)
  have HLD:=Lib.hid (show ldPL P set s x = (decide (x.f = s) && hasB ul x.e && !hasB set x.t) by unfold ldPL;rw [HPU.out])
  by_cases hf:x.f = s
  case neg =>
   have hf':(x.f == s) = false:=by rw [beq_eq_false_iff_ne];exact hf
   have HN9:=Lib.hid (HNX.out (by rw [HLD.out,decide_eq_false hf];rfl))
   clear hf
   go_wp2
   go_roundw
   case rel=>exact ⟨k + 1,_,by go_num,rfl,by omega,HN9,HB5⟩
   case measure=>simp [intOf];omega
  have hf':(x.f == s) = true:=by simpa using hf
  obtain ⟨q1,hq1⟩:∃ q,hasB ul x.e = q:=⟨_,rfl⟩
  obtain ⟨q2,hq2⟩:∃ q,hasB set x.t = q:=⟨_,rfl⟩
  rw [decide_eq_true hf,hq1,hq2] at HLD
  have hu:=(HZ.out w5 HB5.out).u
  have HC1:=Lib.hid (law_has UA uc un ul x.e q1 w5 hu.la hu.ra (Nat.le_trans hu.ac hu.cA) hq1)
  have HC2:=Lib.hid (law_has S cs ns set x.t q2 w5 HSL.out (HSK.out w5 HB5.out) hns hq2)
  clear hu hq1 hq2 hf
  cases q1 with
  | false =>
   have HN9:=Lib.hid (HNX.out (by rw [HLD.out];rfl))
   go_wp2_with fail
   refine HC1.out.mono ?_
   rintro e w6 ⟨rfl,rfl⟩
   go_wp2
   go_roundw
   case rel=>exact ⟨k + 1,_,by go_num,rfl,by omega,HN9,HB5⟩
   case measure=>simp [intOf];omega
  | true =>
   go_wp2_with fail
   refine HC1.out.mono ?_
   rintro e w6 ⟨rfl,rfl⟩
   go_wp2_with fail
   refine HC2.out.mono ?_
   rintro e w6 ⟨rfl,rfl⟩
   cases q2 with
   | true =>
    have HN9:=Lib.hid (HNX.out (by rw [HLD.out];rfl))
    go_wp2
    go_roundw
    case rel=>exact ⟨k + 1,_,by go_num,rfl,by omega,HN9,HB5⟩
    case measure=>simp [intOf];omega
   | false =>
    have HRN:=Lib.hid (show RES = some x.e from by
     rw [← HRES.out]
     exact ldEL_hit (by rw [HPA.out];exact HX.out) (by rw [HLD.out];rfl) (by rw [HPA.out];exact HNO.out))
    go_wp2
    refine bodyPost_ret (v:=.tuple #[.int .i64 x.e,.bool true]) (by simp [results,Try.results60,go_sem]) rfl ?_
    exact ⟨by rw [HRN.out];rfl,HB.out _ HB5.out⟩
def lenO:Option (List Int) → Int
 | some ws=>(ws.length:Int)
 | none=>-1
theorem lenO_dst {a:Aut} (hw:WF a) {n:Nat} (hn:a.st = (n:Int)) {set:List Int} {st:Int} (h0:0 ≤ st) (h1:st < a.st) (hs:fl (inF n set) st = true) :
  lenO (pathS a st (fl (inF n a.ma)) (fun x=>fl (inF n set) x.t)) = dstF a (inF n set) st:=by
 have hmr:∀ t ∈ a.ma,0 ≤ t∧t < (n:Int):=fun t ht=>by have:=hw.mrng t ht;omega
 refine DisOk.unique (ed:=a.ed) (N:=inF n set) (ma:=a.ma) (s:=st) ?_ (dstF_ok hw h0 h1 hs)
 have hp:=pathS_spec (perm:=fun x=>fl (inF n set) x.t) (want:=fl (inF n a.ma)) hw h0 h1
 cases hq:pathS a st (fl (inF n a.ma)) (fun x=>fl (inF n set) x.t) with
 | none =>
  rw [hq] at hp
  simp only at hp
  refine .inl ⟨rfl,fun d hd=>?_⟩
  obtain ⟨vs,u,h1,h2,_⟩:=hd.wk
  have:=hp u h1.rc
  rw [(inF_fl hmr (hmr u h2).1).2 h2] at this
  cases this
 | some ws =>
  rw [hq] at hp
  obtain ⟨u,hu,hwk⟩:=hp
  have hu0:0 ≤ u:=by
   cases hwk with
   | nil=>exact h0
   | snoc _ hx _ _=>exact (hw.ev_rng hx).2.2.1
  refine .inr ⟨ws.length,rfl,?_,fun e he=>?_⟩
  ·exact hwk.dp hs (.mk (hwk.flag hs) ((inF_fl hmr hu0).1 hu))
  ·obtain ⟨vs,v,k1,k2,k3⟩:=he.wk
   rw [← k3]
   exact pathS_short hw h0 h1 hq k1 ((inF_fl hmr (hmr v k2).1).2 k2)
set_option maxRecDepth 100000 in
set_option maxHeartbeats 1600000 in
theorem law_distance (z:PB) (n s:Nat) (S:Option Addr) (cs ns:Nat) (set:List Int) (w:World) (h:z.ok w w.heap.size) (hm:z.m.ok) (hn:z.x.a.st = (n:Int)) (hs:s < n) (hsl:set.length = ns) (hS:RdI w w.heap.size S set) (hs1:ns ≤ cs) (hs2:cs ≤ 9223372036854775807) (hsi:Inc set) (hsr:∀ t ∈ set,0 ≤ t∧t < (n:Int)) (hin:(s:Int) ∈ set) :
  Calls Try.prog 47 #[.agg (pbc z).toArray,.int .i64 (s:Int),.slice S ns cs] w fun e w'=>e = .returned (.int .i64 (dstF z.x.a (inF n set) (s:Int)))∧Below w.heap.size w w':=by
 have hmr:∀ t ∈ z.x.a.ma,0 ≤ t∧t < (n:Int):=fun t ht=>by have:=hm.wf.mrng t ht;have e:z.m.a = z.x.a:=rfl;rw [e] at this;omega
 have hfl:fl (inF n set) (s:Int) = true:=(inF_fl hsr (by omega)).2 hin
 obtain ⟨RES,hRES⟩:∃ q,pathS z.x.a (s:Int) (fl (inF n z.x.a.ma)) (fun x=>fl (inF n set) x.t) = q:=⟨_,rfl⟩
 have HD:=Lib.hid (show dstF z.x.a (inF n set) (s:Int) = lenO RES by rw [← hRES];exact (lenO_dst hm.wf hn (by omega) (by show (s:Int) < z.x.a.st;omega) hfl).symm)
 rw [HD.out]
 have hb1:=box_below w (.cells (pbc z).toArray 34)
 have kx:=Blk.new w 34 (pbc z)
 obtain ⟨w1,hw1⟩:∃ w1,w1 = w.alloc (.cells (pbc z).toArray 34):=⟨_,rfl⟩
 rw [← hw1] at hb1 kx
 have hz:=(h.below hb1).more hb1.size
 have HP:=Lib.hid (reach_Path z.x w1 n s hz.x hm.wf hn hs z.x.M z.x.nm z.x.cm z.x.a.ma S ns cs set hz.x.lm hz.x.rm hz.x.mc hz.x.cM (setErr_fit hm.wf.minc hmr) hmr hsl ((hS.below hb1).more hb1.size) hs1 hs2 (setErr_fit hsi hsr) hsr hfl (fun x=>fl (inF n set) x.t) (fun e _=>rfl) RES hRES)
 have HB:=Lib.hid hb1
 have HW1:=Lib.hid (show w.alloc (.cells (pbc z).toArray 34) = w1 from hw1.symm)
 clear hw1 h hS hsl hRES hz hm HD hsi hsr hin hmr hfl hb1
 unfold pbc at kx HW1 ⊢
 rw [hn] at kx HW1 HP ⊢
 obtain ⟨⟨a0,a1,a2,a3,a4⟩,a5⟩:=Blk.c6 kx
 clear hn kx
 go_enter Try.func47,Try.ntmps47
 go_upto_region 1 with fail
 rw [HW1.out]
 go_wp2_with fail
 refine HP.out.mono ?_
 cases RES with
 | none =>
  rintro e w2 ⟨rfl,hb2⟩
  have HB2:=Lib.hid (HB.out.trans (hb2.mono HB.out.size))
  clear hb2 a0 a1 a2 a3 a4 a5
  go_wp2
  go_ret
  exact ⟨rfl,HB2.out⟩
 | some ws =>
  rintro e w2 ⟨v,rfl,ho,hb2⟩
  have HB2:=Lib.hid (HB.out.trans (hb2.mono HB.out.size))
  obtain ⟨OA,oc,rfl⟩:=own_shape ho
  clear hb2 a0 a1 a2 a3 a4 a5 ho
  go_wp2
  go_ret
  exact ⟨rfl,HB2.out⟩
end Go.Proofs.Ytdnmpndnpfklcaa
