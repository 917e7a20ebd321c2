/- Walk: maximality.Ranks. -/
import Derived.Test.YtdnmpndnpfklcaaXt
import Derived.Test.YtdnmpndnpfklcaaUc
import Derived.Test.YtdnmpndnpfklcaaUk
import Derived.Test.YtdnmpndnpfklcaaIb

namespace Go.Proofs.Ytdnmpndnpfklcaa
open Go.RowKit Go Go.Maps
end Go.Proofs.Ytdnmpndnpfklcaa
/- The law's small functions: same, has, removal. -/
namespace Go.Proofs.Ytdnmpndnpfklcaa
open Go.RowKit Go Go.Maps
set_option maxHeartbeats 400000 in
theorem law_same28 (A B:Option Addr) (c d:Nat) (a b:List Int) (w:World) (ha:RdI w w.heap.size A a) (hac:a.length ≤ c) (hc:c ≤ 9223372036854775807)
  (hb:RdI w w.heap.size B b) :
  Calls Try.prog 18 #[.slice A a.length c,.slice B b.length d] w fun e w'=>e = .returned (.bool (eqB a b))∧∃ n,w' = w.drewN n:=by
 by_cases hl:a.length = b.length
 ·have hl1:((a.length:Int) != (b.length:Int)) = false:=by simp [hl]
  have HL:=Lib.hid hl;clear hl
  go_enter Try.func18,Try.ntmps18
  go_wp2
  go_loopw [5] (fun i wr=>∃ k:Nat,k ≤ a.length∧i = .int .i64 k∧Hid (a.take k = b.take k)∧∃ n,wr = w.drewN n) (fun i _=>a.length - (intOf i).toNat)
  case atStart=>exact ⟨0,Nat.zero_le _,rfl,Lib.hid rfl,(by first | exact dr00 _ | exact dr0 _ _ | exact dr1 _ _ _ | exact dr2 _ _ _ _ | exact dr3 _ _ _ _ _)⟩
  case round =>
   obtain ⟨k,hk,rfl,HX,n,rfl⟩:=hrel
   by_cases hlt:k < a.length
   ·obtain ⟨ad,x,rfl,_,hx,hcx⟩:=ha.at_ hlt
    obtain ⟨bd,y,rfl,_,hy,hcy⟩:=hb.at_ (k:=k) (by have:=HL.out;omega)
    have HXX:=Lib.hid hx;clear hx
    have HYY:=Lib.hid hy;clear hy
    have hkb:k < b.length:=by have:=HL.out;omega
    have b1:(k:Int) < (a.length:Int):=by omega
    have b2:(k:Int) < (b.length:Int):=by omega
    by_cases hxy:x = y
    ·subst hxy
     go_wp2
     go_quiet (fail)
     go_wp2
     go_roundw
     case rel=>exact ⟨k + 1,by omega,by go_num,Lib.hid (take_eq_snoc HXX.out HYY.out HX.out),(by first | exact dr00 _ | exact dr0 _ _ | exact dr1 _ _ _ | exact dr2 _ _ _ _ | exact dr3 _ _ _ _ _)⟩
     case measure=>simp [intOf];omega
    ·have hxy':(x != y) = true:=by simpa using hxy
     go_wp2
     go_quiet (fail)
     go_wp2
     go_ret
     exact ⟨ret_bool (ne_of_get HXX.out HYY.out hxy).symm,(by first | exact dr00 _ | exact dr0 _ _ | exact dr1 _ _ _ | exact dr2 _ _ _ _ | exact dr3 _ _ _ _ _)⟩
   ·go_wp2
    go_ret
    exact ⟨ret_bool (eqB_of (eq_of_drop HL.out HX.out hlt)).symm,(by first | exact dr00 _ | exact dr0 _ _ | exact dr1 _ _ _ | exact dr2 _ _ _ _ | exact dr3 _ _ _ _ _)⟩
 ·have hl1:((a.length:Int) != (b.length:Int)) = true:=by rw [bne_iff_ne];omega
  have HL:=Lib.hid hl;clear hl
  go_enter Try.func18,Try.ntmps18
  go_wp2
  go_ret
  exact ⟨ret_bool (ne_of_len HL.out).symm,(by first | exact dr00 _ | exact dr0 _ _ | exact dr1 _ _ _ | exact dr2 _ _ _ _ | exact dr3 _ _ _ _ _)⟩
theorem law_same_n (A B:Option Addr) (c d na nb:Nat) (a b:List Int) (q:Bool) (w:World) (hna:a.length = na) (hnb:b.length = nb) (hq:eqB a b = q) (ha:RdI w w.heap.size A a) (hac:na ≤ c) (hc:c ≤ 9223372036854775807)
  (hb:RdI w w.heap.size B b):Calls Try.prog 18 #[.slice A na c,.slice B nb d] w fun e w'=>e = .returned (.bool q)∧Below w.heap.size w w':=by
 subst hna hnb hq
 exact (law_same28 A B c d a b w ha hac hc hb).mono fun e w' ⟨h1,n,h2⟩=>⟨h1,by rw [h2];exact below_drewN (Below.refl _ _) n⟩
set_option maxHeartbeats 400000 in
theorem law_same04 (A B:Option Addr) (c d:Nat) (a b:List Int) (w:World) (ha:RdI w w.heap.size A a) (hac:a.length ≤ c) (hc:c ≤ 9223372036854775807)
  (hb:RdI w w.heap.size B b) :
  Calls Try.prog 100 #[.slice A a.length c,.slice B b.length d] w fun e w'=>e = .returned (.bool (eqB a b))∧∃ n,w' = w.drewN n:=by
 by_cases hl:a.length = b.length
 ·have hl1:((a.length:Int) != (b.length:Int)) = false:=by simp [hl]
  have HL:=Lib.hid hl;clear hl
  go_enter Try.func100,Try.ntmps100
  go_wp2
  go_loopw [5] (fun i wr=>∃ k:Nat,k ≤ a.length∧i = .int .i64 k∧Hid (a.take k = b.take k)∧∃ n,wr = w.drewN n) (fun i _=>a.length - (intOf i).toNat)
  case atStart=>exact ⟨0,Nat.zero_le _,rfl,Lib.hid rfl,(by first | exact dr00 _ | exact dr0 _ _ | exact dr1 _ _ _ | exact dr2 _ _ _ _ | exact dr3 _ _ _ _ _)⟩
  case round =>
   obtain ⟨k,hk,rfl,HX,n,rfl⟩:=hrel
   by_cases hlt:k < a.length
   ·obtain ⟨ad,x,rfl,_,hx,hcx⟩:=ha.at_ hlt
    obtain ⟨bd,y,rfl,_,hy,hcy⟩:=hb.at_ (k:=k) (by have:=HL.out;omega)
    have HXX:=Lib.hid hx;clear hx
    have HYY:=Lib.hid hy;clear hy
    have hkb:k < b.length:=by have:=HL.out;omega
    have b1:(k:Int) < (a.length:Int):=by omega
    have b2:(k:Int) < (b.length:Int):=by omega
    by_cases hxy:x = y
    ·subst hxy
     go_wp2
     go_quiet (fail)
     go_wp2
     go_roundw
     case rel=>exact ⟨k + 1,by omega,by go_num,Lib.hid (take_eq_snoc HXX.out HYY.out HX.out),(by first | exact dr00 _ | exact dr0 _ _ | exact dr1 _ _ _ | exact dr2 _ _ _ _ | exact dr3 _ _ _ _ _)⟩
     case measure=>simp [intOf];omega
    ·have hxy':(x != y) = true:=by simpa using hxy
     go_wp2
     go_quiet (fail)
     go_wp2
     go_ret
     exact ⟨ret_bool (ne_of_get HXX.out HYY.out hxy).symm,(by first | exact dr00 _ | exact dr0 _ _ | exact dr1 _ _ _ | exact dr2 _ _ _ _ | exact dr3 _ _ _ _ _)⟩
   ·go_wp2
    go_ret
    exact ⟨ret_bool (eqB_of (eq_of_drop HL.out HX.out hlt)).symm,(by first | exact dr00 _ | exact dr0 _ _ | exact dr1 _ _ _ | exact dr2 _ _ _ _ | exact dr3 _ _ _ _ _)⟩
 ·have hl1:((a.length:Int) != (b.length:Int)) = true:=by rw [bne_iff_ne];omega
  have HL:=Lib.hid hl;clear hl
  go_enter Try.func100,Try.ntmps100
  go_wp2
  go_ret
  exact ⟨ret_bool (ne_of_len HL.out).symm,(by first | exact dr00 _ | exact dr0 _ _ | exact dr1 _ _ _ | exact dr2 _ _ _ _ | exact dr3 _ _ _ _ _)⟩
theorem law_same04_n (A B:Option Addr) (c d na nb:Nat) (a b:List Int) (q:Bool) (w:World) (hna:a.length = na) (hnb:b.length = nb) (hq:eqB a b = q) (ha:RdI w w.heap.size A a) (hac:na ≤ c) (hc:c ≤ 9223372036854775807)
  (hb:RdI w w.heap.size B b):Calls Try.prog 100 #[.slice A na c,.slice B nb d] w fun e w'=>e = .returned (.bool q)∧Below w.heap.size w w':=by
 subst hna hnb hq
 exact (law_same04 A B c d a b w ha hac hc hb).mono fun e w' ⟨h1,n,h2⟩=>⟨h1,by rw [h2];exact below_drewN (Below.refl _ _) n⟩
end Go.Proofs.Ytdnmpndnpfklcaa

/- The law's leads and distance. -/
namespace Go.Proofs.Ytdnmpndnpfklcaa
open Go.RowKit Go Go.Maps
end Go.Proofs.Ytdnmpndnpfklcaa

/- The laws' examples (chapters 4 and 28). -/
namespace Go.Proofs.Ytdnmpndnpfklcaa
open Go.RowKit Go Go.Maps
def exW4 (w:World):World:=(((w.alloc (.cells #[.slice (some ⟨w.heap.size + 1,0,none⟩) 2 2,.int .i64 4,.slice (some ⟨w.heap.size + 1 + 1,0,none⟩) 1 1,.slice (some ⟨w.heap.size + 1 + 1 + 1,0,none⟩) 5 5] 32)).alloc (.cells #[.int .i64 0,.int .i64 1] 3)).alloc (.cells #[.int .i64 1] 3)).alloc (.cells #[.int .i64 0,.int .i64 0,.int .i64 1,.int .i64 0,.int .i64 1,.int .i64 2,.int .i64 1,.int .i64 0,.int .i64 1,.int .i64 2,.int .i64 0,.int .i64 3,.int .i64 3,.int .i64 1,.int .i64 2] 67)
theorem exW4_ok (w:World):Blk (exW4 w) w.heap.size 32 [.slice (some ⟨w.heap.size + 1,0,none⟩) 2 2,.int .i64 4,.slice (some ⟨w.heap.size + 1 + 1,0,none⟩) 1 1,.slice (some ⟨w.heap.size + 1 + 1 + 1,0,none⟩) 5 5]∧Blk (exW4 w) (w.heap.size + 1) 3 [.int .i64 0,.int .i64 1]∧Blk (exW4 w) (w.heap.size + 1 + 1) 3 [.int .i64 1]∧Blk (exW4 w) (w.heap.size + 1 + 1 + 1) 67 [.int .i64 0,.int .i64 0,.int .i64 1,.int .i64 0,.int .i64 1,.int .i64 2,.int .i64 1,.int .i64 0,.int .i64 1,.int .i64 2,.int .i64 0,.int .i64 3,.int .i64 3,.int .i64 1,.int .i64 2]∧Below w.heap.size w (exW4 w):=by
 refine ⟨?_,?_,?_,?_,?_⟩
 ·unfold exW4;(repeat (first | (refine Blk.at_ _ _ _ ?_;simp;done) | (refine Blk.at_ _ _ _ rfl) | refine Blk.al ?_ _))
 ·unfold exW4;(repeat (first | (refine Blk.at_ _ _ _ ?_;simp;done) | (refine Blk.at_ _ _ _ rfl) | refine Blk.al ?_ _))
 ·unfold exW4;(repeat (first | (refine Blk.at_ _ _ _ ?_;simp;done) | (refine Blk.at_ _ _ _ rfl) | refine Blk.al ?_ _))
 ·unfold exW4;(repeat (first | (refine Blk.at_ _ _ _ ?_;simp;done) | (refine Blk.at_ _ _ _ rfl) | refine Blk.al ?_ _))
 ·unfold exW4;(repeat (first | assumption | exact Below.refl _ _ | refine below_drewN ?_ _ | (refine Below.alloc ?_ ?_ _;rotate_left;· first | (simp;done) | (simp;omega))))
def exW8 (w:World):World:=(((((w.alloc (.cells #[.slice (some ⟨w.heap.size + 1,0,none⟩) 4 4,.int .i64 4,.slice (some ⟨w.heap.size + 1 + 1,0,none⟩) 1 1,.slice (some ⟨w.heap.size + 1 + 1 + 1,0,none⟩) 4 4,.slice (some ⟨w.heap.size + 1 + 1 + 1 + 1,0,none⟩) 1 1,.slice (some ⟨w.heap.size + 1 + 1 + 1 + 1 + 1,0,none⟩) 1 1] 34)).alloc (.cells #[.int .i64 0,.int .i64 1,.int .i64 2,.int .i64 3] 3)).alloc (.cells #[.int .i64 0] 3)).alloc (.cells #[.int .i64 0,.int .i64 0,.int .i64 1,.int .i64 0,.int .i64 1,.int .i64 3,.int .i64 1,.int .i64 3,.int .i64 2,.int .i64 3,.int .i64 2,.int .i64 0] 67)).alloc (.cells #[.int .i64 3] 3)).alloc (.cells #[.int .i64 2] 3)
theorem exW8_ok (w:World):Blk (exW8 w) w.heap.size 34 [.slice (some ⟨w.heap.size + 1,0,none⟩) 4 4,.int .i64 4,.slice (some ⟨w.heap.size + 1 + 1,0,none⟩) 1 1,.slice (some ⟨w.heap.size + 1 + 1 + 1,0,none⟩) 4 4,.slice (some ⟨w.heap.size + 1 + 1 + 1 + 1,0,none⟩) 1 1,.slice (some ⟨w.heap.size + 1 + 1 + 1 + 1 + 1,0,none⟩) 1 1]∧Blk (exW8 w) (w.heap.size + 1) 3 [.int .i64 0,.int .i64 1,.int .i64 2,.int .i64 3]∧Blk (exW8 w) (w.heap.size + 1 + 1) 3 [.int .i64 0]∧Blk (exW8 w) (w.heap.size + 1 + 1 + 1) 67 [.int .i64 0,.int .i64 0,.int .i64 1,.int .i64 0,.int .i64 1,.int .i64 3,.int .i64 1,.int .i64 3,.int .i64 2,.int .i64 3,.int .i64 2,.int .i64 0]∧Blk (exW8 w) (w.heap.size + 1 + 1 + 1 + 1) 3 [.int .i64 3]∧Blk (exW8 w) (w.heap.size + 1 + 1 + 1 + 1 + 1) 3 [.int .i64 2]∧Below w.heap.size w (exW8 w):=by
 refine ⟨?_,?_,?_,?_,?_,?_,?_⟩
 ·unfold exW8;(repeat (first | (refine Blk.at_ _ _ _ ?_;simp;done) | (refine Blk.at_ _ _ _ rfl) | refine Blk.al ?_ _))
 ·unfold exW8;(repeat (first | (refine Blk.at_ _ _ _ ?_;simp;done) | (refine Blk.at_ _ _ _ rfl) | refine Blk.al ?_ _))
 ·unfold exW8;(repeat (first | (refine Blk.at_ _ _ _ ?_;simp;done) | (refine Blk.at_ _ _ _ rfl) | refine Blk.al ?_ _))
 ·unfold exW8;(repeat (first | (refine Blk.at_ _ _ _ ?_;simp;done) | (refine Blk.at_ _ _ _ rfl) | refine Blk.al ?_ _))
 ·unfold exW8;(repeat (first | (refine Blk.at_ _ _ _ ?_;simp;done) | (refine Blk.at_ _ _ _ rfl) | refine Blk.al ?_ _))
 ·unfold exW8;(repeat (first | (refine Blk.at_ _ _ _ ?_;simp;done) | (refine Blk.at_ _ _ _ rfl) | refine Blk.al ?_ _))
 ·unfold exW8;(repeat (first | assumption | exact Below.refl _ _ | refine below_drewN ?_ _ | (refine Below.alloc ?_ ?_ _;rotate_left;· first | (simp;done) | (simp;omega))))
set_option maxRecDepth 100000 in
set_option maxHeartbeats 1600000 in
theorem law_example04 (w:World):Calls Try.prog 97 #[] w fun e w'=>∃ x:AV,e = .returned (.agg #[.slice x.A x.na x.ca,.int .i64 x.a.st,.slice x.M x.nm x.cm,.slice x.E x.ne x.ce])∧x.ok w' w'.heap.size∧x.a = exL4∧Below w.heap.size w w':=by
 have hk:=exW4_ok w
 have Z0:=Lib.hid (hk.1.cell (j:=0) rfl)
 have Z1:=Lib.hid (hk.1.cell (j:=1) rfl)
 have Z2:=Lib.hid (hk.1.cell (j:=2) rfl)
 have Z3:=Lib.hid (hk.1.cell (j:=3) rfl)
 have HK:=Lib.hid hk
 clear hk
 go_enter Try.func97,Try.ntmps97
 go_wp2
 rw [show (((w.alloc (.cells #[.slice (some ⟨w.heap.size + 1,0,none⟩) 2 2,.int .i64 4,.slice (some ⟨w.heap.size + 1 + 1,0,none⟩) 1 1,.slice (some ⟨w.heap.size + 1 + 1 + 1,0,none⟩) 5 5] 32)).alloc (.cells #[.int .i64 0,.int .i64 1] 3)).alloc (.cells #[.int .i64 1] 3)).alloc (.cells #[.int .i64 0,.int .i64 0,.int .i64 1,.int .i64 0,.int .i64 1,.int .i64 2,.int .i64 1,.int .i64 0,.int .i64 1,.int .i64 2,.int .i64 0,.int .i64 3,.int .i64 3,.int .i64 1,.int .i64 2] 67) = exW4 w from rfl]
 refine bodyPost_ret (v:=.agg #[.slice (some ⟨w.heap.size + 1,0,none⟩) 2 2,.int .i64 4,.slice (some ⟨w.heap.size + 1 + 1,0,none⟩) 1 1,.slice (some ⟨w.heap.size + 1 + 1 + 1,0,none⟩) 5 5]) (by simp [results,Try.results97,go_sem,Z0.out,Z1.out,Z2.out,Z3.out]) rfl ?_
 exact ⟨⟨some ⟨w.heap.size + 1,0,none⟩,2,2,some ⟨w.heap.size + 1 + 1,0,none⟩,1,1,some ⟨w.heap.size + 1 + 1 + 1,0,none⟩,5,5,exL4⟩,rfl,⟨rfl,by dsimp only;omega,by dsimp only;omega,rdI_blk (l:=[0,1]) HK.out.2.1,rfl,by dsimp only;omega,by dsimp only;omega,rdI_blk (l:=[1]) HK.out.2.2.1,rfl,by dsimp only;omega,by dsimp only;omega,rdX_blk (l:=exL4.ed) HK.out.2.2.2.1⟩,rfl,HK.out.2.2.2.2⟩
set_option maxRecDepth 100000 in
set_option maxHeartbeats 1600000 in
theorem law_example28 (w:World):Calls Try.prog 79 #[] w fun e w'=>∃ z:PB,e = .returned (.agg (pbc z).toArray)∧z.ok w' w'.heap.size∧z.m = exP8∧Below w.heap.size w w':=by
 have hk:=exW8_ok w
 have Z0:=Lib.hid (hk.1.cell (j:=0) rfl)
 have Z1:=Lib.hid (hk.1.cell (j:=1) rfl)
 have Z2:=Lib.hid (hk.1.cell (j:=2) rfl)
 have Z3:=Lib.hid (hk.1.cell (j:=3) rfl)
 have Z4:=Lib.hid (hk.1.cell (j:=4) rfl)
 have Z5:=Lib.hid (hk.1.cell (j:=5) rfl)
 have HK:=Lib.hid hk
 clear hk
 go_enter Try.func79,Try.ntmps79
 go_wp2
 rw [show (((((w.alloc (.cells #[.slice (some ⟨w.heap.size + 1,0,none⟩) 4 4,.int .i64 4,.slice (some ⟨w.heap.size + 1 + 1,0,none⟩) 1 1,.slice (some ⟨w.heap.size + 1 + 1 + 1,0,none⟩) 4 4,.slice (some ⟨w.heap.size + 1 + 1 + 1 + 1,0,none⟩) 1 1,.slice (some ⟨w.heap.size + 1 + 1 + 1 + 1 + 1,0,none⟩) 1 1] 34)).alloc (.cells #[.int .i64 0,.int .i64 1,.int .i64 2,.int .i64 3] 3)).alloc (.cells #[.int .i64 0] 3)).alloc (.cells #[.int .i64 0,.int .i64 0,.int .i64 1,.int .i64 0,.int .i64 1,.int .i64 3,.int .i64 1,.int .i64 3,.int .i64 2,.int .i64 3,.int .i64 2,.int .i64 0] 67)).alloc (.cells #[.int .i64 3] 3)).alloc (.cells #[.int .i64 2] 3) = exW8 w from rfl]
 refine bodyPost_ret (v:=.agg #[.slice (some ⟨w.heap.size + 1,0,none⟩) 4 4,.int .i64 4,.slice (some ⟨w.heap.size + 1 + 1,0,none⟩) 1 1,.slice (some ⟨w.heap.size + 1 + 1 + 1,0,none⟩) 4 4,.slice (some ⟨w.heap.size + 1 + 1 + 1 + 1,0,none⟩) 1 1,.slice (some ⟨w.heap.size + 1 + 1 + 1 + 1 + 1,0,none⟩) 1 1]) (by simp [results,Try.results79,go_sem,Z0.out,Z1.out,Z2.out,Z3.out,Z4.out,Z5.out]) rfl ?_
 exact ⟨⟨⟨some ⟨w.heap.size + 1,0,none⟩,4,4,some ⟨w.heap.size + 1 + 1,0,none⟩,1,1,some ⟨w.heap.size + 1 + 1 + 1,0,none⟩,4,4,exP8.a⟩,⟨some ⟨w.heap.size + 1 + 1 + 1 + 1,0,none⟩,1,1,[3]⟩,⟨some ⟨w.heap.size + 1 + 1 + 1 + 1 + 1,0,none⟩,1,1,[2]⟩⟩,rfl,⟨⟨rfl,by dsimp only;omega,by dsimp only;omega,rdI_blk (l:=[0,1,2,3]) HK.out.2.1,rfl,by dsimp only;omega,by dsimp only;omega,rdI_blk (l:=[0]) HK.out.2.2.1,rfl,by dsimp only;omega,by dsimp only;omega,rdX_blk (l:=exP8.a.ed) HK.out.2.2.2.1⟩,⟨rfl,by dsimp only;omega,by dsimp only;omega,rdI_blk (l:=[3]) HK.out.2.2.2.2.1⟩,⟨rfl,by dsimp only;omega,by dsimp only;omega,rdI_blk (l:=[2]) HK.out.2.2.2.2.2.1⟩⟩,rfl,HK.out.2.2.2.2.2.2⟩
end Go.Proofs.Ytdnmpndnpfklcaa

/- The law's known of chapter 4. -/
namespace Go.Proofs.Ytdnmpndnpfklcaa
open Go.RowKit Go Go.Maps
theorem ex4_pa2:pathS exL4 ((0:Nat):Int) (fl (inF 4 [3])) (fun x=>fl (inF 4 [0,1,2,3]) x.t) = some [1,0]:=by decide
theorem ex4_mx (x:AV) (h:x.a = exL4):x.a.st = ((4:Nat):Int):=by rw [h];rfl
set_option maxRecDepth 100000 in
set_option maxHeartbeats 3200000 in
theorem law_known04 (w:World):Calls Try.prog 80 #[] w fun e w'=>e = .returned (.bool true)∧Below w.heap.size w w':=by
 go_enter Try.func80,Try.ntmps80
 go_wp2_with fail
 refine (law_example04 w).mono ?_
 rintro e w1 ⟨x,rfl,hx,ha,hb1⟩
 have HB1:=Lib.hid hb1
 have HCO:=Lib.hid (reach_Coreachable x 4 w1 hx (by rw [ha];exact ex4_wf) (ex4_mx x ha))
 rw [ha,ex4_co] at HCO
 rw [ha]
 clear hx hb1 ha
 go_wp2_with fail
 refine HCO.out.mono ?_
 rintro e w2 ⟨v,rfl,ho,hb2⟩
 obtain ⟨A1,c1,rfl⟩:=own_shape ho
 have HC1:=Lib.hid (own_cap' ho)
 have HR1:=Lib.hid (fun (W:World) (hb:Below w2.heap.size w2 W)=>(((rdI_own (l:=[0,1]) rfl ho).below hb).more hb.size))
 have HB2:=Lib.hid (HB1.out.trans (hb2.mono HB1.out.size))
 clear HCO ho hb2
 go_wp2_with fail
 refine (law_example04 w2).mono ?_
 rintro e w3 ⟨x,rfl,hx,ha,hb3⟩
 have hbx:=box_below w3 (.cells #[.int .i64 3] 3)
 have hb3':=hb3.trans (hbx.mono hb3.size)
 have kr:Blk (w3.alloc (.cells #[.int .i64 3] 3)) w3.heap.size 3 (iv [3]):=Blk.new _ _ [_]
 have HDI:=Lib.hid (reach_Distances x 4 (some ⟨w3.heap.size,0,none⟩) 1 1 [3] (w3.alloc (.cells #[.int .i64 3] 3)) (AutR.more (AutR.below hx hbx) hbx.size) (by rw [ha];exact ex4_wf) (ex4_mx x ha) rfl (rdI_blk kr) (Nat.le_refl _) (by omega) (by simp [Inc]) (by decide))
 rw [ha,ex4_di] at HDI
 rw [ha]
 have HB3:=Lib.hid hb3'
 clear hx hb3 ha hbx hb3' kr
 go_wp2_with fail
 refine HDI.out.mono ?_
 rintro e w4 ⟨ob,rfl,hk,_,_,hb4⟩
 have HB4:=Lib.hid (HB3.out.trans (hb4.mono HB3.out.size))
 have HR4:=Lib.hid (fun (W:World) (hb:Below w4.heap.size w4 W)=>(((rdI_blk hk).below hb).more hb.size))
 clear HDI hk hb4
 go_wp2_with fail
 refine (law_example04 w4).mono ?_
 rintro e w5 ⟨x,rfl,hx,ha,hb5⟩
 have hbx:=box_below w5 (.cells #[.int .i64 3] 3)
 have hby:=box_below (w5.alloc (.cells #[.int .i64 3] 3)) (.cells #[.int .i64 0,.int .i64 1,.int .i64 2,.int .i64 3] 3)
 have hbz:=hbx.trans (hby.mono hbx.size)
 have k1:Blk ((w5.alloc (.cells #[.int .i64 3] 3)).alloc (.cells #[.int .i64 0,.int .i64 1,.int .i64 2,.int .i64 3] 3)) w5.heap.size 3 (iv [3]):=(show Blk (w5.alloc (.cells #[.int .i64 3] 3)) w5.heap.size 3 (iv [3]) from Blk.new _ _ [_]).al _
 have k2:Blk ((w5.alloc (.cells #[.int .i64 3] 3)).alloc (.cells #[.int .i64 0,.int .i64 1,.int .i64 2,.int .i64 3] 3)) (w5.heap.size + 1) 3 (iv [0,1,2,3]):=by
  have h9:Blk ((w5.alloc (.cells #[.int .i64 3] 3)).alloc (.cells #[.int .i64 0,.int .i64 1,.int .i64 2,.int .i64 3] 3)) (w5.alloc (.cells #[.int .i64 3] 3)).heap.size 3 (iv [0,1,2,3]):=Blk.new _ _ [_,_,_,_]
  simpa using h9
 have HPA:=Lib.hid (reach_Path x _ 4 0 (AutR.more (AutR.below hx hbz) hbz.size) (by rw [ha];exact ex4_wf) (ex4_mx x ha) (by omega) (some ⟨w5.heap.size,0,none⟩) 1 1 [3] (some ⟨w5.heap.size + 1,0,none⟩) 4 4 [0,1,2,3] rfl (rdI_blk k1) (Nat.le_refl _) (by omega) (by decide) (by decide) rfl (rdI_blk k2) (Nat.le_refl _) (by omega) (by decide) (by decide) (by decide) (fun y=>fl (inF 4 [0,1,2,3]) y.t) (fun y _=>rfl) (some [1,0]) (by rw [ha];exact ex4_pa2))
 rw [ha] at HPA ⊢
 have HB5:=Lib.hid (hb5.trans (hbz.mono hb5.size))
 clear hx hb5 ha hbx hby hbz k1 k2
 go_wp2_with fail
 refine HPA.out.mono ?_
 rintro e w6 ⟨v,rfl,ho,hb6⟩
 obtain ⟨A6,c6,rfl⟩:=own_shape ho
 have HC6:=Lib.hid (own_cap' ho)
 have HR6:=Lib.hid (fun (W:World) (hb:Below w6.heap.size w6 W)=>(((rdI_own (l:=[1,0]) rfl ho).below hb).more hb.size))
 have HB6:=Lib.hid (HB5.out.trans (hb6.mono HB5.out.size))
 clear HPA ho hb6
 go_wp2_with fail
 refine (law_example04 w6).mono ?_
 rintro e w7 ⟨x,rfl,hx,ha,hb7⟩
 have hbx:=box_below w7 (.cells #[.int .i64 0,.int .i64 1,.int .i64 2] 3)
 have hby:=box_below (w7.alloc (.cells #[.int .i64 0,.int .i64 1,.int .i64 2] 3)) (.cells #[.int .i64 0] 3)
 have hbz:=hbx.trans (hby.mono hbx.size)
 have k1:Blk ((w7.alloc (.cells #[.int .i64 0,.int .i64 1,.int .i64 2] 3)).alloc (.cells #[.int .i64 0] 3)) w7.heap.size 3 (iv [0,1,2]):=(show Blk (w7.alloc (.cells #[.int .i64 0,.int .i64 1,.int .i64 2] 3)) w7.heap.size 3 (iv [0,1,2]) from Blk.new _ _ [_,_,_]).al _
 have k2:Blk ((w7.alloc (.cells #[.int .i64 0,.int .i64 1,.int .i64 2] 3)).alloc (.cells #[.int .i64 0] 3)) (w7.heap.size + 1) 3 (iv [0]):=by
  have h9:Blk ((w7.alloc (.cells #[.int .i64 0,.int .i64 1,.int .i64 2] 3)).alloc (.cells #[.int .i64 0] 3)) (w7.alloc (.cells #[.int .i64 0,.int .i64 1,.int .i64 2] 3)).heap.size 3 (iv [0]):=Blk.new _ _ [_]
  simpa using h9
 have HIN:=Lib.hid (reach_Interior x 4 (some ⟨w7.heap.size,0,none⟩) 3 3 [0,1,2] (some ⟨w7.heap.size + 1,0,none⟩) 1 1 [0] _ (AutR.more (AutR.below hx hbz) hbz.size) (by rw [ha];exact ex4_wf) (ex4_mx x ha) rfl (rdI_blk k1) (Nat.le_refl _) (by omega) (by simp [Inc]) (by decide) rfl (rdI_blk k2) (Nat.le_refl _) (by omega) (by simp [Inc]) (by decide))
 rw [ha,ex4_in] at HIN
 rw [ha]
 have HB7:=Lib.hid (hb7.trans (hbz.mono hb7.size))
 clear hx hb7 ha hbx hby hbz k1 k2
 go_wp2_with fail
 refine HIN.out.mono ?_
 rintro e w8 ⟨v,rfl,ho,hb8⟩
 obtain ⟨A8,c8,rfl⟩:=own_shape ho
 have HC8:=Lib.hid (own_cap' ho)
 have HR8:=Lib.hid (fun (W:World) (hb:Below w8.heap.size w8 W)=>(((rdI_own (l:=[0,1]) rfl ho).below hb).more hb.size))
 have HB8:=Lib.hid (HB7.out.trans (hb8.mono HB7.out.size))
 clear HIN ho hb8
 -- from w2 to w8
 have h24:=HB4.out
 have h46:=HB6.out
 have h68:=HB8.out
 have HW48:=Lib.hid (h46.trans (h68.mono h46.size))
 have HW28:=Lib.hid (h24.trans (HW48.out.mono h24.size))
 have HW08:=Lib.hid (HB2.out.trans (HW28.out.mono HB2.out.size))
 clear h24 h46 h68
 have hx1:=box_below w8 (.cells #[.int .i64 0,.int .i64 1] 3)
 have hs1:=hx1
 have q1:=HW28.out.trans (hx1.mono HW28.out.size)
 have kk:Blk (w8.alloc (.cells #[.int .i64 0,.int .i64 1] 3)) w8.heap.size 3 (iv [0,1]):=Blk.new _ _ [_,_]
 have HS1:=Lib.hid (law_same04_n A1 (some ⟨w8.heap.size,0,none⟩) c1 2 2 2 [0,1] [0,1] true _ rfl rfl (by decide) (HR1.out _ q1) HC1.out.1 HC1.out.2 (rdI_blk kk))
 have HX1:=Lib.hid hx1
 clear hx1 hs1 q1 kk
 go_wp2_with fail
 refine HS1.out.mono ?_
 rintro e w9 ⟨rfl,hb9⟩
 have HW89:=Lib.hid (HX1.out.trans (hb9.mono HX1.out.size))
 clear HS1 hb9
 have hx1:=box_below w9 (.cells #[.int .i64 2,.int .i64 (-1),.int .i64 1,.int .i64 0] 3)
 have q1:=(HW48.out.trans (HW89.out.mono HW48.out.size)).trans (hx1.mono (HW48.out.trans (HW89.out.mono HW48.out.size)).size)
 have kk:Blk (w9.alloc (.cells #[.int .i64 2,.int .i64 (-1),.int .i64 1,.int .i64 0] 3)) w9.heap.size 3 (iv [2,-1,1,0]):=Blk.new _ _ [_,_,_,_]
 have HS1:=Lib.hid (law_same04_n (some ⟨ob,0,none⟩) (some ⟨w9.heap.size,0,none⟩) 4 4 4 4 [2,-1,1,0] [2,-1,1,0] true _ rfl rfl (by decide) (HR4.out _ q1) (Nat.le_refl _) (by omega) (rdI_blk kk))
 have HX1:=Lib.hid (HW89.out.trans (hx1.mono HW89.out.size))
 clear hx1 q1 kk
 go_wp2_with fail
 refine HS1.out.mono ?_
 rintro e w10 ⟨rfl,hb9⟩
 have HW8A:=Lib.hid (HX1.out.trans (hb9.mono HX1.out.size))
 clear HS1 hb9
 have hx1:=box_below w10 (.cells #[.int .i64 1,.int .i64 0] 3)
 have q1:=(HB8.out.trans (HW8A.out.mono HB8.out.size)).trans (hx1.mono (HB8.out.trans (HW8A.out.mono HB8.out.size)).size)
 have kk:Blk (w10.alloc (.cells #[.int .i64 1,.int .i64 0] 3)) w10.heap.size 3 (iv [1,0]):=Blk.new _ _ [_,_]
 have HS1:=Lib.hid (law_same04_n A6 (some ⟨w10.heap.size,0,none⟩) c6 2 2 2 [1,0] [1,0] true _ rfl rfl (by decide) (HR6.out _ q1) HC6.out.1 HC6.out.2 (rdI_blk kk))
 have HX1:=Lib.hid (HW8A.out.trans (hx1.mono HW8A.out.size))
 clear hx1 q1 kk
 go_wp2_with fail
 refine HS1.out.mono ?_
 rintro e w11 ⟨rfl,hb9⟩
 have HW8B:=Lib.hid (HX1.out.trans (hb9.mono HX1.out.size))
 clear HS1 hb9
 have hx1:=box_below w11 (.cells #[.int .i64 0,.int .i64 1] 3)
 have q1:=HW8B.out.trans (hx1.mono HW8B.out.size)
 have kk:Blk (w11.alloc (.cells #[.int .i64 0,.int .i64 1] 3)) w11.heap.size 3 (iv [0,1]):=Blk.new _ _ [_,_]
 have HS1:=Lib.hid (law_same04_n A8 (some ⟨w11.heap.size,0,none⟩) c8 2 2 2 [0,1] [0,1] true _ rfl rfl (by decide) (HR8.out _ q1) HC8.out.1 HC8.out.2 (rdI_blk kk))
 have HX1:=Lib.hid q1
 clear hx1 q1 kk
 go_wp2_with fail
 refine HS1.out.mono ?_
 rintro e w12 ⟨rfl,hb9⟩
 have HWF:=Lib.hid (HW08.out.trans ((HX1.out.trans (hb9.mono HX1.out.size)).mono HW08.out.size))
 clear HS1 hb9
 go_wp2
 go_ret
 exact ⟨rfl,HWF.out⟩
end Go.Proofs.Ytdnmpndnpfklcaa

/- The laws' Known of chapter 4 and Bits. -/
namespace Go.Proofs.Ytdnmpndnpfklcaa
open Go.RowKit Go Go.Maps
theorem law_Known04 (w:World):Calls Try.prog 35 #[] w fun e w'=>e = .returned (.bool true)∧Below w.heap.size w w':=by
 have HK:=Lib.hid (law_known04 w)
 go_enter Try.func35,Try.ntmps35
 go_wp2_with fail
 refine HK.out.mono ?_
 rintro e w1 ⟨rfl,hb1⟩
 have HB:=Lib.hid hb1
 clear hb1
 go_wp2
 go_ret
 exact ⟨rfl,HB.out⟩
set_option maxRecDepth 100000 in
set_option maxHeartbeats 1600000 in
theorem law_Bits (x:Int) (n:Nat) (w:World) (hx:0 ≤ x∧x ≤ 255) (hn:n ≤ 8) :
  Calls Try.prog 26 #[.int .u8 x,.int .i64 (n:Int)] w (RetO 3 (setB x n) w):=by
 obtain ⟨hx0,hx1⟩:=hx
 go_enter Try.func26,Try.ntmps26
 go_wp2
 go_loopw [5,6] (fun o i wr=>∃ k m:Nat,k ≤ n∧i = .int .i64 k∧m ≤ k∧Hid ((setB x k).length = m)∧Hid (wr.ownsRow w.heap.size 3 1 o m (iv (setB x k)))∧Hid (Below w.heap.size w wr)) (fun _ i _=>n - (intOf i).toNat)
 case atStart=>exact ⟨0,0,Nat.zero_le _,rfl,Nat.le_refl _,Lib.hid rfl,Lib.hid (World.ownsRow_nil _ _ _ _),Lib.hid (Below.refl _ _)⟩
 case round =>
  obtain ⟨k,m,hk,rfl,hmk,HM,HO,HB⟩:=hrel
  have hsz:=HB.out.size
  by_cases hlt:k < n
  case pos =>
   have b1:(k:Int) < (n:Int):=by omega
   have hk256:k < 256:=by omega
   cases hq:bitB x k with
   | true =>
    have hb2:(bits BinOp.and IntKind.u8 (x / 2 ^ k) 1 == 1) = true:=bit_u8 hq hx0 hx1
    have HQ:=Lib.hid hq;clear hq
    go_wp2_with (first | (at_builtin;refine wpList_push wr (.int .i64 (k:Int)) rfl (.tmp 17) (.tmp 19) 29 rfl w.heap.size 3 (.int .i64 0) 8 Try.underlying29 int_info rfl u5 m _ rfl HO.out rfl rfl (by omega) (by omega) hsz ?_;intro v' w' ho' hg' hb1) | fail)
    go_roundw
    case rel=>exact ⟨k + 1,m + 1,by omega,by go_num,by omega,Lib.hid (by rw [setB_yes HQ.out,List.length_append,HM.out];rfl),Lib.hid (by rw [setB_yes HQ.out,iv_append];exact ho'),Lib.hid (HB.out.trans hb1)⟩
    case measure=>simp [intOf];omega
   | false =>
    have hb2:(bits BinOp.and IntKind.u8 (x / 2 ^ k) 1 == 1) = false:=bit_u8 hq hx0 hx1
    have HQ:=Lib.hid hq;clear hq
    go_wp2
    go_roundw
    case rel=>exact ⟨k + 1,m,by omega,by go_num,by omega,Lib.hid (by rw [setB_no HQ.out];exact HM.out),Lib.hid (by rw [setB_no HQ.out];exact HO.out),HB⟩
    case measure=>simp [intOf];omega
  obtain rfl:k = n:=by omega
  have b1:¬ (k:Int) < (k:Int):=by omega
  go_wp2
  refine bodyPost_ret (v:=_) (by simp [results,Try.results26,go_sem];rfl) rfl ?_
  exact ⟨_,rfl,by rw [HM.out];exact HO.out,HB.out⟩
end Go.Proofs.Ytdnmpndnpfklcaa
