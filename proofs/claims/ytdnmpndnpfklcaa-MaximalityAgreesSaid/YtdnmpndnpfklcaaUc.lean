/- Walks: ref03.Canonical. -/
import Derived.Test.YtdnmpndnpfklcaaTu
import Derived.IntWalk
import Derived.Test.YtdnmpndnpfklcaaRow
import Derived.Deep.Strs
import Derived.Test.YtdnmpndnpfklcaaSa
import Derived.Test.YtdnmpndnpfklcaaMe
import Derived.Maps.Own
import Derived.Maps.OwnOps
import Derived.Maps.Views
import Derived.Maps.OwnSet
import Derived.WideAt
import Derived.Deep.RegionHeld3
import Derived.Test.YtdnmpndnpfklcaaAa
import Derived.Test.YtdnmpndnpfklcaaQa
import Derived.RangeFuncNested
import Derived.RangeFuncBound
import Derived.RangeFuncCalls
import Derived.RangeFuncLeaves
import Derived.RangeFuncFrom
import Derived.Below
import Derived.WalkKit

namespace Go.Proofs.Ytdnmpndnpfklcaa
open Go.RowKit Go
end Go.Proofs.Ytdnmpndnpfklcaa
/- Walks: L03.Make. -/
namespace Go.Proofs.Ytdnmpndnpfklcaa
open Go.RowKit Go
end Go.Proofs.Ytdnmpndnpfklcaa

/- From a row's readings to the walks' words: graphs, parts, problems (chapter 26). -/
namespace Go.Proofs.Ytdnmpndnpfklcaa
open Go.ChangeShapes Go.WideShapes Go.ChangeAt Go.RowKit Go.Deep Go
section
variable {H:Type} {enc:TypeId × Value → H} {W:World} {base:Nat} {spare:Nat → Bool} {held:Bool}
theorem one_of {cs:List Value} {i:Nat} {v:Value} (h:(cs.drop i).take 1 = [v]):cs[i]? = some v:=by
 have h1:((cs.drop i).take 1)[0]? = some v:=by rw [h];rfl
 rw [List.getElem?_take,if_pos (by omega),List.getElem?_drop] at h1
 simpa using h1
theorem u8_wf {z:Int} (h:(Lit.int .u8 z).wf = true):0 ≤ z∧z ≤ 255:=by
 simp [Lit.wf,IntKind.min,IntKind.max,IntKind.bits,IntKind.signed] at h
 omega
theorem cells_one {fuel:Nat} {cs:List Value} {o:Nat} {t:TypeId} {x:DataW H × List MemPlace} (ht:Try.prog.underlying t = some (.int .u8)) (hc:Try.prog.cellsOf t = 1) (h:DataW.trod enc Try.prog W base spare held fuel t ((cs.drop o).take (Try.prog.cellsOf t)) = some x):∃ z:Int,cs[o]? = some (.int .u8 z)∧0 ≤ z∧z ≤ 255:=by
 rw [hc] at h
 obtain ⟨z,hz,_,hw⟩:=DataW.trod_int ht h
 exact ⟨z,one_of hz,u8_wf hw⟩
theorem cons_of {cs:List Value} {v:Value} (h:cs[0]? = some v):cs = v :: cs.drop 1:=by
 cases cs with
 | nil=>simp at h
 | cons a r=>simp at h;subst h;rfl
end
end Go.Proofs.Ytdnmpndnpfklcaa

/- Names, events, alphabet.Check. Printed by wip/mkip.py. -/
namespace Go.Proofs.Ytdnmpndnpfklcaa
open Go.RowKit Go
structure Ev where
 nm:ByteArray
 c:Bool
 o:Bool
 f:Bool
 fault:Int
def letB (c:Int):Bool:=(decide (97 ≤ c) && decide (c ≤ 122)) || (decide (65 ≤ c) && decide (c ≤ 90)) || (c == 95)
def digB (c:Int):Bool:=decide (48 ≤ c) && decide (c ≤ 57)
def okB (i:Nat) (c:Int):Bool:=letB c || (digB c && !(i == 0))
def okG:Nat → List UInt8 → Bool
 | _,[]=>true
 | i,c :: r=>okB i (c.toNat:Int) && okG (i + 1) r
def nameB (s:ByteArray):Bool:=decide (0 < s.size) && decide (s.size ≤ 32) && okG 0 s.data.toList
def inB (pre:List ByteArray) (s:ByteArray):Bool:=pre.any (fun t=>decide (t = s))
def evErr (pre:List ByteArray) (e:Ev):Int :=
 if nameB e.nm = false then 7 else if inB pre e.nm = true then 8 else if e.fault < 0 ∨ 4 < e.fault then 2 else if e.fault ≠ 0∧(e.c = true ∨ e.o = true) then 13 else 0
end Go.Proofs.Ytdnmpndnpfklcaa
namespace Go.Proofs.Ytdnmpndnpfklcaa
open Go.RowKit Go
end Go.Proofs.Ytdnmpndnpfklcaa
namespace Go.Proofs.Ytdnmpndnpfklcaa
open Go.RowKit Go Go.Maps
end Go.Proofs.Ytdnmpndnpfklcaa
namespace Go.Proofs.Ytdnmpndnpfklcaa
open Go.RowKit Go
theorem ev2 {pre:List ByteArray} {e:Ev} (h:nameB e.nm = true) (h2:inB pre e.nm = false) (h3:e.fault < 0 ∨ 4 < e.fault):evErr pre e = 2:=by simp [evErr,h,h2,h3]
end Go.Proofs.Ytdnmpndnpfklcaa

/- Walks: product.Synchronous. -/
namespace Go.Proofs.Ytdnmpndnpfklcaa
open Go.RowKit Go Go.Maps
end Go.Proofs.Ytdnmpndnpfklcaa

/- Walks: slices.Equal at edges, automaton.Equal; the law's same, sameAll, none. -/
namespace Go.Proofs.Ytdnmpndnpfklcaa
open Go.RowKit Go
def eqE (a b:List Ed):Bool:=decide (a = b)
theorem eqE_ne {a b:List Ed} {k:Nat} {x y:Ed} (ha:a[k]? = some x) (hb:b[k]? = some y) (h:x ≠ y):eqE a b = false:=by
 unfold eqE;rw [decide_eq_false_iff_not];rintro rfl;rw [ha] at hb;injection hb with hb;exact h hb
theorem eqE_len {a b:List Ed} (h:a.length ≠ b.length):eqE a b = false:=by
 unfold eqE;rw [decide_eq_false_iff_not];rintro rfl;exact h rfl
theorem eqE_of {a b:List Ed} (h:a = b):eqE a b = true:=by unfold eqE;rw [decide_eq_true_iff];exact h
theorem take_eq_snocE {a b:List Ed} {k:Nat} {x:Ed} (ha:a[k]? = some x) (hb:b[k]? = some x) (h:a.take k = b.take k):a.take (k + 1) = b.take (k + 1):=by rw [take_snoc' ha,take_snoc' hb,h]
theorem eq_of_dropE {a b:List Ed} (hl:a.length = b.length) {k:Nat} (h:a.take k = b.take k) (hk:¬ k < a.length):a = b:=by
 rwa [List.take_of_length_le (by omega),List.take_of_length_le (by omega)] at h
set_option maxHeartbeats 800000 in
theorem slices_EqualE (A B:Option Addr) (c d na nb:Nat) (a b:List Ed) (q:Bool) (w:World) (hla:a.length = na) (hlb:b.length = nb) (hq:eqE a b = q) (ha:RdX w w.heap.size A a) (hac:na ≤ c) (hc:c ≤ 9223372036854775807)
  (hb:RdX w w.heap.size B b) :
  Calls Try.prog 76 #[.slice A na c,.slice B nb d] w fun e w'=>e = .returned (.bool q)∧∃ n,w' = w.drewN n:=by
 by_cases hl:na = nb
 ·subst hl
  have HLA:=Lib.hid hla;clear hla
  have HLB:=Lib.hid hlb;clear hlb
  have HQ:=Lib.hid hq;clear hq
  go_enter Try.func76,Try.ntmps76
  go_wp2
  go_loopw [13] (fun i wr=>∃ k:Nat,k ≤ na∧i = .int .i64 k∧Hid (a.take k = b.take k)∧∃ n,wr = w.drewN n) (fun i _=>na - (intOf i).toNat)
  case atStart=>exact ⟨0,Nat.zero_le _,rfl,Lib.hid rfl,(by first | exact dr00 _ | exact dr0 _ _ | exact dr1 _ _ _ | exact dr2 _ _ _ _ | exact dr3 _ _ _ _ _)⟩
  case round =>
   obtain ⟨k,hk,rfl,HX,n,rfl⟩:=hrel
   by_cases hlt:k < na
   ·obtain ⟨ad,x,rfl,_,hx,p0,p1,p2⟩:=ha.at_ (k:=k) (by have:=HLA.out;omega)
    obtain ⟨bd,y,rfl,_,hy,q0,q1,q2⟩:=hb.at_ (k:=k) (by have:=HLB.out;omega)
    have b1:(k:Int) < (na:Int):=by omega
    have g1:=st_cells (j:=0) p1
    have g2:=st_cells (j:=1) p2
    have j1:=st_cells (j:=0) q1
    have j2:=st_cells (j:=1) q2
    clear p1 p2 q1 q2
    obtain ⟨xf,xe,xt⟩:=x
    obtain ⟨yf,ye,yt⟩:=y
    simp only at p0 g1 g2 q0 j1 j2
    have HXX:=Lib.hid hx;clear hx
    have HYY:=Lib.hid hy;clear hy
    by_cases e1:xf = yf
    ·subst e1
     by_cases e2:xe = ye
     ·subst e2
      by_cases e3:xt = yt
      ·subst e3
       go_wp2
       go_quiet (fail)
       go_wp2
       go_roundw
       case rel=>exact ⟨k + 1,by omega,by go_num,Lib.hid (take_eq_snocE HXX.out HYY.out HX.out),(by first | exact dr00 _ | exact dr0 _ _ | exact dr1 _ _ _ | exact dr2 _ _ _ _ | exact dr3 _ _ _ _ _)⟩
       case measure=>simp [intOf];omega
      ·go_wp2
       go_quiet (fail)
       go_wp2
       go_ret
       exact ⟨ret_bool (HQ.out.symm.trans (eqE_ne HXX.out HYY.out (by simp only [ne_eq,Ed.mk.injEq];omega))).symm,(by first | exact dr00 _ | exact dr0 _ _ | exact dr1 _ _ _ | exact dr2 _ _ _ _ | exact dr3 _ _ _ _ _)⟩
     ·go_wp2
      go_quiet (fail)
      go_wp2
      go_ret
      exact ⟨ret_bool (HQ.out.symm.trans (eqE_ne HXX.out HYY.out (by simp only [ne_eq,Ed.mk.injEq];omega))).symm,(by first | exact dr00 _ | exact dr0 _ _ | exact dr1 _ _ _ | exact dr2 _ _ _ _ | exact dr3 _ _ _ _ _)⟩
    ·go_wp2
     go_quiet (fail)
     go_wp2
     go_ret
     exact ⟨ret_bool (HQ.out.symm.trans (eqE_ne HXX.out HYY.out (by simp only [ne_eq,Ed.mk.injEq];omega))).symm,(by first | exact dr00 _ | exact dr0 _ _ | exact dr1 _ _ _ | exact dr2 _ _ _ _ | exact dr3 _ _ _ _ _)⟩
   ·have hf:=HQ.out.symm.trans (eqE_of (eq_of_dropE (HLA.out.trans HLB.out.symm) HX.out (by rw [HLA.out];exact hlt)))
    have HF:=Lib.hid hf;clear hf
    go_wp2
    go_ret
    exact ⟨ret_bool HF.out.symm,(by first | exact dr00 _ | exact dr0 _ _ | exact dr1 _ _ _ | exact dr2 _ _ _ _ | exact dr3 _ _ _ _ _)⟩
 ·have hl1:((na:Int) != (nb:Int)) = true:=by rw [bne_iff_ne];omega
  have hf:=hq.symm.trans (eqE_len (by rw [hla,hlb];exact hl))
  have HF:=Lib.hid hf;clear hf
  clear hq hla hlb
  go_enter Try.func76,Try.ntmps76
  go_wp2
  go_ret
  exact ⟨ret_bool HF.out.symm,(by first | exact dr00 _ | exact dr0 _ _ | exact dr1 _ _ _ | exact dr2 _ _ _ _ | exact dr3 _ _ _ _ _)⟩
def eqA (a b:Aut):Bool:=decide (a = b)
theorem eqA_of {a b:Aut} (h:a = b):eqA a b = true:=by unfold eqA;rw [decide_eq_true_iff];exact h
theorem eqA_def (a b:Aut):eqA a b = (decide (a.st = b.st) && eqB a.al b.al && eqB a.ma b.ma && eqE a.ed b.ed):=by
 obtain ⟨a1,a2,a3,a4⟩:=a
 obtain ⟨b1,b2,b3,b4⟩:=b
 unfold eqA eqB eqE
 rw [Bool.eq_iff_iff]
 simp only [decide_eq_true_iff,Bool.and_eq_true,Aut.mk.injEq]
 constructor
 ·rintro ⟨h1,h2,h3,h4⟩;simp [*]
 ·rintro ⟨⟨⟨h1,h2⟩,h3⟩,h4⟩;simp [*]
set_option maxRecDepth 100000 in
set_option maxHeartbeats 800000 in
theorem automaton_Equal (A M E A' M' E':Option Addr) (na ca nm cm ne ce na' ca' nm' cm' ne' ce':Nat) (a b:Aut) (q:Bool) (w:World) (hq:eqA a b = q)
  (ha:AutR w w.heap.size A na ca M nm cm E ne ce a) (hb:AutR w w.heap.size A' na' ca' M' nm' cm' E' ne' ce' b) :
  Calls Try.prog 32 #[.agg #[.slice A na ca,.int .i64 a.st,.slice M nm cm,.slice E ne ce],.agg #[.slice A' na' ca',.int .i64 b.st,.slice M' nm' cm',.slice E' ne' ce']] w fun e w'=>e = .returned (.bool q)∧Below w.heap.size w w':=by
 obtain ⟨q1,e1⟩:∃ q1,q1 = eqB a.al b.al:=⟨_,rfl⟩
 obtain ⟨q2,e2⟩:∃ q2,q2 = eqB a.ma b.ma:=⟨_,rfl⟩
 obtain ⟨q3,e3⟩:∃ q3,q3 = eqE a.ed b.ed:=⟨_,rfl⟩
 obtain ⟨x,hx⟩:∃ x,x = a.st:=⟨_,rfl⟩
 obtain ⟨y,hy⟩:∃ y,y = b.st:=⟨_,rfl⟩
 have hr:=eqA_def a b
 rw [hq,← e1,← e2,← e3,← hx,← hy] at hr
 rw [← hx,← hy]
 have HR:=Lib.hid hr;clear hr
 have hB:=(box_below w (.cells #[.slice A na ca,.int .i64 x,.slice M nm cm,.slice E ne ce] 32)).trans ((box_below _ (.cells #[.slice A' na' ca',.int .i64 y,.slice M' nm' cm',.slice E' ne' ce'] 32)).mono (by simp))
 obtain ⟨W,hW⟩:∃ W,W = ((w.alloc (.cells #[.slice A na ca,.int .i64 x,.slice M nm cm,.slice E ne ce] 32)).alloc (.cells #[.slice A' na' ca',.int .i64 y,.slice M' nm' cm',.slice E' ne' ce'] 32)):=⟨_,rfl⟩
 rw [← hW] at hB
 have C1:∀ n,Calls Try.prog 75 #[.slice A na ca,.slice A' na' ca'] (W.drewN n) fun e w'=>e = .returned (.bool q1)∧∃ n,w' = W.drewN n:=fun n=>(slices_Equal_n _ _ _ _ _ _ _ _ q1 (W.drewN n) ha.la hb.la e1.symm ((ha.ra.below hB).more hB.size) ha.ac ha.cA ((hb.ra.below hB).more hB.size)).mono fun _ _ ⟨h1,m,h2⟩=>⟨h1,n + m,by rw [h2,World.drewN_drewN]⟩
 have C2:∀ n,Calls Try.prog 75 #[.slice M nm cm,.slice M' nm' cm'] (W.drewN n) fun e w'=>e = .returned (.bool q2)∧∃ n,w' = W.drewN n:=fun n=>(slices_Equal_n _ _ _ _ _ _ _ _ q2 (W.drewN n) ha.lm hb.lm e2.symm ((ha.rm.below hB).more hB.size) ha.mc ha.cM ((hb.rm.below hB).more hB.size)).mono fun _ _ ⟨h1,m,h2⟩=>⟨h1,n + m,by rw [h2,World.drewN_drewN]⟩
 have C3:∀ n,Calls Try.prog 76 #[.slice E ne ce,.slice E' ne' ce'] (W.drewN n) fun e w'=>e = .returned (.bool q3)∧∃ n,w' = W.drewN n:=fun n=>(slices_EqualE _ _ _ _ _ _ _ _ q3 (W.drewN n) ha.le hb.le e3.symm ((ha.re.below hB).more hB.size) ha.ec ha.cE ((hb.re.below hB).more hB.size)).mono fun _ _ ⟨h1,m,h2⟩=>⟨h1,n + m,by rw [h2,World.drewN_drewN]⟩
 subst hW
 have HC1:=Lib.hid C1;clear C1
 have HC2:=Lib.hid C2;clear C2
 have HC3:=Lib.hid C3;clear C3
 have HB:=Lib.hid hB;clear hB
 clear hx hy hq ha hb
 have E1:=Lib.hid e1;clear e1
 have E2:=Lib.hid e2;clear e2
 have E3:=Lib.hid e3;clear e3
 go_enter Try.func32,Try.ntmps32
 by_cases hst:x = y
 ·subst hst
  go_wp2_with fail
  refine (HC1.out 0).mono ?_
  rintro e w' ⟨rfl,n1,rfl⟩
  cases q1 with
  | false =>
   go_wp2
   go_ret
   exact ⟨ret_bool (HR.out.trans (by simp)).symm,below_drewN HB.out _⟩
  | true =>
   go_wp2_with fail
   refine (HC2.out n1).mono ?_
   rintro e w' ⟨rfl,n2,rfl⟩
   cases q2 with
   | false =>
    go_wp2
    go_ret
    exact ⟨ret_bool (HR.out.trans (by simp)).symm,below_drewN HB.out _⟩
   | true =>
    go_wp2_with fail
    refine (HC3.out n2).mono ?_
    rintro e w' ⟨rfl,n3,rfl⟩
    go_wp2
    go_ret
    exact ⟨ret_bool (HR.out.trans (by simp)).symm,below_drewN HB.out _⟩
 ·go_wp2
  go_ret
  exact ⟨ret_bool (HR.out.trans (by simp [hst])).symm,HB.out⟩
end Go.Proofs.Ytdnmpndnpfklcaa
/- Walks: the law's two, none; what is read of blocks written out. -/
namespace Go.Proofs.Ytdnmpndnpfklcaa
open Go.RowKit Go Go.Maps
section
variable {w:World} {b:Nat} {t:TypeId} {vs:List Value}
theorem Blk.al (h:Blk w b t vs) (o:Obj):Blk (w.alloc o) b t vs:=h.below (box_below _ _) h.lt
theorem Blk.at_ (w:World) (t:TypeId) (vs:List Value) (h:w.heap.size = b):Blk (w.alloc (.cells vs.toArray t)) b t vs:=by subst h;exact Blk.new _ _ _
end
end Go.Proofs.Ytdnmpndnpfklcaa
/- Walks: product.Compose with a fresh result, at few automata. -/
namespace Go.Proofs.Ytdnmpndnpfklcaa
open Go.RowKit Go Go.Maps
end Go.Proofs.Ytdnmpndnpfklcaa

/- Plain: the product of two automata over the same events; its numbering. -/
namespace Go.Proofs.Ytdnmpndnpfklcaa
open Go.RowKit Go
section
variable {P:Program} {l:List Oper} {md:Region.Mode} {Q:Exit → Act → World → Prop} {A B:World → Prop} {q:Nat}
theorem uTwo {i j:Nat} {oi oj:Oper} {r r':List Oper} {f:Nat} {listed:Array Bool} {a:Act} {w:World} (hi:l.drop i = oi :: r) (hj:l.drop j = oj :: r') (hr:Region.ready md l.toArray listed = [i,j])
  (h1:∀ K:Act → World → Prop,(∀ a' w',heldU A B q (listed.setIfInBounds i true) w' → anyU P md l.toArray Q A B q f (listed.setIfInBounds i true) a' w' → K a' w') → if Region.wanted oi (yielded l.toArray a.tmps) then oi.wp P a w K Q else K (a.put oi.dst undef) w)
  (h2:∀ K:Act → World → Prop,(∀ a' w',heldU A B q (listed.setIfInBounds j true) w' → anyU P md l.toArray Q A B q f (listed.setIfInBounds j true) a' w' → K a' w') → if Region.wanted oj (yielded l.toArray a.tmps) then oj.wp P a w K Q else K (a.put oj.dst undef) w) :
  anyU P md l.toArray Q A B q (f + 1) listed a w:=by
 refine ⟨fun h0=>(by rw [hr] at h0;cases h0),fun k hk=>?_⟩
 rw [hr] at hk
 have hk':k = i ∨ k = j:=by simpa using hk
 rcases hk' with rfl | rfl
 ·have:=h1 (fun a' w'=>heldU A B q (listed.setIfInBounds k true) w'∧anyU P md l.toArray Q A B q f (listed.setIfInBounds k true) a' w') (fun a' w' h1 h2=>⟨h1,h2⟩)
  unfold wpOp
  simp only [at_drop hi]
  split
  ·rename_i hw;rw [if_pos hw] at this;exact .inl this
  ·rename_i hw;rw [if_neg hw] at this;exact this
 ·have:=h2 (fun a' w'=>heldU A B q (listed.setIfInBounds k true) w'∧anyU P md l.toArray Q A B q f (listed.setIfInBounds k true) a' w') (fun a' w' h1 h2=>⟨h1,h2⟩)
  unfold wpOp
  simp only [at_drop hj]
  split
  ·rename_i hw;rw [if_pos hw] at this;exact .inl this
  ·rename_i hw;rw [if_neg hw] at this;exact this
end
theorem own_ne_blk {w:World} {base:Nat} {e t:TypeId} {size n b:Nat} {v:Value} {xs vs:List Value} (h:w.ownsRow base e size v n xs) (hk:Blk w b t vs) (hne:e ≠ t):v.ownBlock = none ∨ v.ownBlock ≠ some b:=by
 rcases h.2 with ⟨rfl,_⟩ | ⟨g,cap,cur,rfl,_,hg,_⟩
 ·exact .inl rfl
 ·right
  intro e0
  simp only [Value.ownBlock,Option.some.injEq] at e0
  subst e0
  rw [show w.heap[g]? = _ from hk] at hg
  injection hg with hg
  injection hg with _ h2 _
  exact hne h2.symm
theorem blk_ne_own {w:World} {base:Nat} {e t:TypeId} {size n b:Nat} {v:Value} {xs vs:List Value} (h:w.ownsRow base e size v n xs) (hk:Blk w b t vs) (hne:e ≠ t):some b ≠ v.ownBlock:=by
 rcases own_ne_blk h hk hne with h1 | h1
 ·rw [h1];simp
 ·exact fun e=>h1 e.symm
section
variable {P R p:Aut} {T:List (List Int)}
end
end Go.Proofs.Ytdnmpndnpfklcaa
/- Plain: the search of reach.Path; in a product it finds the states in their order. -/
namespace Go.Proofs.Ytdnmpndnpfklcaa
structure Stp where
 s:Int
 f:Int
 e:Int
def rowS (perm:Ed → Bool) (i:Nat):List Ed → List Stp → List Bool → List Stp × List Bool
 | [],l,N=>(l,N)
 | x :: r,l,N=>if fl N x.t = false∧perm x = true then rowS perm i r (l ++ [⟨x.t,i,x.e⟩]) (fset N x.t) else rowS perm i r l N
def bckS (l:List Stp):Nat → Int → List Int
 | 0,_=>[]
 | n + 1,k=>match l[k.toNat]? with
  | none=>[]
  | some t=>if t.f < 0 then [] else t.e :: bckS l n t.f
def pthF (a:Aut) (want:Int → Bool) (perm:Ed → Bool):Nat → Nat → List Stp → List Bool → Option (List Int)
 | 0,_,_,_=>none
 | n + 1,i,l,N=>match l[i]? with
  | none=>none
  | some t=>if want t.s = true then some (bckS l l.length i).reverse else pthF a want perm n (i + 1) (rowS perm i (outE a t.s) l N).1 (rowS perm i (outE a t.s) l N).2
def pathS (a:Aut) (st:Int) (want:Int → Bool) (perm:Ed → Bool):Option (List Int) :=
 pthF a want perm (a.st.toNat + 1) 0 [⟨st,-1,-1⟩] (fset (List.replicate a.st.toNat false) st)
end Go.Proofs.Ytdnmpndnpfklcaa
/- Plain: what a supervisor refuses, forces and must not refuse in the states of the closed loop (chapter 45). -/
namespace Go.Proofs.Ytdnmpndnpfklcaa
end Go.Proofs.Ytdnmpndnpfklcaa

/- A function that holds a range over a function in a loop leaves with many marks: each is taken off. No program in sight. -/
namespace Go.Proofs.Ytdnmpndnpfklcaa
open Go.RowKit Go
def marks (ds:List Nat):List Deferred:=ds.map fun D=>{ target:=.collected D,args:=#[] }
end Go.Proofs.Ytdnmpndnpfklcaa
/- A frame of which thirteen slots are known. No program in sight. -/
namespace Go.Proofs.Ytdnmpndnpfklcaa
open Go.RowKit Go
theorem cons_len {n:Nat} {ys:List Value} (h:ys.length = n + 1):∃ y zs,ys = y :: zs∧zs.length = n:=by
 cases ys with
 | nil=>simp at h
 | cons y zs=>exact ⟨y,zs,rfl,by simpa using h⟩
def Frm (k:List Value) (ds:List Nat) (a:Act):Prop:=a.tmps.toList.take 13 = k∧a.tmps.size = 95∧a.defers = marks ds
theorem Frm.opened {k:List Value} {ds:List Nat} {a:Act} (h:Frm k ds a):∃ y13 y14 y15 y16 y17 y18 y19 y20 y21 y22 y23 y24 y25 y26 y27 y28 y29 y30 y31 y32 y33 y34 y35 y36 y37 y38 y39 y40 y41 y42 y43 y44 y45 y46 y47 y48 y49 y50 y51 y52 y53 y54 y55 y56 y57 y58 y59 y60 y61 y62 y63 y64 y65 y66 y67 y68 y69 y70 y71 y72 y73 y74 y75 y76 y77 y78 y79 y80 y81 y82 y83 y84 y85 y86 y87 y88 y89 y90 y91 y92 y93 y94:Value,a = { tmps:=(k ++ [y13,y14,y15,y16,y17,y18,y19,y20,y21,y22,y23,y24,y25,y26,y27,y28,y29,y30,y31,y32,y33,y34,y35,y36,y37,y38,y39,y40,y41,y42,y43,y44,y45,y46,y47,y48,y49,y50,y51,y52,y53,y54,y55,y56,y57,y58,y59,y60,y61,y62,y63,y64,y65,y66,y67,y68,y69,y70,y71,y72,y73,y74,y75,y76,y77,y78,y79,y80,y81,y82,y83,y84,y85,y86,y87,y88,y89,y90,y91,y92,y93,y94]).toArray,defers:=marks ds }:=by
 obtain ⟨T,D⟩:=a
 obtain ⟨h1,h2,h3⟩:=h
 dsimp only at h1 h2 h3
 have hT:T.toList = k ++ T.toList.drop 13:=by rw [← h1,List.take_append_drop]
 have hl:(T.toList.drop 13).length = 82:=by rw [List.length_drop,Array.length_toList,h2]
 generalize T.toList.drop 13 = z at hT hl
 obtain ⟨y13,z13,rfl,g13⟩:=cons_len hl
 obtain ⟨y14,z14,rfl,g14⟩:=cons_len g13
 obtain ⟨y15,z15,rfl,g15⟩:=cons_len g14
 obtain ⟨y16,z16,rfl,g16⟩:=cons_len g15
 obtain ⟨y17,z17,rfl,g17⟩:=cons_len g16
 obtain ⟨y18,z18,rfl,g18⟩:=cons_len g17
 obtain ⟨y19,z19,rfl,g19⟩:=cons_len g18
 obtain ⟨y20,z20,rfl,g20⟩:=cons_len g19
 obtain ⟨y21,z21,rfl,g21⟩:=cons_len g20
 obtain ⟨y22,z22,rfl,g22⟩:=cons_len g21
 obtain ⟨y23,z23,rfl,g23⟩:=cons_len g22
 obtain ⟨y24,z24,rfl,g24⟩:=cons_len g23
 obtain ⟨y25,z25,rfl,g25⟩:=cons_len g24
 obtain ⟨y26,z26,rfl,g26⟩:=cons_len g25
 obtain ⟨y27,z27,rfl,g27⟩:=cons_len g26
 obtain ⟨y28,z28,rfl,g28⟩:=cons_len g27
 obtain ⟨y29,z29,rfl,g29⟩:=cons_len g28
 obtain ⟨y30,z30,rfl,g30⟩:=cons_len g29
 obtain ⟨y31,z31,rfl,g31⟩:=cons_len g30
 obtain ⟨y32,z32,rfl,g32⟩:=cons_len g31
 obtain ⟨y33,z33,rfl,g33⟩:=cons_len g32
 obtain ⟨y34,z34,rfl,g34⟩:=cons_len g33
 obtain ⟨y35,z35,rfl,g35⟩:=cons_len g34
 obtain ⟨y36,z36,rfl,g36⟩:=cons_len g35
 obtain ⟨y37,z37,rfl,g37⟩:=cons_len g36
 obtain ⟨y38,z38,rfl,g38⟩:=cons_len g37
 obtain ⟨y39,z39,rfl,g39⟩:=cons_len g38
 obtain ⟨y40,z40,rfl,g40⟩:=cons_len g39
 obtain ⟨y41,z41,rfl,g41⟩:=cons_len g40
 obtain ⟨y42,z42,rfl,g42⟩:=cons_len g41
 obtain ⟨y43,z43,rfl,g43⟩:=cons_len g42
 obtain ⟨y44,z44,rfl,g44⟩:=cons_len g43
 obtain ⟨y45,z45,rfl,g45⟩:=cons_len g44
 obtain ⟨y46,z46,rfl,g46⟩:=cons_len g45
 obtain ⟨y47,z47,rfl,g47⟩:=cons_len g46
 obtain ⟨y48,z48,rfl,g48⟩:=cons_len g47
 obtain ⟨y49,z49,rfl,g49⟩:=cons_len g48
 obtain ⟨y50,z50,rfl,g50⟩:=cons_len g49
 obtain ⟨y51,z51,rfl,g51⟩:=cons_len g50
 obtain ⟨y52,z52,rfl,g52⟩:=cons_len g51
 obtain ⟨y53,z53,rfl,g53⟩:=cons_len g52
 obtain ⟨y54,z54,rfl,g54⟩:=cons_len g53
 obtain ⟨y55,z55,rfl,g55⟩:=cons_len g54
 obtain ⟨y56,z56,rfl,g56⟩:=cons_len g55
 obtain ⟨y57,z57,rfl,g57⟩:=cons_len g56
 obtain ⟨y58,z58,rfl,g58⟩:=cons_len g57
 obtain ⟨y59,z59,rfl,g59⟩:=cons_len g58
 obtain ⟨y60,z60,rfl,g60⟩:=cons_len g59
 obtain ⟨y61,z61,rfl,g61⟩:=cons_len g60
 obtain ⟨y62,z62,rfl,g62⟩:=cons_len g61
 obtain ⟨y63,z63,rfl,g63⟩:=cons_len g62
 obtain ⟨y64,z64,rfl,g64⟩:=cons_len g63
 obtain ⟨y65,z65,rfl,g65⟩:=cons_len g64
 obtain ⟨y66,z66,rfl,g66⟩:=cons_len g65
 obtain ⟨y67,z67,rfl,g67⟩:=cons_len g66
 obtain ⟨y68,z68,rfl,g68⟩:=cons_len g67
 obtain ⟨y69,z69,rfl,g69⟩:=cons_len g68
 obtain ⟨y70,z70,rfl,g70⟩:=cons_len g69
 obtain ⟨y71,z71,rfl,g71⟩:=cons_len g70
 obtain ⟨y72,z72,rfl,g72⟩:=cons_len g71
 obtain ⟨y73,z73,rfl,g73⟩:=cons_len g72
 obtain ⟨y74,z74,rfl,g74⟩:=cons_len g73
 obtain ⟨y75,z75,rfl,g75⟩:=cons_len g74
 obtain ⟨y76,z76,rfl,g76⟩:=cons_len g75
 obtain ⟨y77,z77,rfl,g77⟩:=cons_len g76
 obtain ⟨y78,z78,rfl,g78⟩:=cons_len g77
 obtain ⟨y79,z79,rfl,g79⟩:=cons_len g78
 obtain ⟨y80,z80,rfl,g80⟩:=cons_len g79
 obtain ⟨y81,z81,rfl,g81⟩:=cons_len g80
 obtain ⟨y82,z82,rfl,g82⟩:=cons_len g81
 obtain ⟨y83,z83,rfl,g83⟩:=cons_len g82
 obtain ⟨y84,z84,rfl,g84⟩:=cons_len g83
 obtain ⟨y85,z85,rfl,g85⟩:=cons_len g84
 obtain ⟨y86,z86,rfl,g86⟩:=cons_len g85
 obtain ⟨y87,z87,rfl,g87⟩:=cons_len g86
 obtain ⟨y88,z88,rfl,g88⟩:=cons_len g87
 obtain ⟨y89,z89,rfl,g89⟩:=cons_len g88
 obtain ⟨y90,z90,rfl,g90⟩:=cons_len g89
 obtain ⟨y91,z91,rfl,g91⟩:=cons_len g90
 obtain ⟨y92,z92,rfl,g92⟩:=cons_len g91
 obtain ⟨y93,z93,rfl,g93⟩:=cons_len g92
 obtain ⟨y94,z94,rfl,g94⟩:=cons_len g93
 obtain rfl:=List.eq_nil_of_length_eq_zero g94
 exact ⟨y13,y14,y15,y16,y17,y18,y19,y20,y21,y22,y23,y24,y25,y26,y27,y28,y29,y30,y31,y32,y33,y34,y35,y36,y37,y38,y39,y40,y41,y42,y43,y44,y45,y46,y47,y48,y49,y50,y51,y52,y53,y54,y55,y56,y57,y58,y59,y60,y61,y62,y63,y64,y65,y66,y67,y68,y69,y70,y71,y72,y73,y74,y75,y76,y77,y78,y79,y80,y81,y82,y83,y84,y85,y86,y87,y88,y89,y90,y91,y92,y93,y94,by rw [h3,show T = T.toList.toArray from rfl,hT]⟩
theorem Frm.elim {k:List Value} {ds:List Nat} {Q:Act → Prop} (hq:∀ y13 y14 y15 y16 y17 y18 y19 y20 y21 y22 y23 y24 y25 y26 y27 y28 y29 y30 y31 y32 y33 y34 y35 y36 y37 y38 y39 y40 y41 y42 y43 y44 y45 y46 y47 y48 y49 y50 y51 y52 y53 y54 y55 y56 y57 y58 y59 y60 y61 y62 y63 y64 y65 y66 y67 y68 y69 y70 y71 y72 y73 y74 y75 y76 y77 y78 y79 y80 y81 y82 y83 y84 y85 y86 y87 y88 y89 y90 y91 y92 y93 y94:Value,Q { tmps:=(k ++ [y13,y14,y15,y16,y17,y18,y19,y20,y21,y22,y23,y24,y25,y26,y27,y28,y29,y30,y31,y32,y33,y34,y35,y36,y37,y38,y39,y40,y41,y42,y43,y44,y45,y46,y47,y48,y49,y50,y51,y52,y53,y54,y55,y56,y57,y58,y59,y60,y61,y62,y63,y64,y65,y66,y67,y68,y69,y70,y71,y72,y73,y74,y75,y76,y77,y78,y79,y80,y81,y82,y83,y84,y85,y86,y87,y88,y89,y90,y91,y92,y93,y94]).toArray,defers:=marks ds }):∀ a,Frm k ds a → Q a:=fun a h=>by
 obtain ⟨y13,y14,y15,y16,y17,y18,y19,y20,y21,y22,y23,y24,y25,y26,y27,y28,y29,y30,y31,y32,y33,y34,y35,y36,y37,y38,y39,y40,y41,y42,y43,y44,y45,y46,y47,y48,y49,y50,y51,y52,y53,y54,y55,y56,y57,y58,y59,y60,y61,y62,y63,y64,y65,y66,y67,y68,y69,y70,y71,y72,y73,y74,y75,y76,y77,y78,y79,y80,y81,y82,y83,y84,y85,y86,y87,y88,y89,y90,y91,y92,y93,y94,rfl⟩:=h.opened
 exact hq y13 y14 y15 y16 y17 y18 y19 y20 y21 y22 y23 y24 y25 y26 y27 y28 y29 y30 y31 y32 y33 y34 y35 y36 y37 y38 y39 y40 y41 y42 y43 y44 y45 y46 y47 y48 y49 y50 y51 y52 y53 y54 y55 y56 y57 y58 y59 y60 y61 y62 y63 y64 y65 y66 y67 y68 y69 y70 y71 y72 y73 y74 y75 y76 y77 y78 y79 y80 y81 y82 y83 y84 y85 y86 y87 y88 y89 y90 y91 y92 y93 y94
end Go.Proofs.Ytdnmpndnpfklcaa
