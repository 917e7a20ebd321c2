/- Walks: classed, reach.Dead, automaton.Step, the model's step, Live. Printed by wip/mkjb.py. -/
import Derived.Test.YtdnmpndnpfklcaaUf
import Derived.Test.YtdnmpndnpfklcaaIa
import Derived.Test.YtdnmpndnpfklcaaUk
import Derived.BigQuiet
import Derived.Maps.Own
import Derived.Maps.OwnOps
import Derived.Maps.OwnSet
import Derived.Test.YtdnmpndnpfklcaaMi
import Derived.Deep.Cut
import Derived.Deep.AppendLies
import Derived.Deep.RegionLaw
import Derived.Deep.CutRange
import Derived.Deep.CutBlock
import Derived.WideKeyEntry
import Derived.Test.YtdnmpndnpfklcaaUr
import Derived.Deep.MidRow

namespace Go.Proofs.Ytdnmpndnpfklcaa
open Go.RowKit Go
def DV.m (z:DV):Dm:=⟨z.x.a,z.l.map Ev.o,z.l.map Ev.fault⟩
def RetLE (l:List Int) (w:World) (e:Ending) (w':World):Prop:=∃ v,e = .returned (.tuple #[v,.int .i64 0])∧w'.ownsRow w.heap.size 3 1 v l.length (iv l)∧Below w.heap.size w w'
end Go.Proofs.Ytdnmpndnpfklcaa
/- Walks: diagnosability.Live. Printed by wip/mkjc.py. -/
namespace Go.Proofs.Ytdnmpndnpfklcaa
open Go.RowKit Go
theorem rngI_snoc (k:Nat):rngI ((k + 1:Nat):Int) = rngI (k:Int) ++ [(k:Int)]:=by
  unfold rngI
  rw [Int.toNat_natCast,Int.toNat_natCast,List.range_succ,List.map_append]
  rfl
theorem dmE_wf {z:DV} (h:dmE z = 0):WF z.x.a:=by
  unfold dmE at h
  by_cases h1:chkE z.l ≠ 0
  · rw [if_pos h1] at h;exact absurd h h1
  rw [if_neg h1] at h
  by_cases h2:chkA z.x.a ≠ 0
  · rw [if_pos h2] at h;exact absurd h h2
  exact chkA_wf (Classical.not_not.1 h2)
end Go.Proofs.Ytdnmpndnpfklcaa

/- Walks: alphabet.chosen, alphabet.Select: a map of functions. -/
namespace Go.Proofs.Ytdnmpndnpfklcaa
open Go.RowKit Go Go.Maps
end Go.Proofs.Ytdnmpndnpfklcaa

/- Walks: diagnosability's Quiet, settled. Printed by wip/mkje.py. -/
namespace Go.Proofs.Ytdnmpndnpfklcaa
open Go.RowKit Go
theorem dmE_ev {z:DV} (h:dmE z = 0):chkE z.l = 0:=by
  unfold dmE at h
  by_cases h1:chkE z.l ≠ 0
  · rw [if_pos h1] at h;exact absurd h h1
  exact Classical.not_not.1 h1
end Go.Proofs.Ytdnmpndnpfklcaa

/- Walks: forcing.Check; a system as a value. -/
namespace Go.Proofs.Ytdnmpndnpfklcaa
open Go.RowKit Go
structure SV where
  p:AV
  s:AV
  U:Option Addr
  nu:Nat
  cu:Nat
  u:List Int
  F:Option Addr
  nf:Nat
  cf:Nat
  f:List Int
  tick:Int
structure SV.ok (w:World) (B:Nat) (z:SV):Prop where
  p:z.p.ok w B
  s:z.s.ok w B
  lu:z.u.length = z.nu
  ru:RdI w B z.U z.u
  u1:z.nu ≤ z.cu
  u2:z.cu ≤ 9223372036854775807
  lf:z.f.length = z.nf
  rf:RdI w B z.F z.f
  f1:z.nf ≤ z.cf
  f2:z.cf ≤ 9223372036854775807
theorem SV.ok.below {w w':World} {B:Nat} {z:SV} (h:z.ok w B) (hb:Below B w w'):z.ok w' B:=⟨AutR.below h.p hb,AutR.below h.s hb,h.lu,h.ru.below hb,h.u1,h.u2,h.lf,h.rf.below hb,h.f1,h.f2⟩
theorem SV.ok.more {w:World} {B B':Nat} {z:SV} (h:z.ok w B) (hB:B ≤ B'):z.ok w B':=⟨AutR.more h.p hB,AutR.more h.s hB,h.lu,h.ru.more hB,h.u1,h.u2,h.lf,h.rf.more hB,h.f1,h.f2⟩
end Go.Proofs.Ytdnmpndnpfklcaa

/- Walks: forcing.Loop, forcing.open; two rows that grow apart; tuples of two do not lie in a zero automaton's block. -/
namespace Go.Proofs.Ytdnmpndnpfklcaa
open Go.RowKit Go Go.Maps
theorem own_far {w w':World} {base:Nat} {e:TypeId} {size n:Nat} {v v':Value} {xs:List Value} (h:w.ownsRow base e size v n xs) (hg:w.grownBy w' v'.ownBlock) (hne:∀ g,v.ownBlock = some g → v'.ownBlock ≠ some g):w'.ownsRow base e size v n xs :=
  h.kept hg (by
    cases hv:v.ownBlock with
    | none=>exact .inl rfl
    | some g=>exact .inr (fun e=>hne g hv e.symm))
structure TwoR (B:Nat) (w0 w:World) (v1 v2:Value) (n1 n2:Nat) (l1 l2:List Int):Prop where
  bel:Below B w0 w
  siz:B ≤ w.heap.size
  o1:w.ownsRow B 3 1 v1 n1 (iv l1)
  o2:w.ownsRow B 3 1 v2 n2 (iv l2)
  e1:l1.length = n1
  e2:l2.length = n2
  apt:∀ g,v1.ownBlock = some g → v2.ownBlock ≠ some g
section
variable {B:Nat} {w0 w w':World} {v1 v2:Value} {n1 n2:Nat} {l1 l2:List Int}
theorem TwoR.quiet (h:TwoR B w0 w v1 v2 n1 n2 l1 l2) (hb:Below w.heap.size w w'):TwoR B w0 w' v1 v2 n1 n2 l1 l2 :=
  ⟨h.bel.trans (hb.mono h.siz),Nat.le_trans h.siz hb.size,own_below h.o1 hb,own_below h.o2 hb,h.e1,h.e2,h.apt⟩
theorem TwoR.push (h:TwoR B w0 w v1 v2 n1 n2 l1 l2) {A:Option Addr} {c:Nat} {i:Int} (ho:w'.ownsRow B 3 1 (.slice A (n1 + 1) c) (n1 + 1) (iv l1 ++ [.int .i64 i])) (hg:w.grownBy w' v1.ownBlock)
    (hl:(Value.slice A (n1 + 1) c).ownBlock = v1.ownBlock ∨ ∃ g,(Value.slice A (n1 + 1) c).ownBlock = some g∧w.heap.size ≤ g):TwoR B w0 w' (.slice A (n1 + 1) c) v2 (n1 + 1) n2 (l1 ++ [i]) l2:=by
  refine ⟨h.bel.grown hg h.siz (fun j hj=>(h.o1.lt j hj).1),Nat.le_trans h.siz hg.size,by rw [iv_append];exact ho,own_far h.o2 hg (fun g e1 e2=>h.apt g e2 e1),by simp [h.e1],h.e2,fun g hg1 hg2=>?_⟩
  rcases hl with hl | ⟨g',hl,hle⟩
  · rw [hl] at hg1;exact h.apt g hg1 hg2
  · rw [hl] at hg1;injection hg1 with hg1
    have:=(h.o2.lt g hg2).2
    omega
theorem TwoR.start (w:World):TwoR w.heap.size w w (.slice none 0 0) (.slice none 0 0) 0 0 [] [] :=
  ⟨Below.refl _ _,Nat.le_refl _,World.ownsRow_nil _ _ _ _,World.ownsRow_nil _ _ _ _,rfl,rfl,fun g hg=>by simp [Value.ownBlock] at hg⟩
end
theorem Fr3.mono {r r':Nat} {A M E:Option Addr} (h:Fr3 r A M E) (hr:r' ≤ r):Fr3 r' A M E :=
  ⟨fun ad e=>Nat.lt_of_le_of_lt hr (h.1 ad e),fun ad e=>Nat.lt_of_le_of_lt hr (h.2.1 ad e),fun ad e=>Nat.lt_of_le_of_lt hr (h.2.2 ad e)⟩
theorem RdI.keepF {w w':World} {B r:Nat} {A:Option Addr} {l:List Int} (h:RdI w B A l) (hf:∀ ad,A = some ad → r < ad.block) (hk:∀ p:Addr,p.block < B → r < p.block → w'.cell? p = w.cell? p):RdI w' B A l:=fun k u hu=>by
  obtain ⟨ad,e1,hb,hc⟩:=h k u hu
  exact ⟨ad,e1,hb,(hk _ (by rw [block_of_add];exact hb) (by rw [block_of_add];exact hf ad e1)).trans hc⟩
theorem RdX.keepF {w w':World} {B r:Nat} {A:Option Addr} {l:List Ed} (h:RdX w B A l) (hf:∀ ad,A = some ad → r < ad.block) (hk:∀ p:Addr,p.block < B → r < p.block → w'.cell? p = w.cell? p):RdX w' B A l:=fun k e hu=>by
  obtain ⟨ad,e1,hb,hc⟩:=h k e hu
  exact ⟨ad,e1,hb,fun j u hj=>(hk _ (by rw [block_of_add];exact hb) (by rw [block_of_add];exact hf ad e1)).trans (hc j u hj)⟩
theorem AutR.keepF {w w':World} {B r:Nat} {A M E:Option Addr} {na ca nm cm ne ce:Nat} {a:Aut} (h:AutR w B A na ca M nm cm E ne ce a) (hf:Fr3 r A M E) (hk:∀ p:Addr,p.block < B → r < p.block → w'.cell? p = w.cell? p):AutR w' B A na ca M nm cm E ne ce a :=
  ⟨h.la,h.ac,h.cA,h.ra.keepF hf.1 hk,h.lm,h.mc,h.cM,h.rm.keepF hf.2.1 hk,h.le,h.ec,h.cE,h.re.keepF hf.2.2 hk⟩
structure VarA (w:World) (b:Nat) (x:AV):Prop where
  blk:Blk w b 32 (avc x)
  ok:x.ok w w.heap.size
theorem VarA.new {w:World} {x:AV} (h:x.ok w w.heap.size):VarA (w.alloc (.cells #[.slice x.A x.na x.ca,.int .i64 x.a.st,.slice x.M x.nm x.cm,.slice x.E x.ne x.ce] 32)) w.heap.size x :=
  ⟨Blk.new _ _ (avc x),AutR.more (AutR.below h (box_below _ _)) (box_below _ _).size⟩
theorem VarA.below {w w':World} {b:Nat} {x:AV} (h:VarA w b x) (hb:Below w.heap.size w w'):VarA w' b x :=
  ⟨h.blk.below hb h.blk.lt,AutR.more (AutR.below h.ok hb) hb.size⟩
theorem VarA.put {w:World} {b q:Nat} {v0 v1 v2 v3:Value} {x:AV} (hk:Blk w b 32 [v0,v1,v2,v3]) (hx:x.ok w w.heap.size) (hf:Fr3 q x.A x.M x.E) (hq:b ≤ q) :
    VarA ((((w.setCell ⟨b,0,none⟩ (.slice x.A x.na x.ca)).setCell ⟨b,1,none⟩ (.int .i64 x.a.st)).setCell ⟨b,2,none⟩ (.slice x.M x.nm x.cm)).setCell ⟨b,3,none⟩ (.slice x.E x.ne x.ce)) b x:=by
  have hg:w.grownBy ((((w.setCell ⟨b,0,none⟩ (.slice x.A x.na x.ca)).setCell ⟨b,1,none⟩ (.int .i64 x.a.st)).setCell ⟨b,2,none⟩ (.slice x.M x.nm x.cm)).setCell ⟨b,3,none⟩ (.slice x.E x.ne x.ce)) (some b):=(((grown_setCell _ _ _ _).trans (grown_setCell _ _ _ _)).trans (grown_setCell _ _ _ _)).trans (grown_setCell _ _ _ _)
  exact ⟨(((hk.set (j:=0) (by simp) _).set (j:=1) (by simp) _).set (j:=2) (by simp) _).set (j:=3) (by simp) _,(AutR.keepF (r:=b) hx (Fr3.mono hf hq) fun p h1 h2=>World.cell?_of_block (hg.block _ h1 (by intro e;injection e with e;omega))).more hg.size⟩
end Go.Proofs.Ytdnmpndnpfklcaa

/- Walks: the law's step, all, ends; diagnosability.words. Printed by wip/mkjf.py. -/
namespace Go.Proofs.Ytdnmpndnpfklcaa
open Go.RowKit Go
end Go.Proofs.Ytdnmpndnpfklcaa

/- Walks: diagnosability.Model.moves. Printed by wip/mkjg.py. -/
namespace Go.Proofs.Ytdnmpndnpfklcaa
open Go.RowKit Go

/-- two rows of whatever elements that grow apart from each other -/
structure TwoG (B : Nat) (w0 w : World) (e1 e2 : TypeId) (s1 s2 : Nat) (v1 v2 : Value) (n1 n2 : Nat) (l1 l2 : List Value) : Prop where
  bel : Below B w0 w
  siz : B ≤ w.heap.size
  o1 : w.ownsRow B e1 s1 v1 n1 l1
  o2 : w.ownsRow B e2 s2 v2 n2 l2
  apt : ∀ g, v1.ownBlock = some g → v2.ownBlock ≠ some g
section
variable {B : Nat} {w0 w w' : World} {v1 v2 : Value} {n1 n2 s1 s2 : Nat} {l1 l2 : List Value} {e1 e2 : TypeId}
theorem TwoG.quiet (h : TwoG B w0 w e1 e2 s1 s2 v1 v2 n1 n2 l1 l2) (hb : Below w.heap.size w w') : TwoG B w0 w' e1 e2 s1 s2 v1 v2 n1 n2 l1 l2 :=
  ⟨h.bel.trans (hb.mono h.siz), Nat.le_trans h.siz hb.size, own_below h.o1 hb, own_below h.o2 hb, h.apt⟩
theorem TwoG.push (h : TwoG B w0 w e1 e2 s1 s2 v1 v2 n1 n2 l1 l2) {v : Value} {n : Nat} {l : List Value} (ho : w'.ownsRow B e1 s1 v n l) (hg : w.grownBy w' v1.ownBlock)
    (hl : v.ownBlock = v1.ownBlock ∨ ∃ g, v.ownBlock = some g ∧ w.heap.size ≤ g) : TwoG B w0 w' e1 e2 s1 s2 v v2 n n2 l l2 := by
  refine ⟨h.bel.grown hg h.siz (fun j hj => (h.o1.lt j hj).1), Nat.le_trans h.siz hg.size, ho, own_far h.o2 hg (fun g e1 e2 => h.apt g e2 e1), fun g hg1 hg2 => ?_⟩
  rcases hl with hl | ⟨g', hl, hle⟩
  · rw [hl] at hg1; exact h.apt g hg1 hg2
  · rw [hl] at hg1; injection hg1 with hg1
    have := (h.o2.lt g hg2).2
    omega
theorem TwoG.start (w : World) (e1 e2 : TypeId) (s1 s2 : Nat) : TwoG w.heap.size w w e1 e2 s1 s2 (.slice none 0 0) (.slice none 0 0) 0 0 [] [] :=
  ⟨Below.refl _ _, Nat.le_refl _, World.ownsRow_nil _ _ _ _, World.ownsRow_nil _ _ _ _, fun g hg => by simp [Value.ownBlock] at hg⟩
end
/- two chains, each a literal of one element and an append of it, that come up in any order -/
end Go.Proofs.Ytdnmpndnpfklcaa

/- Walks: diagnosability.Twin: the twin plant of a class of faults. -/
namespace Go.Proofs.Ytdnmpndnpfklcaa
open Go.RowKit Go Go.Maps
section
variable {B o:Nat} {w0 w w':World} {tv mv pv lv:Value} {nt nm ke n:Nat} {tk ts:List TwS} {es:List Ed} {L:List (Int × TwS)}
theorem TwoG.other {e1 e2 e:TypeId} {s1 s2 s:Nat} {v1 v2 v:Value} {n1 n2 m:Nat} {l1 l2 l:List Value} (h:TwoG B w0 w e1 e2 s1 s2 v1 v2 n1 n2 l1 l2) (ho:w.ownsRow B e s v m l) (h1:e1 ≠ e) (h2:e2 ≠ e) (hg:w.grownBy w' v.ownBlock):TwoG B w0 w' e1 e2 s1 s2 v1 v2 n1 n2 l1 l2 :=
  ⟨h.bel.grown hg h.siz (fun j hj=>(ho.lt j hj).1),Nat.le_trans h.siz hg.size,own_kept_ne h.o1 ho h1 hg,own_kept_ne h.o2 ho h2 hg,h.apt⟩
theorem TwoG.map {e1 e2:TypeId} {s1 s2:Nat} {v1 v2:Value} {n1 n2:Nat} {l1 l2:List Value} (h:TwoG B w0 w e1 e2 s1 s2 v1 v2 n1 n2 l1 l2) {P:Program} {K E:TypeId} {α:Type} {key:α → Value} {m:Nat} {g:α → Option Int} (ht:TabI P K E key w o m g) (hB:B ≤ o) (hg:w.grownBy w' (some o)):TwoG B w0 w' e1 e2 s1 s2 v1 v2 n1 n2 l1 l2:=by
  have kp:∀ {base:Nat} {e:TypeId} {size n:Nat} {v:Value} {zs:List Value},w.ownsRow base e size v n zs → w'.ownsRow base e size v n zs:=fun {base e size n v zs} hz=>hz.kept hg (.inr (fun e0=>tab_ne_own' ht hz e0.symm))
  exact ⟨h.bel.grown hg h.siz (fun j hj=>by injection hj with hj;omega),Nat.le_trans h.siz hg.size,kp h.o1,kp h.o2,h.apt⟩
end
theorem dmE_al {z:DV} (h:dmE z = 0):∀ x ∈ z.x.a.al,0 ≤ x∧x < (z.nv:Int):=by
  have hw:=dmE_wf h
  unfold dmE at h
  by_cases h1:chkE z.l ≠ 0
  · rw [if_pos h1] at h;exact absurd h h1
  rw [if_neg h1] at h
  by_cases h2:chkA z.x.a ≠ 0
  · rw [if_pos h2] at h;exact absurd h h2
  rw [if_neg h2] at h
  by_cases h3:z.x.a.al.any (fun v=>decide ((z.nv:Int) ≤ v)) = true
  · rw [if_pos h3] at h;cases h
  · intro x hx
    refine ⟨(hw.rng x hx).1,?_⟩
    have h4:z.x.a.al.any (fun v=>decide ((z.nv:Int) ≤ v)) = false:=by simpa using h3
    rw [List.any_eq_false] at h4
    have:=h4 x hx
    simp only [decide_eq_true_eq] at this
    omega
end Go.Proofs.Ytdnmpndnpfklcaa

/- Plain words on rank, and the opened twin plant in memory. -/
namespace Go.Proofs.Ytdnmpndnpfklcaa
open Go.RowKit Go
section
variable {es:List Ed} {w:Ed → Int} {n:Nat} {s s':RS} {i j:Int}
def cnt2 (s:RS):Nat:=s.2.countP fun q=>q == 2
structure RkQ (n:Nat) (s:RS):Prop where
  l1:s.1.length = n
  l2:s.2.length = n
  val:∀ j:Int,0 ≤ j → j < (n:Int) → gI s.2 j = 0 ∨ gI s.2 j = 1 ∨ gI s.2 j = 2
  any:∀ j:Int,0 ≤ j → j < (n:Int) → -1 ≤ gI s.1 j∧gI s.1 j ≤ (cnt2 s:Int) + 1
  don:∀ j:Int,0 ≤ j → j < (n:Int) → gI s.2 j = 2 → gI s.1 j ≤ (cnt2 s:Int)
theorem cnt2_up:∀ {l:List Int} {k:Nat} {q:Int},l[k]? = some q → q ≠ 2 → (l.set k 2).countP (fun q=>q == 2) = l.countP (fun q=>q == 2) + 1
  | [],k,q,h,_=>by simp at h
  | p :: l,0,q,h,hq=>by
    simp at h;subst h
    rw [List.set_cons_zero,List.countP_cons,List.countP_cons]
    simp [hq]
  | p :: l,k + 1,q,h,hq=>by
    have ih:=cnt2_up (l:=l) (k:=k) (q:=q) (by simpa using h) hq
    rw [List.set_cons_succ,List.countP_cons,List.countP_cons,ih]
    omega
theorem cnt2_one:∀ {l:List Int} {k:Nat} {q:Int},l[k]? = some q → q ≠ 2 → (l.set k 1).countP (fun q=>q == 2) = l.countP (fun q=>q == 2)
  | [],k,q,h,_=>by simp at h
  | p :: l,0,q,h,hq=>by
    simp at h;subst h
    rw [List.set_cons_zero,List.countP_cons,List.countP_cons]
    simp [hq]
  | p :: l,k + 1,q,h,hq=>by
    have ih:=cnt2_one (l:=l) (k:=k) (q:=q) (by simpa using h) hq
    rw [List.set_cons_succ,List.countP_cons,List.countP_cons,ih]
theorem RkQ.le (h:RkQ n s):cnt2 s ≤ n:=by rw [← h.l2];exact List.countP_le_length
theorem RkQ.opened (h:RkQ n s) (h0:0 ≤ i) (h1:i < (n:Int)) (hi:gI s.2 i = 0):RkQ n (s.1,s.2.set i.toNat 1)∧cnt0 (s.1,s.2.set i.toNat 1) + 1 = cnt0 s∧gI (s.2.set i.toNat 1) i = 1:=by
  have hat:=gI_at h0 (by rw [h.l2];exact h1) hi
  have hc:cnt2 (s.1,s.2.set i.toNat 1) = cnt2 s:=cnt2_one hat (by decide)
  have hg:∀ j,0 ≤ j → gI (s.2.set i.toNat 1) j = if j = i then 1 else gI s.2 j:=fun j hj=>gI_set h0 (by rw [h.l2];exact h1) hj
  refine ⟨⟨h.l1,by rw [List.length_set];exact h.l2,fun j j0 j1=>?_,fun j j0 j1=>by rw [hc];exact h.any j j0 j1,fun j j0 j1 hj=>?_⟩,cnt_set hat (by decide),by rw [hg i h0,if_pos rfl]⟩
  · show gI (s.2.set i.toNat 1) j = 0 ∨ _
    rw [hg j j0]
    by_cases e:j = i
    · rw [if_pos e];exact .inr (.inl rfl)
    · rw [if_neg e];exact h.val j j0 j1
  · rw [hc]
    refine h.don j j0 j1 ?_
    have:gI (s.2.set i.toNat 1) j = 2:=hj
    rw [hg j j0] at this
    by_cases e:j = i
    · rw [if_pos e] at this;cases this
    · rwa [if_neg e] at this
theorem RkQ.closed (h:RkQ n s) (h0:0 ≤ i) (h1:i < (n:Int)) (hi:gI s.2 i = 1):RkQ n (s.1,s.2.set i.toNat 2)∧cnt0 (s.1,s.2.set i.toNat 2) = cnt0 s∧gI (s.2.set i.toNat 2) i = 2:=by
  have hat:=gI_at h0 (by rw [h.l2];exact h1) hi
  have hc:cnt2 (s.1,s.2.set i.toNat 2) = cnt2 s + 1:=cnt2_up hat (by decide)
  have hg:∀ j,0 ≤ j → gI (s.2.set i.toNat 2) j = if j = i then 2 else gI s.2 j:=fun j hj=>gI_set h0 (by rw [h.l2];exact h1) hj
  refine ⟨⟨h.l1,by rw [List.length_set];exact h.l2,fun j j0 j1=>?_,fun j j0 j1=>?_,fun j j0 j1 hj=>?_⟩,cnt_keep hat (by decide) (by decide),by rw [hg i h0,if_pos rfl]⟩
  · show gI (s.2.set i.toNat 2) j = 0 ∨ _
    rw [hg j j0]
    by_cases e:j = i
    · rw [if_pos e];exact .inr (.inr rfl)
    · rw [if_neg e];exact h.val j j0 j1
  · have:=h.any j j0 j1;rw [hc];exact ⟨this.1,by show gI s.1 j ≤ _;omega⟩
  · have:=h.any j j0 j1;rw [hc];show gI s.1 j ≤ _;omega
structure RkK (n:Nat) (s s':RS):Prop where
  q:RkQ n s'
  opn:∀ j:Int,0 ≤ j → j < (n:Int) → gI s.2 j = 1 → gI s'.2 j = 1
  cnt:cnt0 s' ≤ cnt0 s
theorem RkK.trans {s'':RS} (h:RkK n s s') (k:RkK n s' s''):RkK n s s'':=⟨k.q,fun j h0 h1 h2=>k.opn j h0 h1 (h.opn j h0 h1 h2),Nat.le_trans k.cnt h.cnt⟩
theorem RkQ.keep (h:RkQ n s):RkK n s s:=⟨h,fun _ _ _ h=>h,Nat.le_refl _⟩
end
theorem iv_gI {l:List Int} {i:Nat} (h:i < l.length):(iv l)[i]? = some (.int .i64 (gI l (i:Int))):=by
  unfold iv gI
  rw [List.getElem?_map,Int.toNat_natCast,List.getD_eq_getElem?_getD,List.getElem?_eq_getElem h];rfl
structure Ex2 (r s:Nat) (w w':World):Prop where
  os:w'.os = w.os
  tape:w'.tape = w.tape
  output:w'.output = w.output
  size:w.heap.size ≤ w'.heap.size
  blk:∀ k,k < w.heap.size → k ≠ r → k ≠ s → w'.heap[k]? = w.heap[k]?
section
variable {r s:Nat} {w w' w'':World}
theorem Ex2.refl:Ex2 r s w w:=⟨rfl,rfl,rfl,Nat.le_refl _,fun _ _ _ _=>rfl⟩
theorem Ex2.trans (h:Ex2 r s w w') (k:Ex2 r s w' w''):Ex2 r s w w'' :=
  ⟨k.os.trans h.os,k.tape.trans h.tape,k.output.trans h.output,Nat.le_trans h.size k.size,fun j h1 h2 h3=>(k.blk j (Nat.lt_of_lt_of_le h1 h.size) h2 h3).trans (h.blk j h1 h2 h3)⟩
theorem Ex2.below (h:Below w.heap.size w w'):Ex2 r s w w':=⟨h.os,h.tape,h.output,h.size,fun k hk _ _=>h.block k hk⟩
theorem Ex2.grown2 (h:w.grownBy w' (some s)):Ex2 r s w w':=⟨h.os,h.tape,h.output,h.size,fun k hk _ h1=>h.block k hk (by intro e;injection e with e;exact h1 e)⟩
end
structure TwP where
  tb:Nat
  fb:Nat
  rb:Nat
  sb:Nat
  n:Nat
  m:Nat
  A1:Option Addr
  c1:Nat
  A2:Option Addr
  c2:Nat
  F:List Value
def TwP.cells (z:TwP):List Value:=[.slice z.A1 z.n z.c1,.slice z.A2 z.m z.c2,.slice (some ⟨z.fb,0,none⟩) z.n z.n,.slice (some ⟨z.rb,0,none⟩) z.n z.n,.slice (some ⟨z.sb,0,none⟩) z.n z.n]
structure TwP.rs (w:World) (z:TwP) (q:RS):Prop where
  rk:Blk w z.rb 3 (iv q.1)
  st:Blk w z.sb 3 (iv q.2)
  q:RkQ z.n q
theorem TwP.rs.below {w w':World} {z:TwP} {q:RS} (h:z.rs w q) (hb:Below w.heap.size w w'):z.rs w' q:=⟨h.rk.below hb h.rk.lt,h.st.below hb h.st.lt,h.q⟩
end Go.Proofs.Ytdnmpndnpfklcaa

/- Walks: slices.Reverse at moves. -/
namespace Go.Proofs.Ytdnmpndnpfklcaa
open Go.RowKit Go
def setL:List Value → Nat → List Value → List Value
  | L,_,[]=>L
  | L,o,v :: vs=>setL (L.set o v) (o + 1) vs
theorem setL_app:∀ (vs A B:List Value) (o:Nat),setL (A ++ B) (A.length + o) vs = A ++ setL B o vs
  | [],_,_,_=>rfl
  | v :: vs,A,B,o=>by
    rw [setL,setL,List.set_append,if_neg (by omega),show A.length + o - A.length = o by omega]
    exact setL_app vs A (B.set o v) (o + 1)
theorem Blk.sets {b:Nat} {t:TypeId}:∀ (vs:List Value) {w:World} {L:List Value} {o:Nat},Blk w b t L → o + vs.length ≤ L.length → Blk (w.setCells b o vs) b t (setL L o vs)∧w.grownBy (w.setCells b o vs) (some b)
  | [],w,L,o,h,_=>⟨h,grown_refl _ _⟩
  | v :: vs,w,L,o,h,hl=>by
    rw [List.length_cons] at hl
    have h1:=h.set (j:=o) (by omega) v
    obtain ⟨h2,h3⟩:=Blk.sets vs h1 (o:=o + 1) (by rw [List.length_set];omega)
    exact ⟨h2,(grown_setCell w b o v).trans h3⟩
theorem Blk.there {b:Nat} {t:TypeId} {w:World} {L:List Value} (h:Blk w b t L) {o n:Nat} (hl:o + n ≤ L.length):w.there b o n:=fun i hi=>by
  have h1:=h.cell (j:=o + i) (List.getElem?_eq_getElem (by omega))
  have h2:=h.free (o + i)
  exact ⟨by rw [h1];rfl,h2⟩
theorem step_store {P:Program} {ops:Array Oper} {o:Oper} {a:Act} {K:Act → World → Prop} {Q:Exit → Act → World → Prop} {E:Prop} {w:World} (hgd:o.guard = none) (ty:TypeId) (x y:Operand) (ho:o.op = .store ty x y)
    (b of:Nat) (cells:Array Value) (hx:a.eval x = .pointer (some ⟨b,of,none⟩)) (hy:a.eval y = .agg cells) (ht:w.there b of cells.size) (hi:(P.info? ty).map (·.size) = some cells.size) (h1:cells.all (·.oneCell') = true)
    (h:K (a.put o.dst undef) (w.setCells b of cells.toList)):if Region.wanted o (yielded ops a.tmps) = true then Oper.wp P o a w K Q else E:=by
  rw [if_pos (by simp [Region.wanted,hgd])]
  exact wp_store_mid ty x y ho b of cells hx hy ht hi h1 h
end Go.Proofs.Ytdnmpndnpfklcaa
/- Words on maps from ints to moves; the memory of diagnosability.twin.path. -/
namespace Go.Proofs.Ytdnmpndnpfklcaa
open Go.RowKit Go Go.Maps
def mvR:Value → Option (DataW Unit × List MemPlace)
  | .agg ⟨[.int .i64 a,.int .i64 b,.int .i64 c,.int .i64 d]⟩=>some (.agg [.lit (.int .i64 a),.lit (.int .i64 b),.lit (.int .i64 c),.lit (.int .i64 d)],[])
  | _=>none
def datM (x:Ed):DataW Unit:=.agg [.lit (.int .i64 x.f),.lit (.int .i64 (x.e / 3)),.lit (.int .i64 (x.e % 3)),.lit (.int .i64 x.t)]
theorem mvR_inv {v:Value} {z:DataW Unit} {ps:List MemPlace} (h:mvR v = some (z,ps)):∃ a b c d:Int,v = .agg #[.int .i64 a,.int .i64 b,.int .i64 c,.int .i64 d]∧z = .agg [.lit (.int .i64 a),.lit (.int .i64 b),.lit (.int .i64 c),.lit (.int .i64 d)]:=by
  unfold mvR at h
  split at h
  · rename_i a b c d
    injection h with h
    injection h with h _
    exact ⟨a,b,c,d,rfl,h.symm⟩
  · cases h
def TabM (P:Program) (K:TypeId) (w:World) (b n:Nat) (g:Int → Option Ed):Prop :=
  ∃ D:DataW Unit,w.ownsMap P K mvR b n D∧∀ (a:Int) (kl:Lit),keyOf P K (.int .i64 a) = some kl → Maps.has D kl = (g a).isSome∧∀ x,g a = some x → D.atKey kl (datM ⟨0,0,0⟩) = datM x
section
variable {P:Program} {K E:TypeId} {w w':World} {b n:Nat} {g:Int → Option Ed}
theorem TabM.lt (h:TabM P K w b n g):b < w.heap.size:=by
  obtain ⟨D,h1,h2⟩:=h
  exact h1.lt
theorem TabM.kept (h:TabM P K w b n g) {row:Option Nat} (hg:w.grownBy w' row) (hne:some b ≠ row):TabM P K w' b n g:=by
  obtain ⟨D,h1,h2⟩:=h
  exact ⟨D,h1.kept hg hne,h2⟩
theorem TabM.block (h:TabM P K w b n g) (he:w'.heap[b]? = w.heap[b]?):TabM P K w' b n g:=by
  obtain ⟨D,⟨es,clock,hb,F,hs,hD⟩,h2⟩:=h
  exact ⟨D,⟨es,clock,he.trans hb,F,hs,hD⟩,h2⟩
theorem TabM.below (h:TabM P K w b n g) (hb:Below w.heap.size w w'):TabM P K w' b n g:=h.block (hb.block b h.lt)
theorem TabM.made (w:World) (P:Program) (K:TypeId):TabM P K (w.alloc (.map #[] 0)) w.heap.size 0 (fun _=>none) :=
  ⟨_,World.ownsMap_made _ _ _ _,fun a kl _=>⟨by simp [Maps.has_eq],fun x hx=>by cases hx⟩⟩
theorem TabM.ne {base:Nat} {e:TypeId} {size m:Nat} {v:Value} {xs:List Value} (h:TabM P K w b n g) (ho:w.ownsRow base e size v m xs):some b ≠ v.ownBlock:=by
  obtain ⟨D,⟨es,clock,hb,_⟩,_⟩:=h
  intro e
  rcases ho.2 with ⟨rfl,_⟩ | ⟨q,cap,cur,rfl,_,hq,_⟩
  · cases e
  · injection e with e
    subst e
    rw [show w.heap[b]? = some (.map es clock) from hb] at hq
    cases hq
theorem TabM.neB {t:TypeId} {vs:List Value} {q:Nat} (h:TabM P K w b n g) (hk:Blk w q t vs):b ≠ q:=by
  obtain ⟨D,⟨es,clock,hb,_⟩,_⟩:=h
  rintro rfl
  have:=hk.symm.trans hb
  cases this
theorem TabM.run (h:TabM P K w b n g) {t:TypeId} (KK:Keyed P K) (ht:P.underlying t = some (.map K E)) (hz:(zeroValue E).run P w = .ok (.agg #[.int .i64 0,.int .i64 0,.int .i64 0,.int .i64 0]) w)
    (c:Int) (hk:∃ kl,keyOf P K (.int .i64 c) = some kl) (x:Ed) (hx:g c = some x):(Instr.lookup t (.map (some b)) (.int .i64 c) false).run P w = .ok (.agg #[.int .i64 x.f,.int .i64 (x.e / 3),.int .i64 (x.e % 3),.int .i64 x.t]) w:=by
  obtain ⟨D,h1,h2⟩:=h
  obtain ⟨kl,hkl⟩:=hk
  obtain ⟨h3,h4⟩:=h2 c kl hkl
  obtain ⟨v,ps,hrun,hv⟩:=h1.lookup KK ht hz (show mvR (.agg #[.int .i64 0,.int .i64 0,.int .i64 0,.int .i64 0]) = some (datM ⟨0,0,0⟩,[]) from rfl) hkl
  rw [h4 x hx] at hv
  obtain ⟨y1,y2,y3,y4,rfl,hz2⟩:=mvR_inv hv
  unfold datM at hz2
  simp only [DataW.agg.injEq,List.cons.injEq,DataW.lit.injEq,Lit.int.injEq,true_and,and_true] at hz2
  obtain ⟨e1,e2,e3,e4⟩:=hz2
  rw [hrun,e1,e2,e3,e4]
end
theorem intLaw:Keyed Try.prog 3:=int_keyed Try.underlying3
theorem intKey (c:Int) (h:(Lit.int .i64 c).wf = true):∃ kl,keyOf Try.prog 3 (.int .i64 c) = some kl:=⟨_,keyOf_int_mk Try.underlying3 h⟩
structure PtS (B o:Nat) (w0 w:World) (tv:Value) (nt:Nat) (fr:Int) (bef:List Ed):Prop where
  bel:Below B w0 w
  siz:B ≤ w.heap.size
  tod:w.ownsRow B 3 1 tv nt (iv (fr :: bef.map Ed.t))
  nl:bef.length + 1 = nt
  tab:TabM Try.prog 3 w o bef.length (befA bef)
  lt:B ≤ o
section
variable {B o:Nat} {w0 w w':World} {tv:Value} {nt:Nat} {fr:Int} {bef:List Ed}
theorem PtS.quiet (h:PtS B o w0 w tv nt fr bef) (hb:Below w.heap.size w w'):PtS B o w0 w' tv nt fr bef :=
  ⟨h.bel.trans (hb.mono h.siz),Nat.le_trans h.siz hb.size,own_below h.tod hb,h.nl,h.tab.below hb,h.lt⟩
end
theorem TpI.len {es:List Ed} {n:Nat} {fr tg:Int} {bef:List Ed} (h:TpI es n fr tg bef) (he:EdR n es):bef.length ≤ n:=by
  have:=nodup_le h.nd (m:=rngI (n:Int)) (fun t ht=>by
    obtain ⟨x,hx,rfl⟩:=List.mem_map.1 ht
    exact rngI_mem.2 (he x (h.mem x hx)).2)
  rwa [List.length_map,rngI_len,Int.toNat_natCast] at this
end Go.Proofs.Ytdnmpndnpfklcaa

/- Walks: diagnosability.Model.moves. Printed by wip/mkjg.py. -/
namespace Go.Proofs.Ytdnmpndnpfklcaa
open Go.RowKit Go
theorem TwoG.base {w00 w0 w:World} {e1 e2:TypeId} {s1 s2:Nat} {v1 v2:Value} {n1 n2:Nat} {l1 l2:List Value} (h:TwoG w0.heap.size w0 w e1 e2 s1 s2 v1 v2 n1 n2 l1 l2) (hb:Below w00.heap.size w00 w0):TwoG w00.heap.size w00 w e1 e2 s1 s2 v1 v2 n1 n2 l1 l2 :=
  ⟨hb.trans (h.bel.mono hb.size),Nat.le_trans hb.size h.siz,own_base h.o1 hb.size,own_base h.o2 hb.size,h.apt⟩
end Go.Proofs.Ytdnmpndnpfklcaa

/- Walks: diagnosability.Twin at a right model and class. -/
namespace Go.Proofs.Ytdnmpndnpfklcaa
open Go.RowKit Go Go.Maps
end Go.Proofs.Ytdnmpndnpfklcaa

/- Words on diagnosability.open: three rows made in any order; the moves of each pair, gathered. -/
namespace Go.Proofs.Ytdnmpndnpfklcaa
open Go.RowKit Go
structure Mk3 (w0 W:World) (t1 t2 t3:TypeId) (k1 k2 k3:List Value) (f1 f2 f3:Bool) (b1 b2 b3:Nat):Prop where
  bel:Below w0.heap.size w0 W
  m1:f1 = true → Blk W b1 t1 k1∧w0.heap.size ≤ b1
  m2:f2 = true → Blk W b2 t2 k2∧w0.heap.size ≤ b2
  m3:f3 = true → Blk W b3 t3 k3∧w0.heap.size ≤ b3
  n12:f1 = true → f2 = true → b1 ≠ b2
  n13:f1 = true → f3 = true → b1 ≠ b3
  n23:f2 = true → f3 = true → b2 ≠ b3
section
variable {w0 W:World} {t1 t2 t3:TypeId} {k1 k2 k3:List Value} {f1 f2 f3:Bool} {b1 b2 b3:Nat}
theorem Mk3.bl (h:Mk3 w0 W t1 t2 t3 k1 k2 k3 f1 f2 f3 b1 b2 b3) (t:TypeId) (k:List Value):Below w0.heap.size w0 (W.alloc (.cells k.toArray t)):=h.bel.trans ((box_below W _).mono h.bel.size)
theorem Mk3.p1 (h:Mk3 w0 W t1 t2 t3 k1 k2 k3 false f2 f3 b1 b2 b3):Mk3 w0 (W.alloc (.cells k1.toArray t1)) t1 t2 t3 k1 k2 k3 true f2 f3 W.heap.size b2 b3 :=
  ⟨h.bl t1 k1,fun _=>⟨Blk.new W t1 k1,h.bel.size⟩,fun e=>⟨(h.m2 e).1.al _,(h.m2 e).2⟩,fun e=>⟨(h.m3 e).1.al _,(h.m3 e).2⟩,fun _ e=>Nat.ne_of_gt (h.m2 e).1.lt,fun _ e=>Nat.ne_of_gt (h.m3 e).1.lt,h.n23⟩
theorem Mk3.p2 (h:Mk3 w0 W t1 t2 t3 k1 k2 k3 f1 false f3 b1 b2 b3):Mk3 w0 (W.alloc (.cells k2.toArray t2)) t1 t2 t3 k1 k2 k3 f1 true f3 b1 W.heap.size b3 :=
  ⟨h.bl t2 k2,fun e=>⟨(h.m1 e).1.al _,(h.m1 e).2⟩,fun _=>⟨Blk.new W t2 k2,h.bel.size⟩,fun e=>⟨(h.m3 e).1.al _,(h.m3 e).2⟩,fun e _=>Nat.ne_of_lt (h.m1 e).1.lt,h.n13,fun _ e=>Nat.ne_of_gt (h.m3 e).1.lt⟩
theorem Mk3.p3 (h:Mk3 w0 W t1 t2 t3 k1 k2 k3 f1 f2 false b1 b2 b3):Mk3 w0 (W.alloc (.cells k3.toArray t3)) t1 t2 t3 k1 k2 k3 f1 f2 true b1 b2 W.heap.size :=
  ⟨h.bl t3 k3,fun e=>⟨(h.m1 e).1.al _,(h.m1 e).2⟩,fun e=>⟨(h.m2 e).1.al _,(h.m2 e).2⟩,fun _=>⟨Blk.new W t3 k3,h.bel.size⟩,h.n12,fun e _=>Nat.ne_of_lt (h.m1 e).1.lt,fun e _=>Nat.ne_of_lt (h.m2 e).1.lt⟩
end
end Go.Proofs.Ytdnmpndnpfklcaa
/- Walks: diagnosability.open. -/
namespace Go.Proofs.Ytdnmpndnpfklcaa
open Go.RowKit Go
theorem RkQ.zero (n:Nat):RkQ n (List.replicate n 0,List.replicate n 0):=by
  have hg:∀ j,gI (List.replicate n 0) j = 0:=gI_rep n
  refine ⟨List.length_replicate,List.length_replicate,fun j _ _=>.inl (hg j),fun j _ _=>?_,fun j _ _ h=>?_⟩
  · show -1 ≤ gI (List.replicate n 0) j∧gI (List.replicate n 0) j ≤ _
    rw [hg]
    omega
  · rw [show gI (List.replicate n 0,List.replicate n (0:Int)).2 j = gI (List.replicate n 0) j from rfl,hg] at h
    cases h
end Go.Proofs.Ytdnmpndnpfklcaa

/- Walks: diagnosability.twin.path. -/
namespace Go.Proofs.Ytdnmpndnpfklcaa
open Go.RowKit Go Go.Maps
theorem own_lit4 (w:World) (base:Nat) (hb:base ≤ w.heap.size) (a b c d:Value) (e:TypeId):(w.alloc (.cells #[a,b,c,d] e)).ownsRow base e 4 (.slice (some ⟨w.heap.size,0,none⟩) 1 1) 1 [a,b,c,d] :=
  ⟨by simp,.inr ⟨w.heap.size,1,#[a,b,c,d],rfl,hb,heap_alloc_new w _,Nat.le_refl _,by unfold maxLen;omega,by simp,by simp⟩⟩
theorem PtS.push {B o:Nat} {w0 w w6 w7:World} {tv:Value} {nt:Nat} {fr:Int} {bef:List Ed} {x:Ed} {A:Option Addr} {c:Nat} (h:PtS B o w0 w tv nt fr bef) (ht:TabM Try.prog 3 w6 o (bef.length + 1) (befA (bef ++ [x]))) (hg6:w.grownBy w6 (some o))
    (ho:w7.ownsRow B 3 1 (.slice A (nt + 1) c) (nt + 1) (iv ((fr:Int) :: bef.map Ed.t) ++ [.int .i64 x.t])) (hg7:w6.grownBy w7 tv.ownBlock):PtS B o w0 w7 (.slice A (nt + 1) c) (nt + 1) fr (bef ++ [x]):=by
  have hl:=h.lt
  have hs:=h.siz
  have hs6:=hg6.size
  have hb6:Below B w0 w6:=h.bel.grown hg6 hs (fun j hj=>by injection hj with hj;omega)
  have ho6:w6.ownsRow B 3 1 tv nt (iv (fr :: bef.map Ed.t)):=h.tod.kept hg6 (.inr (fun e=>h.tab.ne h.tod e.symm))
  refine ⟨hb6.grown hg7 (by omega) (fun j hj=>(ho6.lt j hj).1),Nat.le_trans (by omega) hg7.size,?_,by rw [List.length_append,← h.nl];rfl,?_,h.lt⟩
  · rw [List.map_append,← List.cons_append,iv_append];exact ho
  · rw [List.length_append]
    exact ht.kept hg7 (ht.ne ho6)
end Go.Proofs.Ytdnmpndnpfklcaa

/- Walks: diagnosability.twin.rank. -/
namespace Go.Proofs.Ytdnmpndnpfklcaa
open Go.RowKit Go
theorem TwP.rs.st' {w:World} {z:TwP} {q:RS} (h:z.rs w q) {i:Nat} (hi:i < z.n) (v:Int) (hq:RkQ z.n (q.1,q.2.set i v)) (hne:z.rb ≠ z.sb):z.rs (w.setCell ⟨z.sb,i,none⟩ (.int .i64 v)) (q.1,q.2.set i v)∧Ex2 z.rb z.sb w (w.setCell ⟨z.sb,i,none⟩ (.int .i64 v)):=by
  have hg:=grown_setCell w z.sb i (.int .i64 v)
  refine ⟨⟨h.rk.kept hg (by intro e;injection e with e;exact hne e),?_,hq⟩,.grown2 hg⟩
  have:=h.st.set (j:=i) (by unfold iv;rw [List.length_map,h.q.l2];exact hi) (.int .i64 v)
  rw [iv_set] at this
  exact this
end Go.Proofs.Ytdnmpndnpfklcaa

/- Walks: diagnosability.twin.solve, Diagnosable, Ranks. -/
namespace Go.Proofs.Ytdnmpndnpfklcaa
open Go.RowKit Go
theorem RkQ.low {n i:Nat} {q:RS} (h:RkQ n q) (hi:i < n):RkQ n (q.1.set i (-1),q.2):=by
  have hg:∀ j:Int,0 ≤ j → gI (q.1.set i (-1)) j = if j = (i:Int) then -1 else gI q.1 j:=fun j hj=>by
    have:=gI_set (l:=q.1) (i:=(i:Int)) (v:=-1) (by omega) (by rw [h.l1];omega) hj
    rwa [Int.toNat_natCast] at this
  refine ⟨by rw [List.length_set];exact h.l1,h.l2,h.val,fun j h0 h1=>?_,fun j h0 h1 hd=>?_⟩
  · show -1 ≤ gI (q.1.set i (-1)) j∧gI (q.1.set i (-1)) j ≤ (cnt2 q:Int) + 1
    rw [hg j h0]
    split
    · omega
    · exact h.any j h0 h1
  · show gI (q.1.set i (-1)) j ≤ (cnt2 q:Int)
    rw [hg j h0]
    split
    · omega
    · exact h.don j h0 h1 hd
end Go.Proofs.Ytdnmpndnpfklcaa

/- Walks: diagnosability.Lasso. -/
namespace Go.Proofs.Ytdnmpndnpfklcaa
open Go.RowKit Go
theorem RdR.far {α:Type} {sz:Nat} {f:α → List Value} {w w':World} {A:Option Addr} {l:List α} {b:Nat} (h:RdR sz f w w.heap.size A l) (hg:w.grownBy w' (some b)) (hne:∀ ad,A = some ad → ad.block ≠ b):RdR sz f w' w'.heap.size A l:=fun k e he=>by
  obtain ⟨ad,e1,e2,e3⟩:=h k e he
  have h2:=hne ad e1
  exact ⟨ad,e1,Nat.lt_of_lt_of_le e2 hg.size,fun j u hj=>(World.cell?_of_block (hg.block _ (by rw [block_of_add];exact e2) (by rw [block_of_add];intro e;injection e with e;exact h2 e))).trans (e3 j u hj)⟩
end Go.Proofs.Ytdnmpndnpfklcaa

/- Walks: the law's examples, known. Printed by wip/mkju.py. -/
namespace Go.Proofs.Ytdnmpndnpfklcaa
open Go.RowKit Go
theorem add_lit (b j:Nat):(⟨b,0,none⟩:Addr).add j = ⟨b,j,none⟩:=by
  rw [Addr.add_mid,Nat.zero_add]
theorem rdI_blk {w:World} {b:Nat} {t:TypeId} {l:List Int} (h:Blk w b t (iv l)):RdI w w.heap.size (some ⟨b,0,none⟩) l:=fun k u hu=>⟨_,rfl,h.lt,by rw [add_lit];exact h.cell hu⟩
theorem rdR_blk {α:Type} {sz:Nat} {f:α → List Value} {w:World} {b:Nat} {t:TypeId} {l:List α} (hs:∀ x ∈ l,(f x).length = sz) (h:Blk w b t (l.flatMap f)):RdR sz f w w.heap.size (some ⟨b,0,none⟩) l :=
  fun k x hx=>⟨_,rfl,h.lt,fun j u hj=>by rw [add_lit];exact h.cell (flat_get f sz l hs k x j u hx hj)⟩
theorem rdX_blk {w:World} {b:Nat} {t:TypeId} {l:List Ed} (h:Blk w b t (l.flatMap edc)):RdX w w.heap.size (some ⟨b,0,none⟩) l:=rdR_blk (fun _ _=>rfl) h
end Go.Proofs.Ytdnmpndnpfklcaa
/- Walks: known. -/
namespace Go.Proofs.Ytdnmpndnpfklcaa
open Go.RowKit Go
end Go.Proofs.Ytdnmpndnpfklcaa
