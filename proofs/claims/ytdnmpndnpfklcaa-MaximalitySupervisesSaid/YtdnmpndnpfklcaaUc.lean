/- Plain: the product of two automata over the same events; its numbering. -/
import Derived.Test.YtdnmpndnpfklcaaQa
import Derived.Test.YtdnmpndnpfklcaaMi
import Derived.Test.YtdnmpndnpfklcaaGa
import Derived.RangeFuncNested
import Derived.RangeFuncBound
import Derived.RangeFuncCalls
import Derived.RangeFuncLeaves
import Derived.RangeFuncFrom
import Derived.Below
import Derived.WalkKit

namespace Go.Proofs.Ytdnmpndnpfklcaa
open Go.RowKit Go
section
variable {P:Program} {l:List Oper} {md:Region.Mode} {Q:Exit → Act → World → Prop} {A B:World → Prop} {q:Nat}
theorem uTwo {i j:Nat} {oi oj:Oper} {r r':List Oper} {f:Nat} {listed:Array Bool} {a:Act} {w:World} (hi:l.drop i = oi :: r) (hj:l.drop j = oj :: r') (hr:Region.ready md l.toArray listed = [i,j])
  (h1:∀ K:Act → World → Prop,(∀ a' w',heldU A B q (listed.setIfInBounds i true) w' → anyU P md l.toArray Q A B q f (listed.setIfInBounds i true) a' w' → K a' w') → if Region.wanted oi (yielded l.toArray a.tmps) then oi.wp P a w K Q else K (a.put oi.dst undef) w)
  (h2:∀ K:Act → World → Prop,(∀ a' w',heldU A B q (listed.setIfInBounds j true) w' → anyU P md l.toArray Q A B q f (listed.setIfInBounds j true) a' w' → K a' w') → if Region.wanted oj (yielded l.toArray a.tmps) then oj.wp P a w K Q else K (a.put oj.dst undef) w) :
  anyU P md l.toArray Q A B q (f + 1) listed a w:=by
 refine ⟨fun h0=>(by rw [hr] at h0;cases h0),fun k hk=>?_⟩
 rw [hr] at hk
 have hk':k = i ∨ k = j:=by simpa using hk
 rcases hk' with rfl | rfl
 ·have:=h1 (fun a' w'=>heldU A B q (listed.setIfInBounds k true) w'∧anyU P md l.toArray Q A B q f (listed.setIfInBounds k true) a' w') (fun a' w' h1 h2=>⟨h1,h2⟩)
  unfold wpOp
  simp only [at_drop hi]
  split
  ·rename_i hw;rw [if_pos hw] at this;exact .inl this
  ·rename_i hw;rw [if_neg hw] at this;exact this
 ·have:=h2 (fun a' w'=>heldU A B q (listed.setIfInBounds k true) w'∧anyU P md l.toArray Q A B q f (listed.setIfInBounds k true) a' w') (fun a' w' h1 h2=>⟨h1,h2⟩)
  unfold wpOp
  simp only [at_drop hj]
  split
  ·rename_i hw;rw [if_pos hw] at this;exact .inl this
  ·rename_i hw;rw [if_neg hw] at this;exact this
end
theorem own_ne_blk {w:World} {base:Nat} {e t:TypeId} {size n b:Nat} {v:Value} {xs vs:List Value} (h:w.ownsRow base e size v n xs) (hk:Blk w b t vs) (hne:e ≠ t):v.ownBlock = none ∨ v.ownBlock ≠ some b:=by
 rcases h.2 with ⟨rfl,_⟩ | ⟨g,cap,cur,rfl,_,hg,_⟩
 ·exact .inl rfl
 ·right
  intro e0
  simp only [Value.ownBlock,Option.some.injEq] at e0
  subst e0
  rw [show w.heap[g]? = _ from hk] at hg
  injection hg with hg
  injection hg with _ h2 _
  exact hne h2.symm
theorem blk_ne_own {w:World} {base:Nat} {e t:TypeId} {size n b:Nat} {v:Value} {xs vs:List Value} (h:w.ownsRow base e size v n xs) (hk:Blk w b t vs) (hne:e ≠ t):some b ≠ v.ownBlock:=by
 rcases own_ne_blk h hk hne with h1 | h1
 ·rw [h1];simp
 ·exact fun e=>h1 e.symm
section
variable {P R p:Aut} {T:List (List Int)}
end
end Go.Proofs.Ytdnmpndnpfklcaa
/- Plain: the search of reach.Path; in a product it finds the states in their order. -/
namespace Go.Proofs.Ytdnmpndnpfklcaa
structure Stp where
 s:Int
 f:Int
 e:Int
def rowS (perm:Ed → Bool) (i:Nat):List Ed → List Stp → List Bool → List Stp × List Bool
 | [],l,N=>(l,N)
 | x :: r,l,N=>if fl N x.t = false∧perm x = true then rowS perm i r (l ++ [⟨x.t,i,x.e⟩]) (fset N x.t) else rowS perm i r l N
def bckS (l:List Stp):Nat → Int → List Int
 | 0,_=>[]
 | n + 1,k=>match l[k.toNat]? with
  | none=>[]
  | some t=>if t.f < 0 then [] else t.e :: bckS l n t.f
def pthF (a:Aut) (want:Int → Bool) (perm:Ed → Bool):Nat → Nat → List Stp → List Bool → Option (List Int)
 | 0,_,_,_=>none
 | n + 1,i,l,N=>match l[i]? with
  | none=>none
  | some t=>if want t.s = true then some (bckS l l.length i).reverse else pthF a want perm n (i + 1) (rowS perm i (outE a t.s) l N).1 (rowS perm i (outE a t.s) l N).2
def pathS (a:Aut) (st:Int) (want:Int → Bool) (perm:Ed → Bool):Option (List Int) :=
 pthF a want perm (a.st.toNat + 1) 0 [⟨st,-1,-1⟩] (fset (List.replicate a.st.toNat false) st)
end Go.Proofs.Ytdnmpndnpfklcaa
/- Plain: what a supervisor refuses, forces and must not refuse in the states of the closed loop (chapter 45). -/
namespace Go.Proofs.Ytdnmpndnpfklcaa
end Go.Proofs.Ytdnmpndnpfklcaa
/- A function that holds a range over a function in a loop leaves with many marks: each is taken off. No program in sight. -/
namespace Go.Proofs.Ytdnmpndnpfklcaa
open Go.RowKit Go
def marks (ds:List Nat):List Deferred:=ds.map fun D=>{ target:=.collected D,args:=#[] }
end Go.Proofs.Ytdnmpndnpfklcaa
/- A frame of which thirteen slots are known. No program in sight. -/
namespace Go.Proofs.Ytdnmpndnpfklcaa
open Go.RowKit Go
theorem cons_len {n:Nat} {ys:List Value} (h:ys.length = n + 1):∃ y zs,ys = y :: zs∧zs.length = n:=by
 cases ys with
 | nil=>simp at h
 | cons y zs=>exact ⟨y,zs,rfl,by simpa using h⟩
def Frm (k:List Value) (ds:List Nat) (a:Act):Prop:=a.tmps.toList.take 13 = k∧a.tmps.size = 95∧a.defers = marks ds
theorem Frm.opened {k:List Value} {ds:List Nat} {a:Act} (h:Frm k ds a):∃ y13 y14 y15 y16 y17 y18 y19 y20 y21 y22 y23 y24 y25 y26 y27 y28 y29 y30 y31 y32 y33 y34 y35 y36 y37 y38 y39 y40 y41 y42 y43 y44 y45 y46 y47 y48 y49 y50 y51 y52 y53 y54 y55 y56 y57 y58 y59 y60 y61 y62 y63 y64 y65 y66 y67 y68 y69 y70 y71 y72 y73 y74 y75 y76 y77 y78 y79 y80 y81 y82 y83 y84 y85 y86 y87 y88 y89 y90 y91 y92 y93 y94:Value,a = { tmps:=(k ++ [y13,y14,y15,y16,y17,y18,y19,y20,y21,y22,y23,y24,y25,y26,y27,y28,y29,y30,y31,y32,y33,y34,y35,y36,y37,y38,y39,y40,y41,y42,y43,y44,y45,y46,y47,y48,y49,y50,y51,y52,y53,y54,y55,y56,y57,y58,y59,y60,y61,y62,y63,y64,y65,y66,y67,y68,y69,y70,y71,y72,y73,y74,y75,y76,y77,y78,y79,y80,y81,y82,y83,y84,y85,y86,y87,y88,y89,y90,y91,y92,y93,y94]).toArray,defers:=marks ds }:=by
 obtain ⟨T,D⟩:=a
 obtain ⟨h1,h2,h3⟩:=h
 dsimp only at h1 h2 h3
 have hT:T.toList = k ++ T.toList.drop 13:=by rw [← h1,List.take_append_drop]
 have hl:(T.toList.drop 13).length = 82:=by rw [List.length_drop,Array.length_toList,h2]
 generalize T.toList.drop 13 = z at hT hl
 obtain ⟨y13,z13,rfl,g13⟩:=cons_len hl
 obtain ⟨y14,z14,rfl,g14⟩:=cons_len g13
 obtain ⟨y15,z15,rfl,g15⟩:=cons_len g14
 obtain ⟨y16,z16,rfl,g16⟩:=cons_len g15
 obtain ⟨y17,z17,rfl,g17⟩:=cons_len g16
 obtain ⟨y18,z18,rfl,g18⟩:=cons_len g17
 obtain ⟨y19,z19,rfl,g19⟩:=cons_len g18
 obtain ⟨y20,z20,rfl,g20⟩:=cons_len g19
 obtain ⟨y21,z21,rfl,g21⟩:=cons_len g20
 obtain ⟨y22,z22,rfl,g22⟩:=cons_len g21
 obtain ⟨y23,z23,rfl,g23⟩:=cons_len g22
 obtain ⟨y24,z24,rfl,g24⟩:=cons_len g23
 obtain ⟨y25,z25,rfl,g25⟩:=cons_len g24
 obtain ⟨y26,z26,rfl,g26⟩:=cons_len g25
 obtain ⟨y27,z27,rfl,g27⟩:=cons_len g26
 obtain ⟨y28,z28,rfl,g28⟩:=cons_len g27
 obtain ⟨y29,z29,rfl,g29⟩:=cons_len g28
 obtain ⟨y30,z30,rfl,g30⟩:=cons_len g29
 obtain ⟨y31,z31,rfl,g31⟩:=cons_len g30
 obtain ⟨y32,z32,rfl,g32⟩:=cons_len g31
 obtain ⟨y33,z33,rfl,g33⟩:=cons_len g32
 obtain ⟨y34,z34,rfl,g34⟩:=cons_len g33
 obtain ⟨y35,z35,rfl,g35⟩:=cons_len g34
 obtain ⟨y36,z36,rfl,g36⟩:=cons_len g35
 obtain ⟨y37,z37,rfl,g37⟩:=cons_len g36
 obtain ⟨y38,z38,rfl,g38⟩:=cons_len g37
 obtain ⟨y39,z39,rfl,g39⟩:=cons_len g38
 obtain ⟨y40,z40,rfl,g40⟩:=cons_len g39
 obtain ⟨y41,z41,rfl,g41⟩:=cons_len g40
 obtain ⟨y42,z42,rfl,g42⟩:=cons_len g41
 obtain ⟨y43,z43,rfl,g43⟩:=cons_len g42
 obtain ⟨y44,z44,rfl,g44⟩:=cons_len g43
 obtain ⟨y45,z45,rfl,g45⟩:=cons_len g44
 obtain ⟨y46,z46,rfl,g46⟩:=cons_len g45
 obtain ⟨y47,z47,rfl,g47⟩:=cons_len g46
 obtain ⟨y48,z48,rfl,g48⟩:=cons_len g47
 obtain ⟨y49,z49,rfl,g49⟩:=cons_len g48
 obtain ⟨y50,z50,rfl,g50⟩:=cons_len g49
 obtain ⟨y51,z51,rfl,g51⟩:=cons_len g50
 obtain ⟨y52,z52,rfl,g52⟩:=cons_len g51
 obtain ⟨y53,z53,rfl,g53⟩:=cons_len g52
 obtain ⟨y54,z54,rfl,g54⟩:=cons_len g53
 obtain ⟨y55,z55,rfl,g55⟩:=cons_len g54
 obtain ⟨y56,z56,rfl,g56⟩:=cons_len g55
 obtain ⟨y57,z57,rfl,g57⟩:=cons_len g56
 obtain ⟨y58,z58,rfl,g58⟩:=cons_len g57
 obtain ⟨y59,z59,rfl,g59⟩:=cons_len g58
 obtain ⟨y60,z60,rfl,g60⟩:=cons_len g59
 obtain ⟨y61,z61,rfl,g61⟩:=cons_len g60
 obtain ⟨y62,z62,rfl,g62⟩:=cons_len g61
 obtain ⟨y63,z63,rfl,g63⟩:=cons_len g62
 obtain ⟨y64,z64,rfl,g64⟩:=cons_len g63
 obtain ⟨y65,z65,rfl,g65⟩:=cons_len g64
 obtain ⟨y66,z66,rfl,g66⟩:=cons_len g65
 obtain ⟨y67,z67,rfl,g67⟩:=cons_len g66
 obtain ⟨y68,z68,rfl,g68⟩:=cons_len g67
 obtain ⟨y69,z69,rfl,g69⟩:=cons_len g68
 obtain ⟨y70,z70,rfl,g70⟩:=cons_len g69
 obtain ⟨y71,z71,rfl,g71⟩:=cons_len g70
 obtain ⟨y72,z72,rfl,g72⟩:=cons_len g71
 obtain ⟨y73,z73,rfl,g73⟩:=cons_len g72
 obtain ⟨y74,z74,rfl,g74⟩:=cons_len g73
 obtain ⟨y75,z75,rfl,g75⟩:=cons_len g74
 obtain ⟨y76,z76,rfl,g76⟩:=cons_len g75
 obtain ⟨y77,z77,rfl,g77⟩:=cons_len g76
 obtain ⟨y78,z78,rfl,g78⟩:=cons_len g77
 obtain ⟨y79,z79,rfl,g79⟩:=cons_len g78
 obtain ⟨y80,z80,rfl,g80⟩:=cons_len g79
 obtain ⟨y81,z81,rfl,g81⟩:=cons_len g80
 obtain ⟨y82,z82,rfl,g82⟩:=cons_len g81
 obtain ⟨y83,z83,rfl,g83⟩:=cons_len g82
 obtain ⟨y84,z84,rfl,g84⟩:=cons_len g83
 obtain ⟨y85,z85,rfl,g85⟩:=cons_len g84
 obtain ⟨y86,z86,rfl,g86⟩:=cons_len g85
 obtain ⟨y87,z87,rfl,g87⟩:=cons_len g86
 obtain ⟨y88,z88,rfl,g88⟩:=cons_len g87
 obtain ⟨y89,z89,rfl,g89⟩:=cons_len g88
 obtain ⟨y90,z90,rfl,g90⟩:=cons_len g89
 obtain ⟨y91,z91,rfl,g91⟩:=cons_len g90
 obtain ⟨y92,z92,rfl,g92⟩:=cons_len g91
 obtain ⟨y93,z93,rfl,g93⟩:=cons_len g92
 obtain ⟨y94,z94,rfl,g94⟩:=cons_len g93
 obtain rfl:=List.eq_nil_of_length_eq_zero g94
 exact ⟨y13,y14,y15,y16,y17,y18,y19,y20,y21,y22,y23,y24,y25,y26,y27,y28,y29,y30,y31,y32,y33,y34,y35,y36,y37,y38,y39,y40,y41,y42,y43,y44,y45,y46,y47,y48,y49,y50,y51,y52,y53,y54,y55,y56,y57,y58,y59,y60,y61,y62,y63,y64,y65,y66,y67,y68,y69,y70,y71,y72,y73,y74,y75,y76,y77,y78,y79,y80,y81,y82,y83,y84,y85,y86,y87,y88,y89,y90,y91,y92,y93,y94,by rw [h3,show T = T.toList.toArray from rfl,hT]⟩
theorem Frm.elim {k:List Value} {ds:List Nat} {Q:Act → Prop} (hq:∀ y13 y14 y15 y16 y17 y18 y19 y20 y21 y22 y23 y24 y25 y26 y27 y28 y29 y30 y31 y32 y33 y34 y35 y36 y37 y38 y39 y40 y41 y42 y43 y44 y45 y46 y47 y48 y49 y50 y51 y52 y53 y54 y55 y56 y57 y58 y59 y60 y61 y62 y63 y64 y65 y66 y67 y68 y69 y70 y71 y72 y73 y74 y75 y76 y77 y78 y79 y80 y81 y82 y83 y84 y85 y86 y87 y88 y89 y90 y91 y92 y93 y94:Value,Q { tmps:=(k ++ [y13,y14,y15,y16,y17,y18,y19,y20,y21,y22,y23,y24,y25,y26,y27,y28,y29,y30,y31,y32,y33,y34,y35,y36,y37,y38,y39,y40,y41,y42,y43,y44,y45,y46,y47,y48,y49,y50,y51,y52,y53,y54,y55,y56,y57,y58,y59,y60,y61,y62,y63,y64,y65,y66,y67,y68,y69,y70,y71,y72,y73,y74,y75,y76,y77,y78,y79,y80,y81,y82,y83,y84,y85,y86,y87,y88,y89,y90,y91,y92,y93,y94]).toArray,defers:=marks ds }):∀ a,Frm k ds a → Q a:=fun a h=>by
 obtain ⟨y13,y14,y15,y16,y17,y18,y19,y20,y21,y22,y23,y24,y25,y26,y27,y28,y29,y30,y31,y32,y33,y34,y35,y36,y37,y38,y39,y40,y41,y42,y43,y44,y45,y46,y47,y48,y49,y50,y51,y52,y53,y54,y55,y56,y57,y58,y59,y60,y61,y62,y63,y64,y65,y66,y67,y68,y69,y70,y71,y72,y73,y74,y75,y76,y77,y78,y79,y80,y81,y82,y83,y84,y85,y86,y87,y88,y89,y90,y91,y92,y93,y94,rfl⟩:=h.opened
 exact hq y13 y14 y15 y16 y17 y18 y19 y20 y21 y22 y23 y24 y25 y26 y27 y28 y29 y30 y31 y32 y33 y34 y35 y36 y37 y38 y39 y40 y41 y42 y43 y44 y45 y46 y47 y48 y49 y50 y51 y52 y53 y54 y55 y56 y57 y58 y59 y60 y61 y62 y63 y64 y65 y66 y67 y68 y69 y70 y71 y72 y73 y74 y75 y76 y77 y78 y79 y80 y81 y82 y83 y84 y85 y86 y87 y88 y89 y90 y91 y92 y93 y94
end Go.Proofs.Ytdnmpndnpfklcaa
