/- Words on the product's machine: tables of edges; the machine's value. -/
import Derived.Test.YtdnmpndnpfklcaaSa
import Derived.Test.YtdnmpndnpfklcaaAa
import Derived.DeepKeys4
import Derived.MapViews
import Derived.ProofKit
import Derived.Test.YtdnmpndnpfklcaaQa
import Derived.Shelf.Strings.Builder1
import Derived.Shelf.Abstract

namespace Go.Proofs.Ytdnmpndnpfklcaa
open Go.RowKit Go Go.Maps
theorem laidOut:laidOutB Try.prog = true:=by kernel_rfl
def kP (p:Int × Int):Value:=.agg #[.int .i64 p.1,.int .i64 p.2]
def TabE (w:World) (b n:Nat) (l:List Ed):Prop:=TabI Try.prog 126 3 kP w b n (fun p=>lkE p.1 p.2 l)
end Go.Proofs.Ytdnmpndnpfklcaa
/- Walks: product.open. -/
namespace Go.Proofs.Ytdnmpndnpfklcaa
open Go.RowKit Go Go.Maps
def MapsR (w:World) (B:Nat) (gl:List Nat) (l:List Aut):Prop:=gl.length = l.length∧∀ (j b:Nat) (a:Aut),gl[j]? = some b → l[j]? = some a → B ≤ b∧∃ m,TabE w b m a.ed
theorem own_shape {w:World} {base:Nat} {e:TypeId} {size n:Nat} {v:Value} {xs:List Value} (h:w.ownsRow base e size v n xs):∃ A c,v = .slice A n c:=by
 rcases h.2 with ⟨rfl,rfl⟩ | ⟨g,cap,cur,rfl,_⟩
 ·exact ⟨_,_,rfl⟩
 ·exact ⟨_,_,rfl⟩
theorem own_cap' {w:World} {base:Nat} {e:TypeId} {size n cap:Nat} {A:Option Addr} {xs:List Value} (h:w.ownsRow base e size (.slice A n cap) n xs):n ≤ cap∧cap ≤ 9223372036854775807:=by
 rcases h.2 with ⟨h',h0⟩ | ⟨g',cap',cur,h',_,_,hnc,hcm,_⟩
 ·injection h' with _ _ h'
  subst h' h0;exact ⟨Nat.le_refl _,by omega⟩
 ·injection h' with _ _ h'
  subst h'
  exact ⟨hnc,by simpa [maxLen] using hcm⟩
theorem MapsR.kept {w w':World} {B r:Nat} {gl:List Nat} {l:List Aut} (h:MapsR w B gl l) (hg:w.grownBy w' (some r)) (hr:r < B):MapsR w' B gl l:=⟨h.1,fun j b a hb ha=>by
 obtain ⟨h1,m,h2⟩:=h.2 j b a hb ha
 exact ⟨h1,m,TabI.kept h2 hg (fun e=>by injection e with e;omega)⟩⟩
theorem own_kept_low {w w':World} {base r:Nat} {e:TypeId} {size n:Nat} {v:Value} {xs:List Value} (h:w.ownsRow base e size v n xs) (hg:w.grownBy w' (some r)) (hb:r < base):w'.ownsRow base e size v n xs:=by
 refine h.kept hg ?_
 cases hv:v.ownBlock with
 | none=>exact .inl rfl
 | some g =>
  right
  have:=(h.lt g hv).1
  intro e;injection e with e;omega
end Go.Proofs.Ytdnmpndnpfklcaa
/- Walks: alphabet.Intersect, Minus, Subset, CheckSet; controllable.steps. -/
namespace Go.Proofs.Ytdnmpndnpfklcaa
open Go.RowKit Go Go.Maps
set_option maxHeartbeats 400000 in
theorem alphabet_CheckSet (A:Option Addr) (c:Nat) (l:List Int) (n:Int) (w:World) (h:RdI w w.heap.size A l) (hlc:l.length ≤ c) (hc:c ≤ 9223372036854775807) :
  Calls Try.prog 51 #[.slice A l.length c,.int .i64 n] w fun e w'=>e = .returned (.int .i64 (setErr l n))∧w = w':=by
 go_enter Try.func51,Try.ntmps51
 go_wp2
 go_loop [9] (fun i=>∃ k:Nat,k ≤ l.length∧i = .int .i64 k∧Hid (setErr l n = setErrG n (l.take k).getLast? (l.drop k))) (fun i=>l.length - (intOf i).toNat)
 case atStart=>exact ⟨0,Nat.zero_le _,rfl,Lib.hid rfl⟩
 case round =>
  obtain ⟨k,hk,rfl,HX⟩:=hrel
  by_cases hlt:k < l.length
  ·obtain ⟨ad,y,rfl,hb,hy,hcell⟩:=h.at_ hlt
   have HY:=Lib.hid hy;clear hy
   by_cases h1:y < 0
   ·go_wp2
    go_ret
    exact ⟨ret_int (by rw [HX.out,setErrG_range HY.out (.inl h1)]),rfl⟩
   by_cases h2:n ≤ y
   ·go_wp2
    go_ret
    exact ⟨ret_int (by rw [HX.out,setErrG_range HY.out (.inr h2)]),rfl⟩
   have e1:decide (y < 0) = false:=by simpa using h1
   have e2:decide (n ≤ y) = false:=by simpa using h2
   cases k with
   | zero =>
    have hcell':=cell_zero hcell
    go_wp2
    go_round
    case rel=>exact ⟨1,by omega,by go_num,Lib.hid (by rw [HX.out,take_snoc' HY.out,List.getLast?_concat];exact setErrG_first HY.out (by omega))⟩
    case measure=>simp [intOf];omega
   | succ j =>
    obtain ⟨ad',q,e,_,hq,hcq⟩:=h.at_ (k:=j) (by omega)
    obtain rfl:ad = ad':=by injection e
    have hcell':=cell_succ hcell
    have HQ:=Lib.hid hq;clear hq
    by_cases h3:y ≤ q
    ·go_wp2
     go_ret
     exact ⟨ret_int (by rw [HX.out,take_snoc' HQ.out,List.getLast?_concat,setErrG_order HY.out (by omega) h3]),rfl⟩
    ·go_wp2
     go_round
     case rel=>exact ⟨j + 1 + 1,by omega,by go_num,Lib.hid (by rw [HX.out,take_snoc' HQ.out,List.getLast?_concat,setErrG_next HY.out (by omega) (by omega),take_snoc' HY.out,List.getLast?_concat])⟩
     case measure=>simp [intOf];omega
  ·go_wp2
   go_ret
   exact ⟨ret_int (by rw [HX.out,setErrG_end hlt]),rfl⟩
theorem alphabet_CheckSet_n (A:Option Addr) (c n:Nat) (l:List Int) (m r:Int) (w:World) (hl:l.length = n) (hr:setErr l m = r) (h:RdI w w.heap.size A l) (hlc:n ≤ c) (hc:c ≤ 9223372036854775807) :
  Calls Try.prog 51 #[.slice A n c,.int .i64 m] w fun e w'=>e = .returned (.int .i64 r)∧w = w':=by
 subst hl hr;exact alphabet_CheckSet A c l m w h hlc hc
end Go.Proofs.Ytdnmpndnpfklcaa
/- Walks: the machine's initial tuple, its marked tuples. -/
namespace Go.Proofs.Ytdnmpndnpfklcaa
open Go.RowKit Go Go.Maps
end Go.Proofs.Ytdnmpndnpfklcaa
namespace Go.Proofs.Ytdnmpndnpfklcaa
open Go.RowKit Go Go.Maps
def bvl (N:List Bool):List Value:=N.map Value.bool
theorem bvl_length (N:List Bool):(bvl N).length = N.length:=by simp [bvl]
theorem bvl_get (N:List Bool) (k:Nat):(bvl N)[k]? = N[k]?.map Value.bool:=by simp [bvl]
theorem bvl_set (N:List Bool) (k:Nat) (q:Bool):(bvl N).set k (.bool q) = bvl (N.set k q):=by simp [bvl,List.map_set]
theorem bool_info:(Try.prog.info? 4).map (fun i=>(i.zero,i.size,i.bytes)) = some (some (.bool false),1,1):=by kernel_rfl
theorem made_bools (n:Nat):madeCells #[.bool false] n = (bvl (List.replicate n false)).toArray:=by
 apply Array.ext
 ·simp [madeCells,bvl]
 ·intro i h1 h2
  simp [madeCells,bvl,Nat.mod_one]
end Go.Proofs.Ytdnmpndnpfklcaa
/- Walks: the machine's step. -/
namespace Go.Proofs.Ytdnmpndnpfklcaa
open Go.RowKit Go Go.Maps
theorem iv_set (l:List Int) (k:Nat) (y:Int):(iv l).set k (.int .i64 y) = iv (l.set k y):=by
 unfold iv;rw [List.map_set]
end Go.Proofs.Ytdnmpndnpfklcaa
/- Walks: strings.Builder at this dump; the key of a tuple. -/
namespace Go.Proofs.Ytdnmpndnpfklcaa
open Go.RowKit Go Go.Maps
end Go.Proofs.Ytdnmpndnpfklcaa
/- Walks: the key of a tuple. -/
namespace Go.Proofs.Ytdnmpndnpfklcaa
open Go.RowKit Go Go.Maps
end Go.Proofs.Ytdnmpndnpfklcaa
/- The state of product.Synchronous as it stands in memory; what each of its steps leaves of it. -/
namespace Go.Proofs.Ytdnmpndnpfklcaa
open Go.RowKit Go Go.Maps
theorem edge_info:(Try.prog.info? 67).map (fun i=>(i.zero,i.size,i.bytes)) = some (some (.agg #[.int .i64 0,.int .i64 0,.int .i64 0]),3,24):=by kernel_rfl
theorem own_ne {w:World} {base base':Nat} {e e':TypeId} {size size' n n':Nat} {v v':Value} {xs xs':List Value} (h:w.ownsRow base e size v n xs) (h':w.ownsRow base' e' size' v' n' xs') (hne:e ≠ e'):v.ownBlock = none ∨ v.ownBlock ≠ v'.ownBlock:=by
 rcases h.2 with ⟨rfl,_⟩ | ⟨g,cap,cur,rfl,_,hg,_⟩
 ·exact .inl rfl
 ·right
  rcases h'.2 with ⟨rfl,_⟩ | ⟨g',cap',cur',rfl,_,hg',_⟩
  ·simp [Value.ownBlock]
  ·intro e0
   simp only [Value.ownBlock,Option.some.injEq] at e0
   subst e0
   rw [hg] at hg'
   injection hg' with hg'
   injection hg' with _ h2 _
   exact hne h2
theorem own_kept_ne {w w':World} {base base':Nat} {e e':TypeId} {size size' n n':Nat} {v v':Value} {xs xs':List Value} (h:w.ownsRow base e size v n xs) (h':w.ownsRow base' e' size' v' n' xs') (hne:e ≠ e') (hg:w.grownBy w' v'.ownBlock):w'.ownsRow base e size v n xs:=h.kept hg (own_ne h h' hne)
theorem own_lt_ne {w:World} {base r:Nat} {e:TypeId} {size n:Nat} {v:Value} {xs:List Value} (h:w.ownsRow base e size v n xs) (hr:r < base):some r ≠ v.ownBlock:=fun e0=>by have:=(h.lt r e0.symm).1;omega
theorem tab_ne_own' {α:Type} {P:Program} {K E:TypeId} {key:α → Value} {w:World} {b n:Nat} {g:α → Option Int} (h:TabI P K E key w b n g) {base:Nat} {e:TypeId} {size m:Nat} {v:Value} {xs:List Value} (ho:w.ownsRow base e size v m xs):some b ≠ v.ownBlock:=by
 obtain ⟨D,⟨es,clock,hb,_⟩,_⟩:=h
 rcases ho.2 with ⟨rfl,_⟩ | ⟨g,cap,cur,rfl,_,hg,_⟩
 ·simp [Value.ownBlock]
 ·intro he
  simp only [Value.ownBlock,Option.some.injEq] at he
  subst he
  rw [hb] at hg;cases hg
structure Cst where
 ra:Nat
 mb:Nat
 mp:Nat
 L:Option Addr
 n:Nat
 c:Nat
 V:Option Addr
 nv:Nat
 cv:Nat
 G:Option Addr
 cg:Nat
 xs:List AV
theorem own_lit (w:World) (us:List Value) (base:Nat) (e:TypeId) (hb:base ≤ w.heap.size) (hn:us.length ≤ 9223372036854775807):(w.alloc (.cells us.toArray e)).ownsRow base e 1 (.slice (some ⟨w.heap.size,0,none⟩) us.length us.length) us.length us :=
 ⟨by simp,.inr ⟨w.heap.size,us.length,us.toArray,rfl,hb,heap_alloc_new w _,Nat.le_refl _,by unfold maxLen;omega,by simp,by simp⟩⟩
theorem wpList_tab_insert {α:Type} {P:Program} {K E:TypeId} {key:α → Value} {w:World} {b n:Nat} {g:α → Option Int} {ops:Array Oper} {rest:List Oper} {o:Oper} {a:Act} {Q:Exit → Act → World → Prop} (hg:o.guard = none) (m x v:Operand) (t:TypeId) (hop:o.op = Op.insert t m x v)
  (KK:Keyed P K) (ht:P.underlying t = some (.map K E)) (he:P.underlying E = some (.int .i64))
  (hm:a.eval m = .map (some b)) (h:TabI P K E key w b n g) (hn:n ≤ 1000000000) (c:α) (hx:a.eval x = key c) (hk:∃ kl,keyOf P K (key c) = some kl) (y:Int) (hv:a.eval v = .int .i64 y) (hw:(Lit.int .i64 y).wf = true)
  (g':α → Option Int) (hg1:∀ d,key d = key c → g' d = some y) (hg2:∀ d,key d ≠ key c → g' d = g d)
  (hK:∀ w',TabI P K E key w' b (n + 1) g' → w.grownBy w' (some b) → wpList P ops Q rest (a.put o.dst undef) w'):wpList P ops Q (o :: rest) a w:=by
 obtain ⟨D,h1,h2⟩:=h
 obtain ⟨kl,hkl⟩:=hk
 refine wpList_plain hg fun K' hK'=>?_
 obtain ⟨w',hrun,h3,h4⟩:=h1.update KK ht (Nat.lt_of_le_of_lt hn (by unfold maxLen;omega)) hkl (plainElem_int he hw)
 unfold Oper.wp
 simp [execOp,hop,hm,hx,hv,hrun,Result.andThen]
 refine hK' _ _ (hK w' ⟨_,h3,fun d kd hkd=>?_⟩ h4)
 by_cases hd:key d = key c
 ·have:kd = kl:=by rw [hd,hkl] at hkd;injection hkd with e;exact e.symm
  subst this
  rw [hg1 d hd]
  exact ⟨Maps.has_put_same h1.isMap (KK.key hkl) _,fun z hz=>by injection hz with hz;subst hz;exact Maps.atKey_put_same h1.isMap (KK.key hkl) _ _⟩
 ·have hne:kd ≠ kl:=fun e=>hd (KK.inj (by rw [← e];exact hkd) hkl)
  rw [hg2 d hd,Maps.has_put_other hne,Maps.atKey_put_other hne]
  exact h2 d kd hkd
end Go.Proofs.Ytdnmpndnpfklcaa
