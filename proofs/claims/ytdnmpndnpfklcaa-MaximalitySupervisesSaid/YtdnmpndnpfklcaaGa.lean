/- Words on the product's machine: tables of edges; the machine's value. -/
import Derived.Test.YtdnmpndnpfklcaaSa
import Derived.Test.YtdnmpndnpfklcaaAa
import Derived.DeepKeys4
import Derived.MapViews
import Derived.ProofKit
import Derived.Test.YtdnmpndnpfklcaaQa
import Derived.Shelf.Strings.Builder1
import Derived.Shelf.Abstract
import Derived.Deep.RegionHeld3
import Derived.Deep.AppendLies

namespace Go.Proofs.Ytdnmpndnpfklcaa
open Go.RowKit Go Go.Maps
theorem laidOut:laidOutB Try.prog = true:=by kernel_rfl
theorem pairLaw_any {P:Program} {t e:TypeId} (ht:P.underlying t = some (.array 2 e)) (hl:laidOutB P = true) (hrow:t < P.types.size) (hk:P.keyTypeAt 2 t = true):WideMaps.KeyLaw P t:=deep_law_laid hl (m:=2) (by omega) hrow hk (by rw [ht])
theorem pairLaw:Keyed Try.prog 126:=Keyed.of_law (pairLaw_any Try.underlying126 laidOut (of_decide_eq_true (by kernel_rfl)) (by kernel_rfl))
theorem pairCells:Try.prog.cellsOf 126 = 2:=by kernel_rfl
theorem intCells:Try.prog.cellsOf 3 = 1:=by kernel_rfl
def kP (p:Int × Int):Value:=.agg #[.int .i64 p.1,.int .i64 p.2]
theorem kP_inj {p q:Int × Int} (h:kP p = kP q):p = q:=by
 unfold kP at h
 injection h with h
 simp at h
 exact Prod.ext h.1 h.2
theorem pairKey_any {P:Program} {t e:TypeId} (ht:P.underlying t = some (.array 2 e)) (he:P.underlying e = some (.int .i64)) (hc:P.cellsOf t = 2) (hce:P.cellsOf e = 1) (hk:P.keyTypeAt (P.types.size + 1) t = true) (w:World) (x y:Int) (hx:(Lit.int .i64 x).wf = true) (hy:(Lit.int .i64 y).wf = true):∃ kl,keyOf P t (kP (x,y)) = some kl:=by
 have hd:DataW.Trod (H:=Unit) (fun _=>()) P w 0 (fun _=>true) true t (kP (x,y)) (.agg [.lit (.int .i64 x),.lit (.int .i64 y)]) []:=by
  refine ⟨2,?_⟩
  simp [DataW.trod,kP,Value.cells,ht,he,hc,hce,hx,hy,List.range,List.range.loop]
 exact ⟨_,(keyOf_asKey hk (by rw [ht]) (by simp [Value.formed,kP,ht,hc]) hd).1⟩
set_option maxRecDepth 100000 in
theorem pairKey (w:World) (x y:Int) (hx:(Lit.int .i64 x).wf = true) (hy:(Lit.int .i64 y).wf = true):∃ kl,keyOf Try.prog 126 (kP (x,y)) = some kl :=
 pairKey_any Try.underlying126 Try.underlying3 pairCells intCells (by kernel_rfl) w x y hx hy
def TabE (w:World) (b n:Nat) (l:List Ed):Prop:=TabI Try.prog 126 3 kP w b n (fun p=>lkE p.1 p.2 l)
end Go.Proofs.Ytdnmpndnpfklcaa
/- Walks: product.open. -/
namespace Go.Proofs.Ytdnmpndnpfklcaa
open Go.RowKit Go Go.Maps
def MapsR (w:World) (B:Nat) (gl:List Nat) (l:List Aut):Prop:=gl.length = l.length∧∀ (j b:Nat) (a:Aut),gl[j]? = some b → l[j]? = some a → B ≤ b∧∃ m,TabE w b m a.ed
theorem own_shape {w:World} {base:Nat} {e:TypeId} {size n:Nat} {v:Value} {xs:List Value} (h:w.ownsRow base e size v n xs):∃ A c,v = .slice A n c:=by
 rcases h.2 with ⟨rfl,rfl⟩ | ⟨g,cap,cur,rfl,_⟩
 ·exact ⟨_,_,rfl⟩
 ·exact ⟨_,_,rfl⟩
theorem own_cap' {w:World} {base:Nat} {e:TypeId} {size n cap:Nat} {A:Option Addr} {xs:List Value} (h:w.ownsRow base e size (.slice A n cap) n xs):n ≤ cap∧cap ≤ 9223372036854775807:=by
 rcases h.2 with ⟨h',h0⟩ | ⟨g',cap',cur,h',_,_,hnc,hcm,_⟩
 ·injection h' with _ _ h'
  subst h' h0;exact ⟨Nat.le_refl _,by omega⟩
 ·injection h' with _ _ h'
  subst h'
  exact ⟨hnc,by simpa [maxLen] using hcm⟩
theorem MapsR.kept {w w':World} {B r:Nat} {gl:List Nat} {l:List Aut} (h:MapsR w B gl l) (hg:w.grownBy w' (some r)) (hr:r < B):MapsR w' B gl l:=⟨h.1,fun j b a hb ha=>by
 obtain ⟨h1,m,h2⟩:=h.2 j b a hb ha
 exact ⟨h1,m,TabI.kept h2 hg (fun e=>by injection e with e;omega)⟩⟩
theorem own_kept_low {w w':World} {base r:Nat} {e:TypeId} {size n:Nat} {v:Value} {xs:List Value} (h:w.ownsRow base e size v n xs) (hg:w.grownBy w' (some r)) (hb:r < base):w'.ownsRow base e size v n xs:=by
 refine h.kept hg ?_
 cases hv:v.ownBlock with
 | none=>exact .inl rfl
 | some g =>
  right
  have:=(h.lt g hv).1
  intro e;injection e with e;omega
end Go.Proofs.Ytdnmpndnpfklcaa
/- Walks: alphabet.Intersect, Minus, Subset, CheckSet; controllable.steps. -/
namespace Go.Proofs.Ytdnmpndnpfklcaa
open Go.RowKit Go Go.Maps
set_option maxHeartbeats 400000 in
theorem alphabet_CheckSet (A:Option Addr) (c:Nat) (l:List Int) (n:Int) (w:World) (h:RdI w w.heap.size A l) (hlc:l.length ≤ c) (hc:c ≤ 9223372036854775807) :
  Calls Try.prog 51 #[.slice A l.length c,.int .i64 n] w fun e w'=>e = .returned (.int .i64 (setErr l n))∧w = w':=by
 go_enter Try.func51,Try.ntmps51
 go_wp2
 go_loop [9] (fun i=>∃ k:Nat,k ≤ l.length∧i = .int .i64 k∧Hid (setErr l n = setErrG n (l.take k).getLast? (l.drop k))) (fun i=>l.length - (intOf i).toNat)
 case atStart=>exact ⟨0,Nat.zero_le _,rfl,Lib.hid rfl⟩
 case round =>
  obtain ⟨k,hk,rfl,HX⟩:=hrel
  by_cases hlt:k < l.length
  ·obtain ⟨ad,y,rfl,hb,hy,hcell⟩:=h.at_ hlt
   have HY:=Lib.hid hy;clear hy
   by_cases h1:y < 0
   ·go_wp2
    go_ret
    exact ⟨ret_int (by rw [HX.out,setErrG_range HY.out (.inl h1)]),rfl⟩
   by_cases h2:n ≤ y
   ·go_wp2
    go_ret
    exact ⟨ret_int (by rw [HX.out,setErrG_range HY.out (.inr h2)]),rfl⟩
   have e1:decide (y < 0) = false:=by simpa using h1
   have e2:decide (n ≤ y) = false:=by simpa using h2
   cases k with
   | zero =>
    have hcell':=cell_zero hcell
    go_wp2
    go_round
    case rel=>exact ⟨1,by omega,by go_num,Lib.hid (by rw [HX.out,take_snoc' HY.out,List.getLast?_concat];exact setErrG_first HY.out (by omega))⟩
    case measure=>simp [intOf];omega
   | succ j =>
    obtain ⟨ad',q,e,_,hq,hcq⟩:=h.at_ (k:=j) (by omega)
    obtain rfl:ad = ad':=by injection e
    have hcell':=cell_succ hcell
    have HQ:=Lib.hid hq;clear hq
    by_cases h3:y ≤ q
    ·go_wp2
     go_ret
     exact ⟨ret_int (by rw [HX.out,take_snoc' HQ.out,List.getLast?_concat,setErrG_order HY.out (by omega) h3]),rfl⟩
    ·go_wp2
     go_round
     case rel=>exact ⟨j + 1 + 1,by omega,by go_num,Lib.hid (by rw [HX.out,take_snoc' HQ.out,List.getLast?_concat,setErrG_next HY.out (by omega) (by omega),take_snoc' HY.out,List.getLast?_concat])⟩
     case measure=>simp [intOf];omega
  ·go_wp2
   go_ret
   exact ⟨ret_int (by rw [HX.out,setErrG_end hlt]),rfl⟩
theorem alphabet_CheckSet_n (A:Option Addr) (c n:Nat) (l:List Int) (m r:Int) (w:World) (hl:l.length = n) (hr:setErr l m = r) (h:RdI w w.heap.size A l) (hlc:n ≤ c) (hc:c ≤ 9223372036854775807) :
  Calls Try.prog 51 #[.slice A n c,.int .i64 m] w fun e w'=>e = .returned (.int .i64 r)∧w = w':=by
 subst hl hr;exact alphabet_CheckSet A c l m w h hlc hc
end Go.Proofs.Ytdnmpndnpfklcaa
/- Walks: the machine's initial tuple, its marked tuples. -/
namespace Go.Proofs.Ytdnmpndnpfklcaa
open Go.RowKit Go Go.Maps
end Go.Proofs.Ytdnmpndnpfklcaa
namespace Go.Proofs.Ytdnmpndnpfklcaa
open Go.RowKit Go Go.Maps
def bvl (N:List Bool):List Value:=N.map Value.bool
theorem bvl_length (N:List Bool):(bvl N).length = N.length:=by simp [bvl]
theorem bvl_get (N:List Bool) (k:Nat):(bvl N)[k]? = N[k]?.map Value.bool:=by simp [bvl]
theorem bvl_set (N:List Bool) (k:Nat) (q:Bool):(bvl N).set k (.bool q) = bvl (N.set k q):=by simp [bvl,List.map_set]
theorem bool_info:(Try.prog.info? 4).map (fun i=>(i.zero,i.size,i.bytes)) = some (some (.bool false),1,1):=by kernel_rfl
theorem made_bools (n:Nat):madeCells #[.bool false] n = (bvl (List.replicate n false)).toArray:=by
 apply Array.ext
 ·simp [madeCells,bvl]
 ·intro i h1 h2
  simp [madeCells,bvl,Nat.mod_one]
end Go.Proofs.Ytdnmpndnpfklcaa
/- Walks: the machine's step. -/
namespace Go.Proofs.Ytdnmpndnpfklcaa
open Go.RowKit Go Go.Maps
theorem iv_set (l:List Int) (k:Nat) (y:Int):(iv l).set k (.int .i64 y) = iv (l.set k y):=by
 unfold iv;rw [List.map_set]
end Go.Proofs.Ytdnmpndnpfklcaa
/- Walks: strings.Builder at this dump; the key of a tuple. -/
namespace Go.Proofs.Ytdnmpndnpfklcaa
open Go.RowKit Go Go.Maps
end Go.Proofs.Ytdnmpndnpfklcaa
/- Walks: the key of a tuple. -/
namespace Go.Proofs.Ytdnmpndnpfklcaa
open Go.RowKit Go Go.Maps
end Go.Proofs.Ytdnmpndnpfklcaa
/- The state of product.Synchronous as it stands in memory; what each of its steps leaves of it. -/
namespace Go.Proofs.Ytdnmpndnpfklcaa
open Go.RowKit Go Go.Maps
theorem edge_info:(Try.prog.info? 67).map (fun i=>(i.zero,i.size,i.bytes)) = some (some (.agg #[.int .i64 0,.int .i64 0,.int .i64 0]),3,24):=by kernel_rfl
theorem own_ne {w:World} {base base':Nat} {e e':TypeId} {size size' n n':Nat} {v v':Value} {xs xs':List Value} (h:w.ownsRow base e size v n xs) (h':w.ownsRow base' e' size' v' n' xs') (hne:e ≠ e'):v.ownBlock = none ∨ v.ownBlock ≠ v'.ownBlock:=by
 rcases h.2 with ⟨rfl,_⟩ | ⟨g,cap,cur,rfl,_,hg,_⟩
 ·exact .inl rfl
 ·right
  rcases h'.2 with ⟨rfl,_⟩ | ⟨g',cap',cur',rfl,_,hg',_⟩
  ·simp [Value.ownBlock]
  ·intro e0
   simp only [Value.ownBlock,Option.some.injEq] at e0
   subst e0
   rw [hg] at hg'
   injection hg' with hg'
   injection hg' with _ h2 _
   exact hne h2
theorem own_kept_ne {w w':World} {base base':Nat} {e e':TypeId} {size size' n n':Nat} {v v':Value} {xs xs':List Value} (h:w.ownsRow base e size v n xs) (h':w.ownsRow base' e' size' v' n' xs') (hne:e ≠ e') (hg:w.grownBy w' v'.ownBlock):w'.ownsRow base e size v n xs:=h.kept hg (own_ne h h' hne)
theorem own_lt_ne {w:World} {base r:Nat} {e:TypeId} {size n:Nat} {v:Value} {xs:List Value} (h:w.ownsRow base e size v n xs) (hr:r < base):some r ≠ v.ownBlock:=fun e0=>by have:=(h.lt r e0.symm).1;omega
structure Cst where
 ra:Nat
 mb:Nat
 mp:Nat
 L:Option Addr
 n:Nat
 c:Nat
 V:Option Addr
 nv:Nat
 cv:Nat
 G:Option Addr
 cg:Nat
 xs:List AV
end Go.Proofs.Ytdnmpndnpfklcaa

/- Walks: the reference's Check of an automaton and of a list; ref01.Contains, ref03.has, ref03.List. -/
namespace Go.Proofs.Ytdnmpndnpfklcaa
open Go.RowKit Go
end Go.Proofs.Ytdnmpndnpfklcaa
/- Walks: ref03.Step, ref06.Next, ref03.index, ref03.Empty; the statements' Set.Events. -/
namespace Go.Proofs.Ytdnmpndnpfklcaa
open Go.RowKit Go
structure AutO (w:World) (base:Nat) (A:Option Addr) (na ca:Nat) (M:Option Addr) (nm cm:Nat) (E:Option Addr) (ne ce:Nat) (a:Aut):Prop where
 la:a.al.length = na
 oa:w.ownsRow base 3 1 (.slice A na ca) na (iv a.al)
 lm:a.ma.length = nm
 om:w.ownsRow base 3 1 (.slice M nm cm) nm (iv a.ma)
 le:a.ed.length = ne
 oe:w.ownsRow base 67 3 (.slice E ne ce) ne (a.ed.flatMap edc)
section
variable {w w':World} {b0 b1:Nat} {A M E:Option Addr} {na ca nm cm ne ce:Nat} {a:Aut}
theorem AutO.rd (h:AutO w b0 A na ca M nm cm E ne ce a):AutR w w.heap.size A na ca M nm cm E ne ce a :=
 ⟨h.la,(own_cap' h.oa).1,(own_cap' h.oa).2,RdI.of_own h.oa,h.lm,(own_cap' h.om).1,(own_cap' h.om).2,RdI.of_own h.om,h.le,(own_cap' h.oe).1,(own_cap' h.oe).2,RdR.of_own (by omega) (fun _ _=>rfl) h.oe⟩
theorem AutO.below (h:AutO w b0 A na ca M nm cm E ne ce a) (hb:Below w.heap.size w w'):AutO w' b0 A na ca M nm cm E ne ce a :=
 ⟨h.la,own_below h.oa hb,h.lm,own_below h.om hb,h.le,own_below h.oe hb⟩
theorem AutO.down (h:AutO w b1 A na ca M nm cm E ne ce a) (hB:b0 ≤ b1):AutO w b0 A na ca M nm cm E ne ce a :=
 ⟨h.la,own_base h.oa hB,h.lm,own_base h.om hB,h.le,own_base h.oe hB⟩
theorem AutO.low (h:AutO w b0 A na ca M nm cm E ne ce a) {r:Nat} (hg:w.grownBy w' (some r)) (hr:r < b0):AutO w' b0 A na ca M nm cm E ne ce a :=
 ⟨h.la,own_kept_low h.oa hg hr,h.lm,own_kept_low h.om hg hr,h.le,own_kept_low h.oe hg hr⟩
end
theorem and_one_u8 {y:Int} (h0:0 ≤ y) (h1:y ≤ 255):(bits BinOp.and IntKind.u8 y 1 == 1) = (y % 2 == 1):=by
 rw [u8_and y 1 h0 (by omega) (by omega) (by omega)]
 have e:(y.toNat &&& (1:Int).toNat:Nat) = y.toNat % 2:=Nat.and_one_is_mod _
 rw [e,Bool.eq_iff_iff,beq_iff_eq,beq_iff_eq]
 omega
theorem bit_u8 {x:Int} {k:Nat} {b:Bool} (hb:bitB x k = b) (h0:0 ≤ x) (h1:x ≤ 255):(bits BinOp.and IntKind.u8 (x / 2 ^ k) 1 == 1) = b:=by
 have p:(0:Int) < 2 ^ k:=Int.pow_pos (by omega)
 have h2:0 ≤ x / 2 ^ k:=Int.ediv_nonneg h0 (by omega)
 have h3:x / 2 ^ k ≤ x:=Int.ediv_le_self _ h0
 rw [and_one_u8 h2 (by omega)];exact hb
end Go.Proofs.Ytdnmpndnpfklcaa
/- Walks: ref03.Found. -/
namespace Go.Proofs.Ytdnmpndnpfklcaa
open Go.RowKit Go
end Go.Proofs.Ytdnmpndnpfklcaa
/- An automaton under construction in a block of its own; the walk of ref03.Canonical. -/
namespace Go.Proofs.Ytdnmpndnpfklcaa
open Go.RowKit Go
structure Bld (w0 w:World) (v0 v1 mv ev:Value) (km ke:Nat) (mk:List Int) (es:List Ed):Prop where
 bel:Below w0.heap.size w0 w
 blk:Blk w w0.heap.size 32 [v0,v1,mv,ev]
 mrk:w.ownsRow (w0.heap.size + 1) 3 1 mv km (iv mk)
 mkl:mk.length = km
 edg:w.ownsRow (w0.heap.size + 1) 67 3 ev ke (es.flatMap edc)
 edl:es.length = ke
theorem below_dr (w:World):Below w.heap.size w w.drew:=⟨rfl,rfl,rfl,Nat.le_refl _,fun _ _=>rfl⟩
section
variable {w0 w w':World} {v0 v1 mv ev:Value} {km ke:Nat} {mk:List Int} {es:List Ed}
theorem Bld.start (w0:World) (v0 v1:Value):Bld w0 (w0.alloc (.cells #[v0,v1,.slice none 0 0,.slice none 0 0] 32)) v0 v1 (.slice none 0 0) (.slice none 0 0) 0 0 [] [] :=
 ⟨box_below _ _,Blk.new _ _ _,World.ownsRow_nil _ _ _ _,rfl,World.ownsRow_nil _ _ _ _,rfl⟩
theorem Bld.lt (h:Bld w0 w v0 v1 mv ev km ke mk es):w0.heap.size < w.heap.size:=h.blk.lt
theorem Bld.mark (h:Bld w0 w v0 v1 mv ev km ke mk es) {A:Option Addr} {c:Nat} {i:Int} (ho:w'.ownsRow (w0.heap.size + 1) 3 1 (.slice A (km + 1) c) (km + 1) (iv mk ++ [.int .i64 i])) (hg:w.grownBy w' mv.ownBlock) :
  Bld w0 (w'.setCell ⟨w0.heap.size,2,none⟩ (.slice A (km + 1) c)) v0 v1 (.slice A (km + 1) c) ev (km + 1) ke (mk ++ [i]) es:=by
 have r1:w0.heap.size < w0.heap.size + 1:=Nat.lt_succ_self _
 have hs:=grown_setCell w' w0.heap.size 2 (.slice A (km + 1) c)
 have hbl:=h.blk.kept hg (own_lt_ne h.mrk r1)
 exact ⟨(h.bel.grown hg (Nat.le_of_lt h.lt) (fun j hj=>by have:=(h.mrk.lt j hj).1;omega)).setCell (Nat.le_refl _) _,hbl.set (by simp) _,own_kept_low (by rw [iv_append];exact ho) hs r1,by simp [h.mkl],own_kept_low (own_kept_ne h.edg h.mrk (by decide) hg) hs r1,h.edl⟩
theorem Bld.edge (h:Bld w0 w v0 v1 mv ev km ke mk es) {A:Option Addr} {c:Nat} {x:Ed} (ho:w'.ownsRow (w0.heap.size + 1) 67 3 (.slice A (ke + 1) c) (ke + 1) (es.flatMap edc ++ edc x)) (hg:w.grownBy w' ev.ownBlock) :
  Bld w0 (w'.setCell ⟨w0.heap.size,3,none⟩ (.slice A (ke + 1) c)) v0 v1 mv (.slice A (ke + 1) c) km (ke + 1) mk (es ++ [x]):=by
 have r1:w0.heap.size < w0.heap.size + 1:=Nat.lt_succ_self _
 have hs:=grown_setCell w' w0.heap.size 3 (.slice A (ke + 1) c)
 have hbl:=h.blk.kept hg (own_lt_ne h.edg r1)
 exact ⟨(h.bel.grown hg (Nat.le_of_lt h.lt) (fun j hj=>by have:=(h.edg.lt j hj).1;omega)).setCell (Nat.le_refl _) _,hbl.set (by simp) _,own_kept_low (own_kept_ne h.mrk h.edg (by decide) hg) hs r1,h.mkl,own_kept_low (by simpa using ho) hs r1,by simp [h.edl]⟩
theorem Bld.fin {V M E:Option Addr} {nv cv cm ce:Nat} {st:Int} {al:List Int} {b:Nat} (h:Bld w0 w (.slice V nv cv) v1 (.slice M km cm) (.slice E ke ce) km ke mk es) (hv:al.length = nv) (ho:w0.ownsRow b 3 1 (.slice V nv cv) nv (iv al)) (hb:b ≤ w0.heap.size + 1) :
  AutO w b V nv cv M km cm E ke ce ⟨al,st,mk,es⟩ :=
 ⟨hv,own_below ho h.bel,h.mkl,own_base h.mrk hb,h.edl,own_base h.edg hb⟩
end
theorem step_pushN {P:Program} (w:World) (us:List Value) {ops:Array Oper} {o:Oper} {a:Act} {K:Act → World → Prop} {Q:Exit → Act → World → Prop} {E:Prop} (hgd:o.guard = none) (s x:Operand) (t:TypeId)
  (ho:o.op = .call { callee:=.builtin .append,args:=#[s,x],argTypes:=#[t,t] })
  (base:Nat) (e:TypeId) (z:Value) (size bytes:Nat) (ht:P.underlying t = some (.slice e)) (hinfo:(P.info? e).map (fun i=>(i.zero,i.size,i.bytes)) = some (some z,size,bytes))
  (hz1:z.cells.size = size) (hsz:0 < size) (hus:us.length = size) (v:Value) (n:Nat) (xs:List Value) (hs:a.eval s = v) (hown:w.ownsRow base e size v n xs)
  (hx:a.eval x = .slice (some ⟨w.heap.size,0,none⟩) 1 1) (h1:∀ u ∈ us,u.oneCell' = true) (hbytes:(n + 1) * bytes ≤ 140737488355328) (hn:n + 1 ≤ 9223372036854775807) (hbase:base ≤ w.heap.size)
  (h:∀ A c w',w'.ownsRow base e size (.slice A (n + 1) c) (n + 1) (xs ++ us) → w.grownBy w' v.ownBlock → K (a.put o.dst (.slice A (n + 1) c)) w') :
  if Region.wanted o (yielded ops a.tmps) = true then Oper.wp P o a (w.alloc (.cells us.toArray e)) K Q else E:=by
 obtain ⟨i,hi,hz,hs1,hby⟩:=info_parts hinfo
 refine step_append_lies (w.alloc (.cells us.toArray e)) hgd s x t ho base e i z size bytes ht hi hz hs1 hby hz1 hsz v n xs hs (hown.alloc _) ⟨w.heap.size,0,none⟩ 1 1 us hx (by rw [hus,Nat.one_mul]) ?_ h1 (by omega) (by unfold maxLen;omega) hbytes (by simp;omega) _ rfl ?_
 ·intro j y hj
  rw [add_lit0,cell_of_row _ _ _ _ e (0,0) (heap_alloc_new w _)]
  simpa using hj
 ·intro g cap w' ho' hg _ _
  have hg':w.grownBy w' v.ownBlock:=⟨hg.os,hg.tape,hg.output,Nat.le_trans (by simp) hg.size,fun k hk hne=>(hg.block k (by simp;omega) hne).trans (Below.heap_alloc w _ k hk)⟩
  exact h _ cap w' ho' hg'
end Go.Proofs.Ytdnmpndnpfklcaa
