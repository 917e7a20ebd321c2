/-
 DERIVED: THE SHELF's CONTRACTS AT THIS DUMP, IN PLAIN WORDS (tools/lay-plain.mjs out of 'YtdnmpndnpfklcaaShelf.lean', which tools/lay-shelf.mjs wrote): THE SAME DECLARATIONS UNDER THE SAME NAMES: 'import', 'namespace', 'open', 'def', 'theorem' AND NOTHING ELSE: no command of the shelf's: FOR A HAND-IN. Each laying: the table of numbers ('.._ren') and one theorem, a field a fact of the dump's own or the kernel's comparison; each contract: ONE APPLICATION.
-/
import Derived.Ground.SlsfProg
import Derived.Shelf.SlSortCmp.WholeK
import Derived.Test.YtdnmpndnpfklcaaProg
import Derived.Test.YtdnmpndnpfklcaaXe
import Derived.Shelf.SlSortCmp.NoneTotal
import Derived.Shelf.GgSortFunc.RowK
import Derived.Test.YtdnmpndnpfklcaaUk

namespace Go.Proofs
open Go.Shelf
def Try.laysSlF06_f44_ren:Go.Shelf.Ren:=⟨fun | 6=>44 | 15=>82 | 14=>81 | 28=>109 | 29=>110 | 20=>101 | 21=>102 | 22=>103 | 23=>104 | 24=>105 | 25=>106 | 26=>107 | 27=>108 | 46=>119 | 47=>120 | 48=>121 | 49=>122 | 50=>123 | 57=>125 | n=>n,fun | 22=>36 | 24=>63 | 25=>94 | 3=>3 | 39=>136 | 0=>0 | 53=>172 | 55=>174 | 4=>4 | 46=>166 | 45=>165 | 50=>108 | 5=>5 | 9=>9 | 66=>180 | 70=>184 | 76=>190 | 77=>191 | n=>n,fun | n=>n⟩
theorem Try.laysSlF06_f44:Go.Proofs.SlLaysF0.n6 Try.prog Try.laysSlF06_f44_ren:={
 mixed:=by kernel_rfl
 f6:=⟨Try.f44.name,by decide,Try.func44.trans (congrArg some (by kernel_rfl))⟩
 f14:=⟨Try.f81.name,by decide,Try.func81.trans (congrArg some (by kernel_rfl))⟩
 f15:=Try.func82.trans (congrArg some (by kernel_rfl))
 f20:=⟨Try.f101.name,by decide,Try.func101.trans (congrArg some (by kernel_rfl))⟩
 f21:=⟨Try.f102.name,by decide,Try.func102.trans (congrArg some (by kernel_rfl))⟩
 f22:=⟨Try.f103.name,by decide,Try.func103.trans (congrArg some (by kernel_rfl))⟩
 f23:=⟨Try.f104.name,by decide,Try.func104.trans (congrArg some (by kernel_rfl))⟩
 f24:=⟨Try.f105.name,by decide,Try.func105.trans (congrArg some (by kernel_rfl))⟩
 f25:=⟨Try.f106.name,by decide,Try.func106.trans (congrArg some (by kernel_rfl))⟩
 f26:=⟨Try.f107.name,by decide,Try.func107.trans (congrArg some (by kernel_rfl))⟩
 f27:=⟨Try.f108.name,by decide,Try.func108.trans (congrArg some (by kernel_rfl))⟩
 f28:=Try.func109.trans (congrArg some (by kernel_rfl))
 f29:=Try.func110.trans (congrArg some (by kernel_rfl))
 f46:=⟨Try.f119.name,by decide,Try.func119.trans (congrArg some (by kernel_rfl))⟩
 f47:=Try.func120.trans (congrArg some (by kernel_rfl))
 f48:=Try.func121.trans (congrArg some (by kernel_rfl))
 f49:=⟨Try.f122.name,by decide,Try.func122.trans (congrArg some (by kernel_rfl))⟩
 f50:=⟨Try.f123.name,by decide,Try.func123.trans (congrArg some (by kernel_rfl))⟩
 f57:=⟨Try.f125.name,by decide,Try.func125.trans (congrArg some (by kernel_rfl))⟩
 t0:=Try.underlying0
 a0:=Try.isAgg0
 z0:=Try.sizeOf0
 v0:=Try.zeroValue0
 t3:=Try.underlying3
 a3:=Try.isAgg3
 z3:=Try.sizeOf3
 v3:=Try.zeroValue3
 t4:=Try.underlying4
 a4:=Try.isAgg4
 z4:=Try.sizeOf4
 v4:=Try.zeroValue4
 t5:=Try.underlying5
 a5:=Try.isAgg5
 z5:=Try.sizeOf5
 v5:=Try.zeroValue5
 t9:=Try.underlying9
 a9:=Try.isAgg9
 z9:=Try.sizeOf9
 v9:=Try.zeroValue9
 t22:=Try.underlying36
 a22:=Try.isAgg36
 z22:=Try.sizeOf36
 v22:=Try.zeroValue36
 t25:=Try.underlying94
 a25:=Try.isAgg94
 z25:=Try.sizeOf94
 v25:=Try.zeroValue94
 t39:=Try.underlying136
 a39:=Try.isAgg136
 z39:=Try.sizeOf136
 v39:=Try.zeroValue136
 t45:=Try.underlying165
 a45:=Try.isAgg165
 z45:=Try.sizeOf165
 v45:=Try.zeroValue165
 t46:=Try.underlying166
 a46:=Try.isAgg166
 z46:=Try.sizeOf166
 v46:=Try.zeroValue166
 t50:=Try.underlying108
 a50:=Try.isAgg108
 z50:=Try.sizeOf108
 v50:=Try.zeroValue108
 t53:=Try.underlying172
 a53:=Try.isAgg172
 z53:=Try.sizeOf172
 v53:=Try.zeroValue172
 t55:=Try.underlying174
 a55:=Try.isAgg174
 z55:=Try.sizeOf174
 v55:=Try.zeroValue174
 t66:=Try.underlying180
 a66:=Try.isAgg180
 z66:=Try.sizeOf180
 v66:=Try.zeroValue180
 t70:=Try.underlying184
 a70:=Try.isAgg184
 z70:=Try.sizeOf184
 v70:=Try.zeroValue184
 t76:=Try.underlying190
 a76:=Try.isAgg190
 z76:=Try.sizeOf190
 v76:=Try.zeroValue190
 t77:=Try.underlying191
 a77:=Try.isAgg191
 z77:=Try.sizeOf191
 v77:=Try.zeroValue191 }
open Go.RowKit Go.Lib Go.Sort in
theorem Try.slices_SortFunc {α:Type} [Inhabited α] (k:Nat) (aE:∀ w,(isAgg (Try.laysSlF06_f44_ren.t 24)).run Try.prog w = .ok true w) (zE:∀ w,(Go.sizeOf (Try.laysSlF06_f44_ren.t 24)).run Try.prog w = .ok k w) (enc:α → List Value) (hk:∀ x,(enc x).length = k) (h1:∀ x,∀ v ∈ enc x,v.oneCell' = true) (cf:α → α → Int) (hO:SWO (ltOf cf)) (g:Nat) (cb:Array Value) (blk off cap:Nat) (d:Array α) (w:World) (eg:∀ args w,(callFunc g args).run Try.prog w = .ok (.enter g args) w) (hcmp:CmpLays Try.prog g cb enc k cf blk off d.size w) (hH:HoldsK enc k w blk off d) (hblk:blk < w.heap.size) (hsz:d.size < 4611686018427387904) :
  Calls Try.prog 44 #[.slice (some ⟨blk,off,none⟩) d.size cap,.func (.func g) #[] cb] w fun e w' =>
   e = .returned (.tuple #[])∧∃ d' n os,PermIn 0 d.size d d'∧SortedIn (ltOf cf) 0 d.size d'∧w' = sortWorldK enc k w blk off n d' os:=AnyQ.slices_SortFunc Try.laysSlF06_f44 k aE zE enc hk h1 cf hO g cb blk off cap d w eg hcmp hH hblk hsz
end Go.Proofs
/- The library's sort at removals; Prove's comparison. -/
namespace Go.Proofs.Ytdnmpndnpfklcaa
open Go.RowKit Go Go.Maps
theorem flatK_list {α:Type} [Inhabited α] (f:α → List Value) (k:Nat) (hk:∀ x,(f x).length = k) (l:List α):Sort.flatK f k l.toArray = (l.flatMap f).toArray:=by
 refine Sort.ext_get! (by rw [Sort.size_flatK];simp [flat_len f k l (fun y _=>hk y)]) fun t ht=>?_
 rw [Sort.size_flatK] at ht
 have ht':t < l.length * k:=by simpa using ht
 rw [Sort.get_flatK _ _ _ _ ht]
 have k0:0 < k:=by
  rcases Nat.eq_zero_or_pos k with h | h
  ·subst h;simp at ht'
  ·exact h
 have h1:t / k < l.length:=Nat.div_lt_of_lt_mul (by rw [Nat.mul_comm];exact ht')
 have h2:t % k < (f (l[t / k]'h1)).length:=by rw [hk];exact Nat.mod_lt _ k0
 have h3:=flat_get f k l (fun y _=>hk y) (t / k) _ (t % k) _ (List.getElem?_eq_getElem h1) (List.getElem?_eq_getElem h2)
 rw [show t / k * k + t % k = t by rw [Nat.mul_comm];exact Nat.div_add_mod t k] at h3
 have e1:(l.toArray[t / k]!) = l[t / k]'h1:=by rw [getElem!_pos l.toArray (t / k) (by simpa using h1)];simp
 obtain ⟨h4,h5⟩:=List.getElem?_eq_some_iff.1 h3
 rw [e1]
 have e2:(f (l[t / k]'h1))[t % k]! = (f (l[t / k]'h1))[t % k]'h2:=getElem!_pos (f (l[t / k]'h1)) (t % k) h2
 have e3:(l.flatMap f).toArray[t]! = (l.flatMap f)[t]'h4:=by rw [getElem!_pos (l.flatMap f).toArray t (by simpa using h4)];simp
 rw [e2,e3,h5]
theorem holdsK_own {α:Type} [Inhabited α] (f:α → List Value) (k:Nat) (hk:∀ x,(f x).length = k) {w:World} {base n cap g:Nat} {e:TypeId} {l:List α} (h:w.ownsRow base e k (.slice (some ⟨g,0,none⟩) n cap) n (l.flatMap f)):Sort.HoldsK f k w g 0 l.toArray:=by
 unfold Sort.HoldsK
 rw [flatK_list f k hk]
 have hfl:=flat_len f k l (fun y _=>hk y)
 have h0:=h.1
 rcases h.2 with ⟨e0,_⟩ | ⟨g',cap',cur,e0,hb,hg,hn,hm,hs,ht⟩
 ·cases e0
 ·injection e0 with e1 _ _
  injection e1 with e1
  injection e1 with e1
  subst e1
  intro j hj
  have hj':j < n * k:=by rw [← h0];simpa using hj
  have hjs:j < cur.size:=Nat.lt_of_lt_of_le hj' (by rw [hs];exact Nat.mul_le_mul_right k hn)
  refine ⟨?_,by simp [World.frozen?,hg]⟩
  have e1:(cur.toList.take (n * k))[j]? = (l.flatMap f)[j]?:=by rw [ht]
  rw [List.getElem?_take,if_pos hj',Array.getElem?_toList] at e1
  simp only [World.cell?,hg,Nat.zero_add]
  simp only [Option.isSome_none,Bool.false_eq_true,if_false]
  have hjl:j < (l.flatMap f).length:=by rw [h0];exact hj'
  have e3:(l.flatMap f).toArray[j]! = (l.flatMap f)[j]'hjl:=by rw [getElem!_pos (l.flatMap f).toArray j (by simpa using hjl)];simp
  rw [e1,List.getElem?_eq_getElem hjl,e3]
  rfl
theorem own_putFlat {w:World} {base k g n cap q:Nat} {e:TypeId} {xs ys:List Value} (h:w.ownsRow base e k (.slice (some ⟨g,0,none⟩) n cap) n xs) (hy:ys.length = n * k) :
  (Sort.putRow id (Sort.ahead w q) g 0 ys.toArray).ownsRow base e k (.slice (some ⟨g,0,none⟩) n cap) n ys∧w.grownBy (Sort.putRow id (Sort.ahead w q) g 0 ys.toArray) (some g):=by
 refine ⟨?_,⟨rfl,rfl,rfl,by simp [Sort.putRow,Sort.mapBlock,Sort.ahead],fun j hj hne=>by
  have hgj:g ≠ j:=fun e=>hne (by rw [e])
  simp [Sort.putRow,Sort.mapBlock,Sort.ahead,Array.getElem?_modify,hgj]⟩⟩
 rcases h.2 with ⟨e0,_⟩ | ⟨g',cap',cur,e0,hb,hg,hn,hm,hs,ht⟩
 ·cases e0
 ·injection e0 with e1 _ e3
  injection e1 with e1
  injection e1 with e1
  subst e1;subst e3
  have hks:n * k ≤ cur.size:=by rw [hs];exact Nat.mul_le_mul_right k hn
  refine ⟨hy,.inr ⟨g,cap,Sort.putCells id 0 ys.toArray cur,rfl,hb,?_,hn,hm,by simpa [Sort.putCells] using hs,?_⟩⟩
  ·simp [Sort.putRow,Sort.mapBlock,Sort.ahead,Array.getElem?_modify,hg,Sort.onCells]
  ·apply List.ext_getElem?
   intro j
   rw [List.getElem?_take,Array.getElem?_toList]
   by_cases hj:j < n * k
   ·have hjc:j < cur.size:=by omega
    simp only [if_pos hj,Sort.putCells,Array.getElem?_mapIdx,Array.getElem?_eq_getElem hjc,Option.map_some]
    rw [if_pos (by simp;omega),List.getElem?_eq_getElem (by omega)]
    simp [getElem!_pos,show j < ys.length by omega]
   ·rw [if_neg hj,List.getElem?_eq_none (by omega)]
structure RmS where
 r:Rm
 ok:0 ≤ r.s∧r.s < 4096
instance:Inhabited RmS:=⟨⟨⟨0,0,0,0⟩,by decide⟩⟩
def rsc (x:RmS):List Value:=rmc x.r
def rscmp (x y:RmS):Int:=x.r.s - y.r.s
theorem rscmp_swo:Sort.SWO (Go.Proofs.ltOf rscmp) where
 irrefl x:=decide_eq_false (by unfold rscmp;omega)
 trans x y z h1 h2:=by
  have k1:rscmp x y < 0:=of_decide_eq_true h1
  have k2:rscmp y z < 0:=of_decide_eq_true h2
  unfold rscmp at k1 k2
  exact decide_eq_true (by unfold rscmp;omega)
 ntrans x y z h1 h2:=by
  have k1:¬ rscmp x y < 0:=of_decide_eq_false h1
  have k2:¬ rscmp y z < 0:=of_decide_eq_false h2
  unfold rscmp at k1 k2
  exact decide_eq_false (by unfold rscmp;omega)
theorem rs_list:∀ {R:List Rm},(∀ r ∈ R,0 ≤ r.s∧r.s < 4096) → ∃ es:List RmS,es.map RmS.r = R
 | [],_=>⟨[],rfl⟩
 | x :: r,h=>by
  obtain ⟨es,he⟩:=rs_list (R:=r) (fun s hs=>h s (List.mem_cons_of_mem _ hs))
  exact ⟨⟨x,h x (List.mem_cons_self ..)⟩ :: es,by rw [List.map_cons,he]⟩
theorem rs_sorted {d d':Array RmS} (hp:Sort.PermIn 0 d.size d d') (hs:Sort.SortedIn (Go.Proofs.ltOf rscmp) 0 d.size d') :
  d'.size = d.size∧d'.toList.Perm d.toList∧(d'.toList.map RmS.r).Pairwise (fun a b=>a.s ≤ b.s):=by
 obtain ⟨h1,_,h3⟩:=hp
 refine ⟨h1,?_,?_⟩
 ·have h4:(List.take d.size d'.toList).Perm d.toList:=by simpa using h3
  rwa [List.take_of_length_le (by rw [Array.length_toList,h1];exact Nat.le_refl _)] at h4
 ·rw [List.pairwise_map,List.pairwise_iff_getElem]
  intro i j hi hj hij
  have:=hs i j (Nat.zero_le _) hij (by rw [← h1];simpa using hj)
  rw [getElem!_pos d' i (by simpa using hi),getElem!_pos d' j (by simpa using hj)] at this
  have k:¬ rscmp d'[j] d'[i] < 0:=of_decide_eq_false this
  unfold rscmp at k
  show d'[i].r.s ≤ d'[j].r.s
  omega
theorem max_cmp (x y:RmS) (w:World) :
  Calls Try.prog 45 #[.agg (rsc x).toArray,.agg (rsc y).toArray] w fun e w'=>e = .returned (.int .i64 (rscmp x y))∧∃ os,w' = Sort.grow w os:=by
 have hw:IntKind.i64.wrap (x.r.s - y.r.s) = x.r.s - y.r.s:=IntWalk.i64_in _ (by have:=x.ok;have:=y.ok;omega)
 have HG:=Lib.hid (show (w.alloc (.cells #[.int .i64 x.r.s,.int .i64 x.r.k,.int .i64 x.r.r,.int .i64 x.r.e] 63)).alloc (.cells #[.int .i64 y.r.s,.int .i64 y.r.k,.int .i64 y.r.r,.int .i64 y.r.e] 63) = Sort.grow w #[.cells #[.int .i64 x.r.s,.int .i64 x.r.k,.int .i64 x.r.r,.int .i64 x.r.e] 63 (0,0),.cells #[.int .i64 y.r.s,.int .i64 y.r.k,.int .i64 y.r.r,.int .i64 y.r.e] 63 (0,0)] from by
  rw [Sort.alloc_eq_grow,Sort.alloc_eq_grow,Sort.grow_grow];rfl)
 unfold rsc rmc rscmp
 go_enter Try.func45,Try.ntmps45
 go_wp2
 go_ret
 exact ⟨rfl,_,HG.out⟩
def RetSrt (base n cap g:Nat) (R:List Rm) (w:World) (e:Ending) (w':World):Prop :=
 e = .returned (.tuple #[])∧∃ R':List Rm,R'.Perm R∧R'.Pairwise (fun a b=>a.s ≤ b.s)∧w'.ownsRow base 63 4 (.slice (some ⟨g,0,none⟩) n cap) n (R'.flatMap rmc)∧w.grownBy w' (some g)
theorem max_sort (base n cap g:Nat) (R:List Rm) (w:World) (hown:w.ownsRow base 63 4 (.slice (some ⟨g,0,none⟩) n cap) n (R.flatMap rmc)) (hl:R.length = n) (hr:∀ r ∈ R,0 ≤ r.s∧r.s < 4096) (hn:n ≤ 1000000) :
  Calls Try.prog 44 #[.slice (some ⟨g,0,none⟩) n cap,.func (.func 45) #[] #[]] w (RetSrt base n cap g R w):=by
 obtain ⟨es,he⟩:=rs_list hr
 have hlen:es.length = n:=by rw [← hl,← he,List.length_map]
 have hv:es.flatMap rsc = R.flatMap rmc:=by rw [← he,List.flatMap_map];rfl
 rw [← hv] at hown
 have hk:∀ x,(rsc x).length = 4:=fun _=>rfl
 have hH:=holdsK_own rsc 4 hk hown
 have hgl:=(hown.lt g rfl).2
 have hcmp:CmpLays Try.prog 45 #[] rsc 4 rscmp g 0 es.toArray.size w:=by
  intro m os dk _ x y
  exact (max_cmp x y _).mono fun e w' ⟨h1,os',h2⟩=>⟨h1,0,os',h2⟩
 have hsz:es.toArray.size = n:=by simpa using hlen
 have hcon:=Try.slices_SortFunc 4 (fun w=>by kernel_rfl) (fun w=>by kernel_rfl) rsc hk (fun x v hv=>rmc_one [x.r] v (by simpa [rsc] using hv)) rscmp rscmp_swo 45 #[] g 0 cap es.toArray w (enters_of Try.func45 (by kernel_rfl) rfl) hcmp hH hgl (by rw [hsz];omega)
 rw [hsz] at hcon
 refine hcon.mono fun e w' ⟨h1,d',q,os,hp,hs,hw⟩=>⟨h1,d'.toList.map RmS.r,?_,?_,?_⟩
 ·rw [← hsz] at hp hs
  obtain ⟨_,h3,_⟩:=rs_sorted hp hs
  rw [← he]
  exact h3.map _
 ·rw [← hsz] at hp hs
  exact (rs_sorted hp hs).2.2
 ·rw [← hsz] at hp
  have hl2:d'.toList.length = n:=by rw [Array.length_toList,hp.1,hsz]
  have hfk:Sort.flatK rsc 4 d' = (d'.toList.flatMap rsc).toArray:=by
   have:=flatK_list rsc 4 hk d'.toList
   simpa using this
  obtain ⟨q1,q2⟩:=own_putFlat (q:=q) (ys:=d'.toList.flatMap rsc) hown (by rw [flat_len rsc 4 _ (fun y _=>hk y),hl2])
  have hw2:w' = Sort.grow (Sort.putRow id (Sort.ahead w q) g 0 (d'.toList.flatMap rsc).toArray) os:=by rw [hw];unfold sortWorldK Sort.putRowK;rw [hfk]
  have hb:Below (Sort.putRow id (Sort.ahead w q) g 0 (d'.toList.flatMap rsc).toArray).heap.size (Sort.putRow id (Sort.ahead w q) g 0 (d'.toList.flatMap rsc).toArray) (Sort.grow (Sort.putRow id (Sort.ahead w q) g 0 (d'.toList.flatMap rsc).toArray) os):=⟨rfl,rfl,rfl,by simp [Sort.grow],fun k hk=>Sort.heap_grow_old _ _ hk⟩
  rw [hw2,show (d'.toList.map RmS.r).flatMap rmc = d'.toList.flatMap rsc by rw [List.flatMap_map];rfl]
  exact ⟨own_below q1 hb,q2.trans (grown_below hb _)⟩
theorem max_sort_nil (w:World) :
  Calls Try.prog 44 #[.slice none 0 0,.func (.func 45) #[] #[]] w fun e w'=>e = .returned (.tuple #[])∧w' = w :=
 AnyF.slices_SortFunc_none Try.laysSlF06_f44 none 0 _ w
end Go.Proofs.Ytdnmpndnpfklcaa

/- Certificates as values; walk: Prove's first half (up to its closures). -/
namespace Go.Proofs.Ytdnmpndnpfklcaa
open Go.RowKit Go Go.Maps
structure CV where
 k:IV
 d:IV
 R:Option Addr
 rn:Nat
 rc:Nat
 rm:List Rm
def CV.ce (z:CV):Ce:=⟨z.k.l,z.d.l,z.rm⟩
def cvc (z:CV):List Value:=[.slice z.k.A z.k.n z.k.c,.slice z.d.A z.d.n z.d.c,.slice z.R z.rn z.rc]
structure CV.ok (w:World) (B:Nat) (z:CV):Prop where
 k:z.k.ok w B
 d:z.d.ok w B
 rl:z.rm.length = z.rn
 rr:RdR 4 rmc w B z.R z.rm
 r1:z.rn ≤ z.rc
 r2:z.rc ≤ 9223372036854775807
theorem CV.ok.below {w w':World} {B:Nat} {z:CV} (h:z.ok w B) (hb:Below B w w'):z.ok w' B:=⟨h.k.below hb,h.d.below hb,h.rl,h.rr.below hb,h.r1,h.r2⟩
theorem CV.ok.more {w:World} {B B':Nat} {z:CV} (h:z.ok w B) (hB:B ≤ B'):z.ok w B':=⟨h.k.more hB,h.d.more hB,h.rl,h.rr.more hB,h.r1,h.r2⟩
def RetPrv (p:Mx) (w:World) (e:Ending) (w':World):Prop:=∃ c:CV,e = .returned (.tuple #[.agg (cvc c).toArray,.int .i64 0])∧c.ok w' w'.heap.size∧c.ce = prvC p∧Below w.heap.size w w'
structure PtG (w1:World) (P1 P2:World → Value → Prop) (z1 z2:Value) (t1 t2:TypeId) (d1 d2 b1 b2 b3 b4:Bool) (V1 V2:Value) (p1 p2:Nat) (W:World):Prop where
 bel:Below w1.heap.size w1 W
 k1:d1 = true → P1 W V1
 k2:d2 = true → P2 W V2
 m1:b1 = true → Blk W p1 t1 [if b3 = true then V1 else z1]∧w1.heap.size ≤ p1
 m2:b2 = true → Blk W p2 t2 [if b4 = true then V2 else z2]∧w1.heap.size ≤ p2
 ne:b1 = true → b2 = true → p1 ≠ p2
structure PtS1 (w1:World) (t1 t2:TypeId) (P:World → Value → Prop):Prop where
 q:∀ {W W':World} {V:Value},P W V → Below W.heap.size W W' → P W' V
 s:∀ {W W':World} {V:Value} {p:Nat} {t:TypeId} {vs:List Value},P W V → W.grownBy W' (some p) → Blk W p t vs → t = t1 ∨ t = t2 → w1.heap.size ≤ p → P W' V
section
variable {w1 W W':World} {P1 P2:World → Value → Prop} {z1 z2 V1 V2 V:Value} {t1 t2:TypeId} {d1 d2 b1 b2 b3 b4:Bool} {p1 p2:Nat}
theorem PtG.keep (s1:PtS1 w1 t1 t2 P1) (s2:PtS1 w1 t1 t2 P2) (h:PtG w1 P1 P2 z1 z2 t1 t2 d1 d2 b1 b2 b3 b4 V1 V2 p1 p2 W) (hb:Below W.heap.size W W'):PtG w1 P1 P2 z1 z2 t1 t2 d1 d2 b1 b2 b3 b4 V1 V2 p1 p2 W' :=
 ⟨h.bel.trans (hb.mono h.bel.size),fun g=>s1.q (h.k1 g) hb,fun g=>s2.q (h.k2 g) hb,fun g=>⟨(h.m1 g).1.below hb (h.m1 g).1.lt,(h.m1 g).2⟩,fun g=>⟨(h.m2 g).1.below hb (h.m2 g).1.lt,(h.m2 g).2⟩,h.ne⟩
theorem PtG.c1 (s1:PtS1 w1 t1 t2 P1) (s2:PtS1 w1 t1 t2 P2) (h:PtG w1 P1 P2 z1 z2 t1 t2 false d2 b1 b2 b3 b4 V1 V2 p1 p2 W) (h3:b3 = false) (hb:Below W.heap.size W W') (hk:P1 W' V):PtG w1 P1 P2 z1 z2 t1 t2 true d2 b1 b2 b3 b4 V V2 p1 p2 W':=by
 have g:=h.keep s1 s2 hb
 subst h3
 exact ⟨g.bel,fun _=>hk,g.k2,g.m1,g.m2,g.ne⟩
theorem PtG.c2 (s1:PtS1 w1 t1 t2 P1) (s2:PtS1 w1 t1 t2 P2) (h:PtG w1 P1 P2 z1 z2 t1 t2 d1 false b1 b2 b3 b4 V1 V2 p1 p2 W) (h4:b4 = false) (hb:Below W.heap.size W W') (hk:P2 W' V):PtG w1 P1 P2 z1 z2 t1 t2 d1 true b1 b2 b3 b4 V1 V p1 p2 W':=by
 have g:=h.keep s1 s2 hb
 subst h4
 exact ⟨g.bel,g.k1,fun _=>hk,g.m1,g.m2,g.ne⟩
theorem PtG.a1 (s1:PtS1 w1 t1 t2 P1) (s2:PtS1 w1 t1 t2 P2) (h:PtG w1 P1 P2 z1 z2 t1 t2 d1 d2 false b2 b3 b4 V1 V2 p1 p2 W) (h3:b3 = false):PtG w1 P1 P2 z1 z2 t1 t2 d1 d2 true b2 b3 b4 V1 V2 W.heap.size p2 (W.alloc (.cells #[z1] t1)):=by
 have g:=h.keep s1 s2 (box_below W (.cells #[z1] t1))
 subst h3
 exact ⟨g.bel,g.k1,g.k2,fun _=>⟨Blk.new _ _ [_],h.bel.size⟩,g.m2,fun _ e=>by have:=(h.m2 e).1.lt;omega⟩
theorem PtG.a2 (s1:PtS1 w1 t1 t2 P1) (s2:PtS1 w1 t1 t2 P2) (h:PtG w1 P1 P2 z1 z2 t1 t2 d1 d2 b1 false b3 b4 V1 V2 p1 p2 W) (h4:b4 = false):PtG w1 P1 P2 z1 z2 t1 t2 d1 d2 b1 true b3 b4 V1 V2 p1 W.heap.size (W.alloc (.cells #[z2] t2)):=by
 have g:=h.keep s1 s2 (box_below W (.cells #[z2] t2))
 subst h4
 exact ⟨g.bel,g.k1,g.k2,g.m1,fun _=>⟨Blk.new _ _ [_],h.bel.size⟩,fun e _=>by have:=(h.m1 e).1.lt;omega⟩
theorem PtG.s1 (s1:PtS1 w1 t1 t2 P1) (s2:PtS1 w1 t1 t2 P2) (h:PtG w1 P1 P2 z1 z2 t1 t2 true true true true false b4 V1 V2 p1 p2 W):PtG w1 P1 P2 z1 z2 t1 t2 true true true true true b4 V1 V2 p1 p2 (W.setCell ⟨p1,0,none⟩ V1):=by
 have hg:=grown_setCell W p1 0 V1
 refine ⟨h.bel.setCell (p:=⟨p1,0,none⟩) (h.m1 rfl).2 _,fun _=>s1.s (h.k1 rfl) hg (h.m1 rfl).1 (.inl rfl) (h.m1 rfl).2,fun _=>s2.s (h.k2 rfl) hg (h.m1 rfl).1 (.inl rfl) (h.m1 rfl).2,fun _=>⟨(h.m1 rfl).1.set (j:=0) (by simp) _,(h.m1 rfl).2⟩,fun _=>⟨(h.m2 rfl).1.kept hg (fun e=>?_),(h.m2 rfl).2⟩,h.ne⟩
 injection e with e;exact h.ne rfl rfl e.symm
theorem PtG.s2 (s1:PtS1 w1 t1 t2 P1) (s2:PtS1 w1 t1 t2 P2) (h:PtG w1 P1 P2 z1 z2 t1 t2 true true true true b3 false V1 V2 p1 p2 W):PtG w1 P1 P2 z1 z2 t1 t2 true true true true b3 true V1 V2 p1 p2 (W.setCell ⟨p2,0,none⟩ V2):=by
 have hg:=grown_setCell W p2 0 V2
 refine ⟨h.bel.setCell (p:=⟨p2,0,none⟩) (h.m2 rfl).2 _,fun _=>s1.s (h.k1 rfl) hg (h.m2 rfl).1 (.inr rfl) (h.m2 rfl).2,fun _=>s2.s (h.k2 rfl) hg (h.m2 rfl).1 (.inr rfl) (h.m2 rfl).2,fun _=>⟨(h.m1 rfl).1.kept hg (fun e=>?_),(h.m1 rfl).2⟩,fun _=>⟨(h.m2 rfl).1.set (j:=0) (by simp) _,(h.m2 rfl).2⟩,h.ne⟩
 injection e with e;exact h.ne rfl rfl e
end
def R6i (i1 i2 i3 i4 i5 i6:Nat) (d1 d2 b1 b2 b3 b4:Bool):List Nat:=(if d1 = true then [] else [i1]) ++ (if d1 = true∧d2 = false then [i2] else []) ++ (if b1 = true then [] else [i3]) ++ (if b2 = true then [] else [i4]) ++ (if d1 = true∧d2 = true∧b1 = true∧b2 = true∧b3 = false then [i5] else []) ++ (if d1 = true∧d2 = true∧b1 = true∧b2 = true∧b3 = true∧b4 = false then [i6] else [])
theorem R6i_mem {i1 i2 i3 i4 i5 i6:Nat} {d1 d2 b1 b2 b3 b4:Bool} {i:Nat} (h:i ∈ R6i i1 i2 i3 i4 i5 i6 d1 d2 b1 b2 b3 b4):(i = i1∧d1 = false) ∨ (i = i2∧d1 = true∧d2 = false) ∨ (i = i3∧b1 = false) ∨ (i = i4∧b2 = false) ∨ (i = i5∧b3 = false∧d1 = true∧d2 = true∧b1 = true∧b2 = true) ∨ (i = i6∧b4 = false∧d1 = true∧d2 = true∧b1 = true∧b2 = true∧b3 = true):=by
 cases d1 <;> cases d2 <;> cases b1 <;> cases b2 <;> cases b3 <;> cases b4 <;> simp [R6i] at h ⊢ <;> omega
def put4n (a:Act) (s1 s2 s3 s4:Nat) (v1 v2 v3 v4:Value):Act:={ a with tmps:=(((a.tmps.setIfInBounds s1 v1).setIfInBounds s2 v2).setIfInBounds s3 v3).setIfInBounds s4 v4 }
def IntoV (w1:World) (ed:List Ed) (W:World) (V:Value):Prop:=∃ (o m:Nat) (g:Int → Option Hd),V = .map (some o)∧InM w1.heap.size w1 W o m ed g
theorem IntoV.st (w1:World) (ed:List Ed):PtS1 w1 85 87 (IntoV w1 ed) :=
 ⟨fun ⟨o,m,g,e,h⟩ hb=>⟨o,m,g,e,h.quiet hb⟩,fun ⟨o,m,g,e,h⟩ hg hk ht hp=>⟨o,m,g,e,h.kept hg hk (by rcases ht with rfl | rfl <;> decide) hp⟩⟩
def FlgV (w1:World) (n:Nat) (N:List Bool) (W:World) (V:Value):Prop:=∃ b:Nat,V = .slice (some ⟨b,0,none⟩) n n∧Blk W b 4 (bvl N)∧w1.heap.size ≤ b
theorem FlgV.st (w1:World) (n:Nat) (N:List Bool) {t1 t2:TypeId} (h1:t1 ≠ 4) (h2:t2 ≠ 4):PtS1 w1 t1 t2 (FlgV w1 n N):=by
 refine ⟨fun ⟨b,e,h,hl⟩ hb=>⟨b,e,h.below hb h.lt,hl⟩,fun ⟨b,e,h,hl⟩ hg hk ht _=>⟨b,e,h.kept hg ?_,hl⟩⟩
 intro e9
 injection e9 with e9
 rcases ht with rfl | rfl
 ·exact blk_ne hk h h1 e9.symm
 ·exact blk_ne hk h h2 e9.symm
def RetSrA (base n:Nat) (v:Value) (R:List Rm) (w:World) (e:Ending) (w':World):Prop :=
 e = .returned (.tuple #[])∧∃ R':List Rm,R'.Perm R∧R'.Pairwise (fun a b=>a.s ≤ b.s)∧w'.ownsRow base 63 4 v n (R'.flatMap rmc)∧w.grownBy w' v.ownBlock
theorem max_sort_any (base n:Nat) (v:Value) (R:List Rm) (w:World) (hown:w.ownsRow base 63 4 v n (R.flatMap rmc)) (hl:R.length = n) (hr:∀ r ∈ R,0 ≤ r.s∧r.s < 4096) (hn:n ≤ 1000000) :
  Calls Try.prog 44 #[v,.func (.func 45) #[] #[]] w (RetSrA base n v R w):=by
 rcases hown.2 with ⟨rfl,rfl⟩ | ⟨g,cap,cur,rfl,_⟩
 ·obtain rfl:R = []:=List.eq_nil_of_length_eq_zero hl
  exact (max_sort_nil w).mono fun e w' ⟨h1,h2⟩=>by subst h2;exact ⟨h1,[],List.Perm.refl _,List.Pairwise.nil,hown,grown_refl _ _⟩
 ·exact (max_sort base n cap g R w hown hl hr hn).mono fun e w' ⟨h1,R',h2,h3,h4,h5⟩=>⟨h1,R',h2,h3,h4,h5⟩
theorem srt_list {p:Mx} {R R':List Rm} (hp:R'.Perm R) (hs:R'.Pairwise (fun a b=>a.s ≤ b.s)) (hu:R.Pairwise fun x y=>x.s ≠ y.s) (hr:∀ r ∈ R,0 ≤ r.s∧r.s < p.a.st):R' = srtR p.a.st R:=by
 have hu':R'.Pairwise fun x y=>x.s ≠ y.s:=(hp.pairwise_iff (fun h=>Ne.symm h)).2 hu
 have hi:IncR R':=(hs.and hu').imp (fun ⟨h1,h2⟩=>by omega)
 exact srtR_eq hu hr hi (fun r=>hp.mem_iff)
theorem PrW.srt {w W W':World} {x:AV} {U:List Int} {c:PrC} {Rv:Value} {m:Nat} {N:List Bool} {R R':List Rm} (h:PrW w W x U c Rv m N R) (hl:R'.length = m) (ho:W'.ownsRow w.heap.size 63 4 Rv m (R'.flatMap rmc)) (hg:W.grownBy W' Rv.ownBlock):PrW w W' x U c Rv m N R':=by
 have hb1:Below w.heap.size w W':=h.bel.grown hg h.bel.size (fun j hj=>(h.row.lt j hj).1)
 have kp:∀ {b:Nat} {t:TypeId} {vs:List Value},Blk W b t vs → t ≠ 63 → Blk W' b t vs:=fun hk ht=>hk.kept hg (blk_ne_own h.row hk (fun e=>ht e.symm))
 exact ⟨hb1,kp h.ka (by decide),kp h.kb (by decide),kp h.kc (by decide),kp h.kl (by decide),kp h.kx (by decide),kp h.kcb (by decide),kp h.klb (by decide),h.nl,h.into.keptO h.row hg (by decide) (Nat.le_refl _),ho,hl,h.n1,h.l1,h.l2⟩
structure KpH (w5 w6 W:World) (c:PrC) (ob:Nat) (N:List Bool) (D:List Int) (Rv:Value) (m:Nat) (R:List Rm) (v1 v2:Value) (q1 q2:Nat) (l1 l2:List Int):Prop where
 bel:Below w5.heap.size w5 W
 siz:w6.heap.size ≤ W.heap.size
 kl:Blk W c.bl 87 [.slice (some ⟨c.lb,0,none⟩) c.n c.n]
 klb:Blk W c.lb 4 (bvl N)
 kd:Blk W ob 3 (iv D)
 kx:Blk W c.bx 38 [v1,v2,Rv]
 row:W.ownsRow w5.heap.size 63 4 Rv m (R.flatMap rmc)
 o1:W.ownsRow w6.heap.size 3 1 v1 q1 (iv l1)
 o2:W.ownsRow w6.heap.size 3 1 v2 q2 (iv l2)
 apt:∀ g,v1.ownBlock = some g → v2.ownBlock ≠ some g
 lo:ob < w6.heap.size
 l5:w5.heap.size ≤ w6.heap.size
 l2:w5.heap.size ≤ c.bx
 nl:N.length = c.n
section
variable {w5 w6 W W':World} {c:PrC} {ob:Nat} {N:List Bool} {D:List Int} {Rv:Value} {m:Nat} {R:List Rm} {v1 v2 v:Value} {q q1 q2:Nat} {l1 l2:List Int}
theorem KpH.below (h:KpH w5 w6 W c ob N D Rv m R v1 v2 q1 q2 l1 l2) (hb:Below W.heap.size W W'):KpH w5 w6 W' c ob N D Rv m R v1 v2 q1 q2 l1 l2 :=
 ⟨h.bel.trans (hb.mono h.bel.size),Nat.le_trans h.siz hb.size,h.kl.below hb h.kl.lt,h.klb.below hb h.klb.lt,h.kd.below hb h.kd.lt,h.kx.below hb h.kx.lt,own_below h.row hb,own_below h.o1 hb,own_below h.o2 hb,h.apt,h.lo,h.l5,h.l2,h.nl⟩
theorem KpH.push1 (h:KpH w5 w6 W c ob N D Rv m R v1 v2 q1 q2 l1 l2) {x:Int} (ho:W'.ownsRow w6.heap.size 3 1 v (q1 + 1) (iv l1 ++ [.int .i64 x])) (hg:W.grownBy W' v1.ownBlock) (hv:v.ownBlock = v1.ownBlock ∨ ∃ g,v.ownBlock = some g∧W.heap.size ≤ g) :
  KpH w5 w6 (W'.setCell ⟨c.bx,0,none⟩ v) c ob N D Rv m R v v2 (q1 + 1) q2 (l1 ++ [x]) l2∧Blk W' c.bx 38 [v1,v2,Rv]:=by
 have kp:∀ {b:Nat} {t:TypeId} {vs:List Value},Blk W b t vs → t ≠ 3 → Blk W' b t vs:=fun hk ht=>hk.kept hg (blk_ne_own h.o1 hk (fun e=>ht e.symm))
 have kx':=kp h.kx (by decide)
 have hg2:=grown_setCell W' c.bx 0 v
 have ne:∀ {b:Nat} {t:TypeId} {vs:List Value},Blk W' b t vs → t ≠ 38 → Blk (W'.setCell ⟨c.bx,0,none⟩ v) b t vs:=fun hk ht=>hk.kept hg2 (fun e=>by injection e with e;exact blk_apart hk kx' ht e)
 have kd':Blk W' ob 3 (iv D):=h.kd.kept hg (fun e=>by have:=(h.o1.lt ob e.symm).1;have:=h.lo;omega)
 have o2':W'.ownsRow w6.heap.size 3 1 v2 q2 (iv l2):=h.o2.kept hg (by
  cases hq:v2.ownBlock with
  | none=>exact .inl rfl
  | some g=>exact .inr (fun e=>h.apt g e.symm hq))
 have hb1:Below w5.heap.size w5 W':=h.bel.grown hg h.bel.size (fun j hj=>by have:=(h.o1.lt j hj).1;have:=h.l5;omega)
 refine ⟨⟨hb1.setCell (p:=⟨c.bx,0,none⟩) h.l2 _,Nat.le_trans h.siz (Nat.le_trans hg.size hg2.size),ne (kp h.kl (by decide)) (by decide),ne (kp h.klb (by decide)) (by decide),ne kd' (by decide),kx'.set (j:=0) (by simp) _,?_,?_,?_,?_,h.lo,h.l5,h.l2,h.nl⟩,kx'⟩
 ·exact (own_kept_ne h.row h.o1 (by decide) hg).kept hg2 (own_ne_blk (own_kept_ne h.row h.o1 (by decide) hg) kx' (by decide))
 ·rw [iv_append];exact ho.kept hg2 (own_ne_blk ho kx' (by decide))
 ·exact o2'.kept hg2 (own_ne_blk o2' kx' (by decide))
 ·intro g e e2
  rcases hv with hv | ⟨g',hv,hl⟩
  ·rw [hv] at e;exact h.apt g e e2
  ·rw [hv] at e;injection e with e;have:=(h.o2.lt g e2).2;omega
theorem KpH.push2 (h:KpH w5 w6 W c ob N D Rv m R v1 v2 q1 q2 l1 l2) {x:Int} (ho:W'.ownsRow w6.heap.size 3 1 v (q2 + 1) (iv l2 ++ [.int .i64 x])) (hg:W.grownBy W' v2.ownBlock) (hv:v.ownBlock = v2.ownBlock ∨ ∃ g,v.ownBlock = some g∧W.heap.size ≤ g) :
  KpH w5 w6 (W'.setCell ⟨c.bx,1,none⟩ v) c ob N D Rv m R v1 v q1 (q2 + 1) l1 (l2 ++ [x])∧Blk W' c.bx 38 [v1,v2,Rv]∧Blk W' ob 3 (iv D):=by
 have kp:∀ {b:Nat} {t:TypeId} {vs:List Value},Blk W b t vs → t ≠ 3 → Blk W' b t vs:=fun hk ht=>hk.kept hg (blk_ne_own h.o2 hk (fun e=>ht e.symm))
 have kx':=kp h.kx (by decide)
 have hg2:=grown_setCell W' c.bx 1 v
 have ne:∀ {b:Nat} {t:TypeId} {vs:List Value},Blk W' b t vs → t ≠ 38 → Blk (W'.setCell ⟨c.bx,1,none⟩ v) b t vs:=fun hk ht=>hk.kept hg2 (fun e=>by injection e with e;exact blk_apart hk kx' ht e)
 have kd':Blk W' ob 3 (iv D):=h.kd.kept hg (fun e=>by have:=(h.o2.lt ob e.symm).1;have:=h.lo;omega)
 have o1':W'.ownsRow w6.heap.size 3 1 v1 q1 (iv l1):=h.o1.kept hg (by
  cases hq:v1.ownBlock with
  | none=>exact .inl rfl
  | some g=>exact .inr (fun e=>h.apt g hq e.symm))
 have hb1:Below w5.heap.size w5 W':=h.bel.grown hg h.bel.size (fun j hj=>by have:=(h.o2.lt j hj).1;have:=h.l5;omega)
 refine ⟨⟨hb1.setCell (p:=⟨c.bx,1,none⟩) h.l2 _,Nat.le_trans h.siz (Nat.le_trans hg.size hg2.size),ne (kp h.kl (by decide)) (by decide),ne (kp h.klb (by decide)) (by decide),ne kd' (by decide),kx'.set (j:=1) (by simp) _,?_,?_,?_,?_,h.lo,h.l5,h.l2,h.nl⟩,kx',kd'⟩
 ·exact (own_kept_ne h.row h.o2 (by decide) hg).kept hg2 (own_ne_blk (own_kept_ne h.row h.o2 (by decide) hg) kx' (by decide))
 ·exact o1'.kept hg2 (own_ne_blk o1' kx' (by decide))
 ·rw [iv_append];exact ho.kept hg2 (own_ne_blk ho kx' (by decide))
 ·intro g e e2
  rcases hv with hv | ⟨g',hv,hl⟩
  ·rw [hv] at e2;exact h.apt g e e2
  ·rw [hv] at e2;injection e2 with e2;have:=(h.o1.lt g e).2;omega
end
theorem Blk.c3 {w:World} {b:Nat} {t:TypeId} {v0 v1 v2:Value} {vs:List Value} (h:Blk w b t (v0 :: v1 :: v2 :: vs)):w.cell? ⟨b,0,none⟩ = some v0∧w.cell? ⟨b,1,none⟩ = some v1∧w.cell? ⟨b,2,none⟩ = some v2:=⟨h.cell (j:=0) rfl,h.cell (j:=1) rfl,h.cell (j:=2) rfl⟩
theorem iv_ok_own {w:World} {B n c:Nat} {A:Option Addr} {l:List Int} (h:w.ownsRow B 3 1 (.slice A n c) n (iv l)) (hl:l.length = n):(IV.mk A n c l).ok w w.heap.size:=by
 obtain ⟨h1,h2⟩:=own_cap' h
 exact ⟨hl,h1,h2,rdI_own hl h⟩
end Go.Proofs.Ytdnmpndnpfklcaa
