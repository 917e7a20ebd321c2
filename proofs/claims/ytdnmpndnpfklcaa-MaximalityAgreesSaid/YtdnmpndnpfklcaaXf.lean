/-
 DERIVED: THE SHELF's CONTRACTS AT THIS DUMP, IN PLAIN WORDS (tools/lay-plain.mjs out of 'YtdnmpndnpfklcaaShelf.lean', which tools/lay-shelf.mjs wrote): THE SAME DECLARATIONS UNDER THE SAME NAMES: 'import', 'namespace', 'open', 'def', 'theorem' AND NOTHING ELSE: no command of the shelf's: FOR A HAND-IN. Each laying: the table of numbers ('.._ren') and one theorem, a field a fact of the dump's own or the kernel's comparison; each contract: ONE APPLICATION.
-/
import Derived.Ground.SlsfProg
import Derived.Shelf.SlSortCmp.WholeK
import Derived.Test.YtdnmpndnpfklcaaProg
import Derived.Test.YtdnmpndnpfklcaaXe
import Derived.Shelf.SlSortCmp.NoneTotal
import Derived.Shelf.GgSortFunc.RowK

namespace Go.Proofs
open Go.Shelf
def Try.laysSlF06_f44_ren:Go.Shelf.Ren:=⟨fun | 6=>44 | 15=>82 | 14=>81 | 28=>109 | 29=>110 | 20=>101 | 21=>102 | 22=>103 | 23=>104 | 24=>105 | 25=>106 | 26=>107 | 27=>108 | 46=>119 | 47=>120 | 48=>121 | 49=>122 | 50=>123 | 57=>125 | n=>n,fun | 22=>36 | 24=>63 | 25=>94 | 3=>3 | 39=>136 | 0=>0 | 53=>172 | 55=>174 | 4=>4 | 46=>166 | 45=>165 | 50=>108 | 5=>5 | 9=>9 | 66=>180 | 70=>184 | 76=>190 | 77=>191 | n=>n,fun | n=>n⟩
theorem Try.laysSlF06_f44:Go.Proofs.SlLaysF0.n6 Try.prog Try.laysSlF06_f44_ren:={
 mixed:=by kernel_rfl
 f6:=⟨Try.f44.name,by decide,Try.func44.trans (congrArg some (by kernel_rfl))⟩
 f14:=⟨Try.f81.name,by decide,Try.func81.trans (congrArg some (by kernel_rfl))⟩
 f15:=Try.func82.trans (congrArg some (by kernel_rfl))
 f20:=⟨Try.f101.name,by decide,Try.func101.trans (congrArg some (by kernel_rfl))⟩
 f21:=⟨Try.f102.name,by decide,Try.func102.trans (congrArg some (by kernel_rfl))⟩
 f22:=⟨Try.f103.name,by decide,Try.func103.trans (congrArg some (by kernel_rfl))⟩
 f23:=⟨Try.f104.name,by decide,Try.func104.trans (congrArg some (by kernel_rfl))⟩
 f24:=⟨Try.f105.name,by decide,Try.func105.trans (congrArg some (by kernel_rfl))⟩
 f25:=⟨Try.f106.name,by decide,Try.func106.trans (congrArg some (by kernel_rfl))⟩
 f26:=⟨Try.f107.name,by decide,Try.func107.trans (congrArg some (by kernel_rfl))⟩
 f27:=⟨Try.f108.name,by decide,Try.func108.trans (congrArg some (by kernel_rfl))⟩
 f28:=Try.func109.trans (congrArg some (by kernel_rfl))
 f29:=Try.func110.trans (congrArg some (by kernel_rfl))
 f46:=⟨Try.f119.name,by decide,Try.func119.trans (congrArg some (by kernel_rfl))⟩
 f47:=Try.func120.trans (congrArg some (by kernel_rfl))
 f48:=Try.func121.trans (congrArg some (by kernel_rfl))
 f49:=⟨Try.f122.name,by decide,Try.func122.trans (congrArg some (by kernel_rfl))⟩
 f50:=⟨Try.f123.name,by decide,Try.func123.trans (congrArg some (by kernel_rfl))⟩
 f57:=⟨Try.f125.name,by decide,Try.func125.trans (congrArg some (by kernel_rfl))⟩
 t0:=Try.underlying0
 a0:=Try.isAgg0
 z0:=Try.sizeOf0
 v0:=Try.zeroValue0
 t3:=Try.underlying3
 a3:=Try.isAgg3
 z3:=Try.sizeOf3
 v3:=Try.zeroValue3
 t4:=Try.underlying4
 a4:=Try.isAgg4
 z4:=Try.sizeOf4
 v4:=Try.zeroValue4
 t5:=Try.underlying5
 a5:=Try.isAgg5
 z5:=Try.sizeOf5
 v5:=Try.zeroValue5
 t9:=Try.underlying9
 a9:=Try.isAgg9
 z9:=Try.sizeOf9
 v9:=Try.zeroValue9
 t22:=Try.underlying36
 a22:=Try.isAgg36
 z22:=Try.sizeOf36
 v22:=Try.zeroValue36
 t25:=Try.underlying94
 a25:=Try.isAgg94
 z25:=Try.sizeOf94
 v25:=Try.zeroValue94
 t39:=Try.underlying136
 a39:=Try.isAgg136
 z39:=Try.sizeOf136
 v39:=Try.zeroValue136
 t45:=Try.underlying165
 a45:=Try.isAgg165
 z45:=Try.sizeOf165
 v45:=Try.zeroValue165
 t46:=Try.underlying166
 a46:=Try.isAgg166
 z46:=Try.sizeOf166
 v46:=Try.zeroValue166
 t50:=Try.underlying108
 a50:=Try.isAgg108
 z50:=Try.sizeOf108
 v50:=Try.zeroValue108
 t53:=Try.underlying172
 a53:=Try.isAgg172
 z53:=Try.sizeOf172
 v53:=Try.zeroValue172
 t55:=Try.underlying174
 a55:=Try.isAgg174
 z55:=Try.sizeOf174
 v55:=Try.zeroValue174
 t66:=Try.underlying180
 a66:=Try.isAgg180
 z66:=Try.sizeOf180
 v66:=Try.zeroValue180
 t70:=Try.underlying184
 a70:=Try.isAgg184
 z70:=Try.sizeOf184
 v70:=Try.zeroValue184
 t76:=Try.underlying190
 a76:=Try.isAgg190
 z76:=Try.sizeOf190
 v76:=Try.zeroValue190
 t77:=Try.underlying191
 a77:=Try.isAgg191
 z77:=Try.sizeOf191
 v77:=Try.zeroValue191 }
open Go.RowKit Go.Lib Go.Sort in
theorem Try.slices_SortFunc {α:Type} [Inhabited α] (k:Nat) (aE:∀ w,(isAgg (Try.laysSlF06_f44_ren.t 24)).run Try.prog w = .ok true w) (zE:∀ w,(Go.sizeOf (Try.laysSlF06_f44_ren.t 24)).run Try.prog w = .ok k w) (enc:α → List Value) (hk:∀ x,(enc x).length = k) (h1:∀ x,∀ v ∈ enc x,v.oneCell' = true) (cf:α → α → Int) (hO:SWO (ltOf cf)) (g:Nat) (cb:Array Value) (blk off cap:Nat) (d:Array α) (w:World) (eg:∀ args w,(callFunc g args).run Try.prog w = .ok (.enter g args) w) (hcmp:CmpLays Try.prog g cb enc k cf blk off d.size w) (hH:HoldsK enc k w blk off d) (hblk:blk < w.heap.size) (hsz:d.size < 4611686018427387904) :
  Calls Try.prog 44 #[.slice (some ⟨blk,off,none⟩) d.size cap,.func (.func g) #[] cb] w fun e w' =>
   e = .returned (.tuple #[])∧∃ d' n os,PermIn 0 d.size d d'∧SortedIn (ltOf cf) 0 d.size d'∧w' = sortWorldK enc k w blk off n d' os:=AnyQ.slices_SortFunc Try.laysSlF06_f44 k aE zE enc hk h1 cf hO g cb blk off cap d w eg hcmp hH hblk hsz
end Go.Proofs
/- The library's sort at removals; Prove's comparison. -/
namespace Go.Proofs.Ytdnmpndnpfklcaa
open Go.RowKit Go Go.Maps
theorem flatK_list {α:Type} [Inhabited α] (f:α → List Value) (k:Nat) (hk:∀ x,(f x).length = k) (l:List α):Sort.flatK f k l.toArray = (l.flatMap f).toArray:=by
 refine Sort.ext_get! (by rw [Sort.size_flatK];simp [flat_len f k l (fun y _=>hk y)]) fun t ht=>?_
 rw [Sort.size_flatK] at ht
 have ht':t < l.length * k:=by simpa using ht
 rw [Sort.get_flatK _ _ _ _ ht]
 have k0:0 < k:=by
  rcases Nat.eq_zero_or_pos k with h | h
  ·subst h;simp at ht'
  ·exact h
 have h1:t / k < l.length:=Nat.div_lt_of_lt_mul (by rw [Nat.mul_comm];exact ht')
 have h2:t % k < (f (l[t / k]'h1)).length:=by rw [hk];exact Nat.mod_lt _ k0
 have h3:=flat_get f k l (fun y _=>hk y) (t / k) _ (t % k) _ (List.getElem?_eq_getElem h1) (List.getElem?_eq_getElem h2)
 rw [show t / k * k + t % k = t by rw [Nat.mul_comm];exact Nat.div_add_mod t k] at h3
 have e1:(l.toArray[t / k]!) = l[t / k]'h1:=by rw [getElem!_pos l.toArray (t / k) (by simpa using h1)];simp
 obtain ⟨h4,h5⟩:=List.getElem?_eq_some_iff.1 h3
 rw [e1]
 have e2:(f (l[t / k]'h1))[t % k]! = (f (l[t / k]'h1))[t % k]'h2:=getElem!_pos (f (l[t / k]'h1)) (t % k) h2
 have e3:(l.flatMap f).toArray[t]! = (l.flatMap f)[t]'h4:=by rw [getElem!_pos (l.flatMap f).toArray t (by simpa using h4)];simp
 rw [e2,e3,h5]
theorem holdsK_own {α:Type} [Inhabited α] (f:α → List Value) (k:Nat) (hk:∀ x,(f x).length = k) {w:World} {base n cap g:Nat} {e:TypeId} {l:List α} (h:w.ownsRow base e k (.slice (some ⟨g,0,none⟩) n cap) n (l.flatMap f)):Sort.HoldsK f k w g 0 l.toArray:=by
 unfold Sort.HoldsK
 rw [flatK_list f k hk]
 have hfl:=flat_len f k l (fun y _=>hk y)
 have h0:=h.1
 rcases h.2 with ⟨e0,_⟩ | ⟨g',cap',cur,e0,hb,hg,hn,hm,hs,ht⟩
 ·cases e0
 ·injection e0 with e1 _ _
  injection e1 with e1
  injection e1 with e1
  subst e1
  intro j hj
  have hj':j < n * k:=by rw [← h0];simpa using hj
  have hjs:j < cur.size:=Nat.lt_of_lt_of_le hj' (by rw [hs];exact Nat.mul_le_mul_right k hn)
  refine ⟨?_,by simp [World.frozen?,hg]⟩
  have e1:(cur.toList.take (n * k))[j]? = (l.flatMap f)[j]?:=by rw [ht]
  rw [List.getElem?_take,if_pos hj',Array.getElem?_toList] at e1
  simp only [World.cell?,hg,Nat.zero_add]
  simp only [Option.isSome_none,Bool.false_eq_true,if_false]
  have hjl:j < (l.flatMap f).length:=by rw [h0];exact hj'
  have e3:(l.flatMap f).toArray[j]! = (l.flatMap f)[j]'hjl:=by rw [getElem!_pos (l.flatMap f).toArray j (by simpa using hjl)];simp
  rw [e1,List.getElem?_eq_getElem hjl,e3]
  rfl
theorem own_putFlat {w:World} {base k g n cap q:Nat} {e:TypeId} {xs ys:List Value} (h:w.ownsRow base e k (.slice (some ⟨g,0,none⟩) n cap) n xs) (hy:ys.length = n * k) :
  (Sort.putRow id (Sort.ahead w q) g 0 ys.toArray).ownsRow base e k (.slice (some ⟨g,0,none⟩) n cap) n ys∧w.grownBy (Sort.putRow id (Sort.ahead w q) g 0 ys.toArray) (some g):=by
 refine ⟨?_,⟨rfl,rfl,rfl,by simp [Sort.putRow,Sort.mapBlock,Sort.ahead],fun j hj hne=>by
  have hgj:g ≠ j:=fun e=>hne (by rw [e])
  simp [Sort.putRow,Sort.mapBlock,Sort.ahead,Array.getElem?_modify,hgj]⟩⟩
 rcases h.2 with ⟨e0,_⟩ | ⟨g',cap',cur,e0,hb,hg,hn,hm,hs,ht⟩
 ·cases e0
 ·injection e0 with e1 _ e3
  injection e1 with e1
  injection e1 with e1
  subst e1;subst e3
  have hks:n * k ≤ cur.size:=by rw [hs];exact Nat.mul_le_mul_right k hn
  refine ⟨hy,.inr ⟨g,cap,Sort.putCells id 0 ys.toArray cur,rfl,hb,?_,hn,hm,by simpa [Sort.putCells] using hs,?_⟩⟩
  ·simp [Sort.putRow,Sort.mapBlock,Sort.ahead,Array.getElem?_modify,hg,Sort.onCells]
  ·apply List.ext_getElem?
   intro j
   rw [List.getElem?_take,Array.getElem?_toList]
   by_cases hj:j < n * k
   ·have hjc:j < cur.size:=by omega
    simp only [if_pos hj,Sort.putCells,Array.getElem?_mapIdx,Array.getElem?_eq_getElem hjc,Option.map_some]
    rw [if_pos (by simp;omega),List.getElem?_eq_getElem (by omega)]
    simp [getElem!_pos,show j < ys.length by omega]
   ·rw [if_neg hj,List.getElem?_eq_none (by omega)]
structure RmS where
 r:Rm
 ok:0 ≤ r.s∧r.s < 4096
instance:Inhabited RmS:=⟨⟨⟨0,0,0,0⟩,by decide⟩⟩
def rsc (x:RmS):List Value:=rmc x.r
def rscmp (x y:RmS):Int:=x.r.s - y.r.s
theorem rscmp_swo:Sort.SWO (Go.Proofs.ltOf rscmp) where
 irrefl x:=decide_eq_false (by unfold rscmp;omega)
 trans x y z h1 h2:=by
  have k1:rscmp x y < 0:=of_decide_eq_true h1
  have k2:rscmp y z < 0:=of_decide_eq_true h2
  unfold rscmp at k1 k2
  exact decide_eq_true (by unfold rscmp;omega)
 ntrans x y z h1 h2:=by
  have k1:¬ rscmp x y < 0:=of_decide_eq_false h1
  have k2:¬ rscmp y z < 0:=of_decide_eq_false h2
  unfold rscmp at k1 k2
  exact decide_eq_false (by unfold rscmp;omega)
theorem rs_list:∀ {R:List Rm},(∀ r ∈ R,0 ≤ r.s∧r.s < 4096) → ∃ es:List RmS,es.map RmS.r = R
 | [],_=>⟨[],rfl⟩
 | x :: r,h=>by
  obtain ⟨es,he⟩:=rs_list (R:=r) (fun s hs=>h s (List.mem_cons_of_mem _ hs))
  exact ⟨⟨x,h x (List.mem_cons_self ..)⟩ :: es,by rw [List.map_cons,he]⟩
theorem rs_sorted {d d':Array RmS} (hp:Sort.PermIn 0 d.size d d') (hs:Sort.SortedIn (Go.Proofs.ltOf rscmp) 0 d.size d') :
  d'.size = d.size∧d'.toList.Perm d.toList∧(d'.toList.map RmS.r).Pairwise (fun a b=>a.s ≤ b.s):=by
 obtain ⟨h1,_,h3⟩:=hp
 refine ⟨h1,?_,?_⟩
 ·have h4:(List.take d.size d'.toList).Perm d.toList:=by simpa using h3
  rwa [List.take_of_length_le (by rw [Array.length_toList,h1];exact Nat.le_refl _)] at h4
 ·rw [List.pairwise_map,List.pairwise_iff_getElem]
  intro i j hi hj hij
  have:=hs i j (Nat.zero_le _) hij (by rw [← h1];simpa using hj)
  rw [getElem!_pos d' i (by simpa using hi),getElem!_pos d' j (by simpa using hj)] at this
  have k:¬ rscmp d'[j] d'[i] < 0:=of_decide_eq_false this
  unfold rscmp at k
  show d'[i].r.s ≤ d'[j].r.s
  omega
theorem max_cmp (x y:RmS) (w:World) :
  Calls Try.prog 45 #[.agg (rsc x).toArray,.agg (rsc y).toArray] w fun e w'=>e = .returned (.int .i64 (rscmp x y))∧∃ os,w' = Sort.grow w os:=by
 have hw:IntKind.i64.wrap (x.r.s - y.r.s) = x.r.s - y.r.s:=IntWalk.i64_in _ (by have:=x.ok;have:=y.ok;omega)
 have HG:=Lib.hid (show (w.alloc (.cells #[.int .i64 x.r.s,.int .i64 x.r.k,.int .i64 x.r.r,.int .i64 x.r.e] 63)).alloc (.cells #[.int .i64 y.r.s,.int .i64 y.r.k,.int .i64 y.r.r,.int .i64 y.r.e] 63) = Sort.grow w #[.cells #[.int .i64 x.r.s,.int .i64 x.r.k,.int .i64 x.r.r,.int .i64 x.r.e] 63 (0,0),.cells #[.int .i64 y.r.s,.int .i64 y.r.k,.int .i64 y.r.r,.int .i64 y.r.e] 63 (0,0)] from by
  rw [Sort.alloc_eq_grow,Sort.alloc_eq_grow,Sort.grow_grow];rfl)
 unfold rsc rmc rscmp
 go_enter Try.func45,Try.ntmps45
 go_wp2
 go_ret
 exact ⟨rfl,_,HG.out⟩
def RetSrt (base n cap g:Nat) (R:List Rm) (w:World) (e:Ending) (w':World):Prop :=
 e = .returned (.tuple #[])∧∃ R':List Rm,R'.Perm R∧R'.Pairwise (fun a b=>a.s ≤ b.s)∧w'.ownsRow base 63 4 (.slice (some ⟨g,0,none⟩) n cap) n (R'.flatMap rmc)∧w.grownBy w' (some g)
theorem max_sort (base n cap g:Nat) (R:List Rm) (w:World) (hown:w.ownsRow base 63 4 (.slice (some ⟨g,0,none⟩) n cap) n (R.flatMap rmc)) (hl:R.length = n) (hr:∀ r ∈ R,0 ≤ r.s∧r.s < 4096) (hn:n ≤ 1000000) :
  Calls Try.prog 44 #[.slice (some ⟨g,0,none⟩) n cap,.func (.func 45) #[] #[]] w (RetSrt base n cap g R w):=by
 obtain ⟨es,he⟩:=rs_list hr
 have hlen:es.length = n:=by rw [← hl,← he,List.length_map]
 have hv:es.flatMap rsc = R.flatMap rmc:=by rw [← he,List.flatMap_map];rfl
 rw [← hv] at hown
 have hk:∀ x,(rsc x).length = 4:=fun _=>rfl
 have hH:=holdsK_own rsc 4 hk hown
 have hgl:=(hown.lt g rfl).2
 have hcmp:CmpLays Try.prog 45 #[] rsc 4 rscmp g 0 es.toArray.size w:=by
  intro m os dk _ x y
  exact (max_cmp x y _).mono fun e w' ⟨h1,os',h2⟩=>⟨h1,0,os',h2⟩
 have hsz:es.toArray.size = n:=by simpa using hlen
 have hcon:=Try.slices_SortFunc 4 (fun w=>by kernel_rfl) (fun w=>by kernel_rfl) rsc hk (fun x v hv=>rmc_one [x.r] v (by simpa [rsc] using hv)) rscmp rscmp_swo 45 #[] g 0 cap es.toArray w (enters_of Try.func45 (by kernel_rfl) rfl) hcmp hH hgl (by rw [hsz];omega)
 rw [hsz] at hcon
 refine hcon.mono fun e w' ⟨h1,d',q,os,hp,hs,hw⟩=>⟨h1,d'.toList.map RmS.r,?_,?_,?_⟩
 ·rw [← hsz] at hp hs
  obtain ⟨_,h3,_⟩:=rs_sorted hp hs
  rw [← he]
  exact h3.map _
 ·rw [← hsz] at hp hs
  exact (rs_sorted hp hs).2.2
 ·rw [← hsz] at hp
  have hl2:d'.toList.length = n:=by rw [Array.length_toList,hp.1,hsz]
  have hfk:Sort.flatK rsc 4 d' = (d'.toList.flatMap rsc).toArray:=by
   have:=flatK_list rsc 4 hk d'.toList
   simpa using this
  obtain ⟨q1,q2⟩:=own_putFlat (q:=q) (ys:=d'.toList.flatMap rsc) hown (by rw [flat_len rsc 4 _ (fun y _=>hk y),hl2])
  have hw2:w' = Sort.grow (Sort.putRow id (Sort.ahead w q) g 0 (d'.toList.flatMap rsc).toArray) os:=by rw [hw];unfold sortWorldK Sort.putRowK;rw [hfk]
  have hb:Below (Sort.putRow id (Sort.ahead w q) g 0 (d'.toList.flatMap rsc).toArray).heap.size (Sort.putRow id (Sort.ahead w q) g 0 (d'.toList.flatMap rsc).toArray) (Sort.grow (Sort.putRow id (Sort.ahead w q) g 0 (d'.toList.flatMap rsc).toArray) os):=⟨rfl,rfl,rfl,by simp [Sort.grow],fun k hk=>Sort.heap_grow_old _ _ hk⟩
  rw [hw2,show (d'.toList.map RmS.r).flatMap rmc = d'.toList.flatMap rsc by rw [List.flatMap_map];rfl]
  exact ⟨own_below q1 hb,q2.trans (grown_below hb _)⟩
theorem max_sort_nil (w:World) :
  Calls Try.prog 44 #[.slice none 0 0,.func (.func 45) #[] #[]] w fun e w'=>e = .returned (.tuple #[])∧w' = w :=
 AnyF.slices_SortFunc_none Try.laysSlF06_f44 none 0 _ w
end Go.Proofs.Ytdnmpndnpfklcaa
