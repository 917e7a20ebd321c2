/- Regions that draw their order, walked once in the text's order: reads are taken first where they yield in every world that may come up before them (A: facts that always hold; B: facts that hold until operation q, which waits for the reads of B, has come up). No program in sight. -/
import Derived.OrdersHeld
import Derived.Still
import Derived.StillTail
import Derived.KernelRfl
import Derived.Test.YtdnmpndnpfklcaaGa
import Derived.IntWalk
import Derived.Test.YtdnmpndnpfklcaaRow
import Derived.Deep.Strs
import Derived.Test.YtdnmpndnpfklcaaSa
import Derived.Maps.Own
import Derived.Maps.OwnOps
import Derived.Maps.Views
import Derived.Maps.OwnSet
import Derived.WideAt
import Derived.Deep.RegionHeld3
import Derived.Test.YtdnmpndnpfklcaaAa
import Derived.Test.YtdnmpndnpfklcaaQa

namespace Go.Proofs.Ytdnmpndnpfklcaa
open Go
section
variable {P:Program} {ops:Array Oper} {md:Region.Mode} {Q:Exit → Act → World → Prop} {A B:World → Prop} {q:Nat}
def heldU (A B:World → Prop) (q:Nat) (listed:Array Bool) (w:World):Prop:=A w∧(listed.getD q true = false → B w)
def anyU (P:Program) (md:Region.Mode) (ops:Array Oper) (Q:Exit → Act → World → Prop) (A B:World → Prop) (q:Nat):Nat → Array Bool → Act → World → Prop
  | 0,listed,a,w=>Region.ready md ops listed = []∧Q .normal a w
  | f + 1,listed,a,w=>(Region.ready md ops listed = [] → Q .normal a w)∧∀ i ∈ Region.ready md ops listed,wpOp P ops Q i (fun a' w'=>heldU A B q (listed.setIfInBounds i true) w'∧anyU P md ops Q A B q f (listed.setIfInBounds i true) a' w') a w
theorem any_of_U:∀ (f:Nat) (listed:Array Bool) (a:Act) (w:World),anyU P md ops Q A B q f listed a w → wpAny P md ops Q f listed a w
  | 0,_,_,_,h=>h
  | f + 1,_,_,_,h=>⟨h.1,fun i hi=>wpOp_mono (fun a' w' h'=>any_of_U f _ a' w' h'.2) (h.2 i hi)⟩
theorem anyU_first {i:Nat} {oi:Oper} {v:Value} (hi:ops[i]? = some oi) (hsel:∀ (j:Nat) (o:Oper) cs b,ops[j]? = some o → o.op ≠ .select cs b)
    (hQ:∀ c a w,Q (.panic c) (a.put oi.dst v) w → Q (.panic c) a w) (hiq:i ≠ q) :
    ∀ (f:Nat) (listed:Array Bool) (a:Act) (w:World),
      (∀ j oj,ops[j]? = some oj → j ≠ i → listed.getD j true = false → (∀ e ∈ oj.after,Region.binds md e = true → e.on ≠ i) → oi.apart ops oj = true) →
      i ∈ Region.ready md ops listed → YieldsIf P ops (fun w=>A w∧(Region.waitsFor md ops q i = true → B w)) oi v a → heldU A B q listed w → (Region.waitsFor md ops q i = true → listed.getD q true = false) →
      anyU P md ops Q A B q f (listed.setIfInBounds i true) (a.put oi.dst v) w → anyU P md ops Q A B q (f + 1) listed a w
  | f,listed,a,w,hfree,hr,hy,hS,hu,H=>by
    have hsame:∀ (L:Array Bool) (W:World),heldU A B q (L.setIfInBounds i true) W ↔ heldU A B q L W:=fun L W=>by unfold heldU;rw [getD_set_ne true hiq]
    have hrun:∀ {K:Act → World → Prop},K (a.put oi.dst v) w → wpOp P ops Q i K a w:=fun hK=>hy.wpOp hi ⟨hS.1,fun h=>hS.2 (hu h)⟩ hK
    refine ⟨fun h=>(by rw [h] at hr;cases hr),fun j hj=>?_⟩
    by_cases hji:j = i
    · subst hji;exact hrun ⟨(hsame _ _).2 hS,H⟩
    match f,H with
    | 0,H =>
      have:=ready_mono hj hji
      rw [H.1] at this
      cases this
    | f + 1,H =>
      have h1:=H.2 j (ready_mono hj hji)
      obtain ⟨hjun,oj,hoj,hall⟩:=mem_ready.1 hj
      have hun:=(mem_ready.1 hr).1
      have hnot:∀ e ∈ oj.after,Region.binds md e = true → e.on ≠ i:=fun e he hb heq=>by
        have h1:=hall e he hb
        rw [heq,getD_both hun] at h1
        cases h1
      have h2:=wpOp_putIf hoj (hfree j oj hoj hji hjun hnot) (fun cs b=>hsel i oi cs b hi) (fun cs b=>hsel j oj cs b hoj) hQ hy h1
      have hfree':∀ k ok,ops[k]? = some ok → k ≠ i → (listed.setIfInBounds j true).getD k true = false → (∀ e ∈ ok.after,Region.binds md e = true → e.on ≠ i) → oi.apart ops ok = true:=fun k ok hk hki hun hno=>by
        refine hfree k ok hk hki ?_ hno
        by_cases hjk:j = k
        · subst hjk;exact hjun
        · rw [getD_set_ne true hjk] at hun;exact hun
      have hu':Region.waitsFor md ops q i = true → (listed.setIfInBounds j true).getD q true = false:=fun hw=>by
        have hjq:j ≠ q:=by
          rintro rfl
          obtain ⟨o',ho',e,he,hb,hon⟩:=Region.waitsFor_spec hw
          obtain rfl:o' = oj:=Option.some.inj (ho'.symm.trans hoj)
          exact hnot e he hb hon
        rw [getD_set_ne true hjq];exact hu hw
      refine wpOp_mono (fun a' w' h3=>?_) h2
      have hS':heldU A B q (listed.setIfInBounds j true) w':=by
        have:=h3.2.1
        rw [Array.setIfInBounds_comm _ _ (Ne.symm hji)] at this
        exact (hsame _ _).1 this
      refine ⟨hS',anyU_first hi hsel hQ hiq f (listed.setIfInBounds j true) a' w' hfree' (ready_mono hr (Ne.symm hji)) h3.1 hS' hu' ?_⟩
      rw [Array.setIfInBounds_comm _ _ hji]
      exact h3.2.2
def takeB (md:Region.Mode) (ops:Array Oper) (q i:Nat) (listed:Array Bool):Bool :=
  Region.noSelect ops && Region.free md ops listed i && (Region.ready md ops listed).contains i && decide (i ≠ q) && (!Region.waitsFor md ops q i || !listed.getD q true)
theorem anyU_take {i:Nat} {oi:Oper} {v:Value} {f:Nat} {listed:Array Bool} {a:Act} {w:World} (hi:ops[i]? = some oi) (hB:takeB md ops q i listed = true)
    (hQ:∀ c a w,Q (.panic c) (a.put oi.dst v) w → Q (.panic c) a w) (hw:Region.wanted oi (yielded ops a.tmps) = true) (hy:∀ W,A W → (Region.waitsFor md ops q i = true → B W) → (execOp a.eval oi).run P W = .ok (.value v) W)
    (hS:heldU A B q listed w) (h:anyU P md ops Q A B q f (listed.setIfInBounds i true) (a.put oi.dst v) w):anyU P md ops Q A B q (f + 1) listed a w:=by
  simp only [takeB,Bool.and_eq_true,Bool.or_eq_true,Bool.not_eq_true',decide_eq_true_eq] at hB
  obtain ⟨⟨⟨⟨h1,h2⟩,h3⟩,h4⟩,h5⟩:=hB
  refine anyU_first hi (Region.noSelect_spec h1) hQ h4 f listed a w (Region.free_spec hi h2) (by simpa using h3) (.inl ⟨hw,fun W hW=>hy W hW.1 hW.2⟩) hS (fun hq=>?_) h
  rcases h5 with h5 | h5
  · rw [h5] at hq;cases hq
  · exact h5
theorem anyU_takeY {i:Nat} {oi:Oper} {v:Value} {f:Nat} {listed:Array Bool} {a:Act} {w:World} (hi:ops[i]? = some oi) (hB:takeB md ops q i listed = true)
    (hQ:∀ c a w,Q (.panic c) (a.put oi.dst v) w → Q (.panic c) a w) (hy:YieldsIf P ops A oi v a)
    (hS:heldU A B q listed w) (h:anyU P md ops Q A B q f (listed.setIfInBounds i true) (a.put oi.dst v) w):anyU P md ops Q A B q (f + 1) listed a w:=by
  simp only [takeB,Bool.and_eq_true,Bool.or_eq_true,Bool.not_eq_true',decide_eq_true_eq] at hB
  obtain ⟨⟨⟨⟨h1,h2⟩,h3⟩,h4⟩,h5⟩:=hB
  refine anyU_first hi (Region.noSelect_spec h1) hQ h4 f listed a w (Region.free_spec hi h2) (by simpa using h3) (hy.imp (fun ⟨hw,hv⟩=>⟨hw,fun W hW=>hv W hW.1⟩) id) hS (fun hq=>?_) h
  rcases h5 with h5 | h5
  · rw [h5] at hq;cases hq
  · exact h5
theorem anyU_one {i:Nat} {oi:Oper} {f:Nat} {listed:Array Bool} {a:Act} {w:World} (hi:ops[i]? = some oi) (hr:Region.ready md ops listed = [i])
    (h:∀ K:Act → World → Prop,(∀ a' w',heldU A B q (listed.setIfInBounds i true) w' → anyU P md ops Q A B q f (listed.setIfInBounds i true) a' w' → K a' w') → if Region.wanted oi (yielded ops a.tmps) then oi.wp P a w K Q else K (a.put oi.dst undef) w) :
    anyU P md ops Q A B q (f + 1) listed a w:=by
  refine ⟨fun h0=>(by rw [hr] at h0;cases h0),fun j hj=>?_⟩
  rw [hr] at hj
  obtain rfl:j = i:=by simpa using hj
  have:=h (fun a' w'=>heldU A B q (listed.setIfInBounds j true) w'∧anyU P md ops Q A B q f (listed.setIfInBounds j true) a' w') (fun a' w' h1 h2=>⟨h1,h2⟩)
  unfold wpOp
  simp only [hi]
  split
  · rename_i hw;rw [if_pos hw] at this;exact .inl this
  · rename_i hw;rw [if_neg hw] at this;exact this
theorem anyU_done {listed:Array Bool} {a:Act} {w:World} (hr:Region.ready md ops listed = []) (h:Q .normal a w):∀ f,anyU P md ops Q A B q f listed a w
  | 0=>⟨hr,h⟩
  | _ + 1=>⟨fun _=>h,by rw [hr];simp⟩
end
section
variable {P:Program} {l:List Oper} {md:Region.Mode} {Q:Exit → Act → World → Prop} {A B:World → Prop} {q:Nat}
theorem at_drop {i:Nat} {oi:Oper} {r:List Oper} (h:l.drop i = oi :: r):l.toArray[i]? = some oi:=by
  have h1:(l.drop i)[0]? = some oi:=by rw [h];rfl
  rw [List.getElem?_drop] at h1
  simpa using h1
theorem uA (i:Nat) {oi:Oper} {r:List Oper} (v:Value) {f:Nat} {listed:Array Bool} {a:Act} {w:World} (hi:l.drop i = oi :: r) (hA0:A w) (hB0:B w) (hy:∀ W,A W → (execOp a.eval oi).run P W = .ok (.value v) W)
    (h:anyU P md l.toArray Q A B q f (listed.setIfInBounds i true) (a.put oi.dst v) w) (hB:takeB md l.toArray q i listed = true:=by kernel_rfl)
    (hQ:∀ c a w,Q (.panic c) (a.put oi.dst v) w → Q (.panic c) a w:=by exact fun _ _ _ h=>h) (hw:Region.wanted oi (yielded l.toArray a.tmps) = true:=by rfl):anyU P md l.toArray Q A B q (f + 1) listed a w :=
  anyU_take (at_drop hi) hB hQ hw (fun W h1 _=>hy W h1) ⟨hA0,fun _=>hB0⟩ h
theorem uB (i:Nat) {oi:Oper} {r:List Oper} (v:Value) {f:Nat} {listed:Array Bool} {a:Act} {w:World} (hi:l.drop i = oi :: r) (hA0:A w) (hB0:B w) (hy:∀ W,A W → B W → (execOp a.eval oi).run P W = .ok (.value v) W)
    (h:anyU P md l.toArray Q A B q f (listed.setIfInBounds i true) (a.put oi.dst v) w) (hB:takeB md l.toArray q i listed = true:=by kernel_rfl) (hW:Region.waitsFor md l.toArray q i = true:=by kernel_rfl)
    (hQ:∀ c a w,Q (.panic c) (a.put oi.dst v) w → Q (.panic c) a w:=by exact fun _ _ _ h=>h) (hw:Region.wanted oi (yielded l.toArray a.tmps) = true:=by rfl):anyU P md l.toArray Q A B q (f + 1) listed a w :=
  anyU_take (at_drop hi) hB hQ hw (fun W h1 h2=>hy W h1 (h2 hW)) ⟨hA0,fun _=>hB0⟩ h
theorem uS (i:Nat) {oi:Oper} {r:List Oper} {f:Nat} {listed:Array Bool} {a:Act} {w:World} (hi:l.drop i = oi :: r) (hA0:A w) (hB0:B w) (h:anyU P md l.toArray Q A B q f (listed.setIfInBounds i true) (a.put oi.dst undef) w)
    (hB:takeB md l.toArray q i listed = true:=by kernel_rfl) (hQ:∀ c a w,Q (.panic c) (a.put oi.dst undef) w → Q (.panic c) a w:=by exact fun _ _ _ h=>h) (hw:Region.wanted oi (yielded l.toArray a.tmps) = false:=by rfl):anyU P md l.toArray Q A B q (f + 1) listed a w :=
  anyU_takeY (at_drop hi) hB hQ (.inr ⟨hw,rfl⟩) ⟨hA0,fun _=>hB0⟩ h
theorem uOne {i:Nat} {oi:Oper} {r:List Oper} {f:Nat} {listed:Array Bool} {a:Act} {w:World} (hi:l.drop i = oi :: r) (hr:Region.ready md l.toArray listed = [i])
    (h:∀ K:Act → World → Prop,(∀ a' w',heldU A B q (listed.setIfInBounds i true) w' → anyU P md l.toArray Q A B q f (listed.setIfInBounds i true) a' w' → K a' w') → if Region.wanted oi (yielded l.toArray a.tmps) then oi.wp P a w K Q else K (a.put oi.dst undef) w) :
    anyU P md l.toArray Q A B q (f + 1) listed a w:=anyU_one (at_drop hi) hr h
end
theorem wp_region_U {P:Program} {id:Nat} {Q:Exit → Act → World → Prop} {a:Act} {w:World} {l:List Oper} (A B:World → Prop) (q:Nat) (hm:P.follows .mixedOrders = true)
    (h:anyU P .any l.toArray Q A B q l.toArray.size (Array.replicate l.toArray.size false) a w.drew):(Code.region id l.toArray true).wp P Q a w :=
  wp_region_any hm (any_of_U _ _ _ _ h)
end Go.Proofs.Ytdnmpndnpfklcaa
/- Walks: ref03.Canonical. -/
namespace Go.Proofs.Ytdnmpndnpfklcaa
open Go.RowKit Go
end Go.Proofs.Ytdnmpndnpfklcaa

/- Walks: L03.Make. -/
namespace Go.Proofs.Ytdnmpndnpfklcaa
open Go.RowKit Go
def gcells (g:Gr):List Value:=.int .u8 g.st :: .int .u8 g.mb :: bv g.to
end Go.Proofs.Ytdnmpndnpfklcaa

/- From a row's readings to the walks' words: graphs, parts, problems (chapter 26). -/
namespace Go.Proofs.Ytdnmpndnpfklcaa
open Go.ChangeShapes Go.WideShapes Go.ChangeAt Go.RowKit Go.Deep Go
section
variable {H:Type} {enc:TypeId × Value → H} {W:World} {base:Nat} {spare:Nat → Bool} {held:Bool}
theorem one_of {cs:List Value} {i:Nat} {v:Value} (h:(cs.drop i).take 1 = [v]):cs[i]? = some v:=by
  have h1:((cs.drop i).take 1)[0]? = some v:=by rw [h];rfl
  rw [List.getElem?_take,if_pos (by omega),List.getElem?_drop] at h1
  simpa using h1
theorem u8_wf {z:Int} (h:(Lit.int .u8 z).wf = true):0 ≤ z∧z ≤ 255:=by
  simp [Lit.wf,IntKind.min,IntKind.max,IntKind.bits,IntKind.signed] at h
  omega
theorem cells_one {fuel:Nat} {cs:List Value} {o:Nat} {t:TypeId} {x:DataW H × List MemPlace} (ht:Try.prog.underlying t = some (.int .u8)) (hc:Try.prog.cellsOf t = 1) (h:DataW.trod enc Try.prog W base spare held fuel t ((cs.drop o).take (Try.prog.cellsOf t)) = some x):∃ z:Int,cs[o]? = some (.int .u8 z)∧0 ≤ z∧z ≤ 255:=by
  rw [hc] at h
  obtain ⟨z,hz,_,hw⟩:=DataW.trod_int ht h
  exact ⟨z,one_of hz,u8_wf hw⟩
theorem cons_of {cs:List Value} {v:Value} (h:cs[0]? = some v):cs = v :: cs.drop 1:=by
  cases cs with
  | nil=>simp at h
  | cons a r=>simp at h;subst h;rfl
end
end Go.Proofs.Ytdnmpndnpfklcaa

/- Names, events, alphabet.Check. Printed by wip/mkip.py. -/
namespace Go.Proofs.Ytdnmpndnpfklcaa
open Go.RowKit Go
structure Ev where
  nm:ByteArray
  c:Bool
  o:Bool
  f:Bool
  fault:Int
def Ev.cells (e:Ev):List Value:=[.string e.nm,.bool e.c,.bool e.o,.bool e.f,.int .i64 e.fault]
def letB (c:Int):Bool:=(decide (97 ≤ c) && decide (c ≤ 122)) || (decide (65 ≤ c) && decide (c ≤ 90)) || (c == 95)
def digB (c:Int):Bool:=decide (48 ≤ c) && decide (c ≤ 57)
def okB (i:Nat) (c:Int):Bool:=letB c || (digB c && !(i == 0))
def okG:Nat → List UInt8 → Bool
  | _,[]=>true
  | i,c :: r=>okB i (c.toNat:Int) && okG (i + 1) r
def nameB (s:ByteArray):Bool:=decide (0 < s.size) && decide (s.size ≤ 32) && okG 0 s.data.toList
def inB (pre:List ByteArray) (s:ByteArray):Bool:=pre.any (fun t=>decide (t = s))
def evErr (pre:List ByteArray) (e:Ev):Int :=
  if nameB e.nm = false then 7 else if inB pre e.nm = true then 8 else if e.fault < 0 ∨ 4 < e.fault then 2 else if e.fault ≠ 0∧(e.c = true ∨ e.o = true) then 13 else 0
def chkG:List ByteArray → List Ev → Int
  | _,[]=>0
  | pre,e :: r=>if evErr pre e ≠ 0 then evErr pre e else chkG (pre ++ [e.nm]) r
def chkE (l:List Ev):Int:=if 32 < l.length then 3 else chkG [] l
def RdE (w:World) (B:Nat) (A:Option Addr) (l:List Ev):Prop :=
  ∀ k e,l[k]? = some e → ∃ ad,A = some ad∧ad.block < B∧e.nm.size ≤ 9223372036854775807∧∀ j u,e.cells[j]? = some u → w.cell? (ad.add (k * 5 + j)) = some u
section
variable {w w':World} {B B':Nat} {A:Option Addr} {l:List Ev}
theorem RdE.nil:RdE w B A []:=fun k u h=>by simp at h
theorem RdE.keep (h:RdE w B A l) (hk:∀ p:Addr,p.block < B → w'.cell? p = w.cell? p):RdE w' B A l:=fun k e hu=>by
  obtain ⟨ad,e1,hb,hs,hc⟩:=h k e hu
  exact ⟨ad,e1,hb,hs,fun j u hj=>(hk _ (by rw [block_of_add];exact hb)).trans (hc j u hj)⟩
theorem RdE.more (h:RdE w B A l) (hB:B ≤ B'):RdE w B' A l:=fun k e hu=>by
  obtain ⟨ad,e1,hb,hs,hc⟩:=h k e hu
  exact ⟨ad,e1,by omega,hs,hc⟩
theorem RdE.below (h:RdE w B A l) (hb:Below B w w'):RdE w' B A l:=h.keep fun _ hp=>hb.cell hp
theorem RdE.take (h:RdE w B A l) (n:Nat):RdE w B A (l.take n):=fun k u hu=>h k u (by
  rw [List.getElem?_take] at hu
  split at hu
  · exact hu
  · cases hu)
theorem RdE.at_ {k:Nat} (h:RdE w B A l) (hk:k < l.length):∃ ad e,A = some ad∧ad.block < B∧l[k]? = some e∧e.nm.size ≤ 9223372036854775807 ∧
    w.cell? (ad.add (k * 5)) = some (.string e.nm)∧w.cell? (ad.add (k * 5 + 1)) = some (.bool e.c)∧w.cell? (ad.add (k * 5 + 2)) = some (.bool e.o)∧w.cell? (ad.add (k * 5 + 3)) = some (.bool e.f)∧w.cell? (ad.add (k * 5 + 4)) = some (.int .i64 e.fault):=by
  obtain ⟨ad,e1,hb,hs,hc⟩:=h k _ (List.getElem?_eq_getElem hk)
  exact ⟨ad,_,e1,hb,List.getElem?_eq_getElem hk,hs,hc 0 _ rfl,hc 1 _ rfl,hc 2 _ rfl,hc 3 _ rfl,hc 4 _ rfl⟩
end
end Go.Proofs.Ytdnmpndnpfklcaa
namespace Go.Proofs.Ytdnmpndnpfklcaa
open Go.RowKit Go
end Go.Proofs.Ytdnmpndnpfklcaa
namespace Go.Proofs.Ytdnmpndnpfklcaa
open Go.RowKit Go Go.Maps
def NamesIn (w:World) (b n:Nat) (names:List ByteArray):Prop :=
  ∃ D:DataW Unit,w.ownsMap Try.prog 9 (plainElem Try.prog 4) b n D∧∀ s:ByteArray,D.atKey (.string s.data.toList) (.lit (.bool false)) = .lit (.bool (inB names s))
section
variable {w w':World} {b n:Nat} {names:List ByteArray}
theorem NamesIn.made (w:World):NamesIn (w.alloc (.map #[] 0)) w.heap.size 0 []:=⟨_,World.ownsMap_made _ _ _ _,fun _=>rfl⟩
theorem NamesIn.mono (h:NamesIn w b n names) {m:Nat} (hn:n ≤ m):NamesIn w b m names:=by
  obtain ⟨D,h1,h2⟩:=h
  exact ⟨D,h1.mono hn,h2⟩
theorem NamesIn.lt (h:NamesIn w b n names):b < w.heap.size:=by
  obtain ⟨D,h1,h2⟩:=h
  exact h1.lt
theorem NamesIn.kept (h:NamesIn w b n names) {row:Option Nat} (hg:w.grownBy w' row) (hne:some b ≠ row):NamesIn w' b n names:=by
  obtain ⟨D,h1,h2⟩:=h
  exact ⟨D,h1.kept hg hne,h2⟩
theorem NamesIn.alloc (h:NamesIn w b n names) (o:Obj):NamesIn (w.alloc o) b n names:=h.kept (World.grownBy_alloc w o none) (by simp)
end
end Go.Proofs.Ytdnmpndnpfklcaa
namespace Go.Proofs.Ytdnmpndnpfklcaa
open Go.RowKit Go
theorem ev2 {pre:List ByteArray} {e:Ev} (h:nameB e.nm = true) (h2:inB pre e.nm = false) (h3:e.fault < 0 ∨ 4 < e.fault):evErr pre e = 2:=by simp [evErr,h,h2,h3]
end Go.Proofs.Ytdnmpndnpfklcaa

/- Walks: product.Synchronous. -/
namespace Go.Proofs.Ytdnmpndnpfklcaa
open Go.RowKit Go Go.Maps
def Fr3 (r:Nat) (A M E:Option Addr):Prop:=(∀ ad,A = some ad → r < ad.block)∧(∀ ad,M = some ad → r < ad.block)∧(∀ ad,E = some ad → r < ad.block)
end Go.Proofs.Ytdnmpndnpfklcaa

/- Walks: slices.Equal at edges, automaton.Equal; the law's same, sameAll, none. -/
namespace Go.Proofs.Ytdnmpndnpfklcaa
open Go.RowKit Go
end Go.Proofs.Ytdnmpndnpfklcaa
/- Walks: the law's two, none; what is read of blocks written out. -/
namespace Go.Proofs.Ytdnmpndnpfklcaa
open Go.RowKit Go Go.Maps
section
variable {w:World} {b:Nat} {t:TypeId} {vs:List Value}
theorem Blk.al (h:Blk w b t vs) (o:Obj):Blk (w.alloc o) b t vs:=h.below (box_below _ _) h.lt
theorem Blk.at_ (w:World) (t:TypeId) (vs:List Value) (h:w.heap.size = b):Blk (w.alloc (.cells vs.toArray t)) b t vs:=by subst h;exact Blk.new _ _ _
theorem Blk.rdv (h:Blk w b t vs):RdV w w.heap.size (some ⟨b,0,none⟩) vs:=fun k u hu=>⟨_,rfl,h.lt,by rw [add_lit0];exact h.cell hu⟩
theorem Blk.rdi {l:List Int} (h:Blk w b t (iv l)):RdI w w.heap.size (some ⟨b,0,none⟩) l:=h.rdv
theorem Blk.rdr {α:Type} {f:α → List Value} {sz:Nat} {l:List α} (hs:∀ x ∈ l,(f x).length = sz) (h:Blk w b t (l.flatMap f)):RdR sz f w w.heap.size (some ⟨b,0,none⟩) l:=fun k x hx =>
  ⟨_,rfl,h.lt,fun j u hj=>by rw [add_lit0];exact h.cell (flat_get f sz l hs k x j u hx hj)⟩
theorem Blk.rdx {l:List Ed} (h:Blk w b t (l.flatMap edc)):RdX w w.heap.size (some ⟨b,0,none⟩) l:=Blk.rdr (fun _ _=>rfl) h
end
end Go.Proofs.Ytdnmpndnpfklcaa
/- Walks: product.Compose with a fresh result, at few automata. -/
namespace Go.Proofs.Ytdnmpndnpfklcaa
open Go.RowKit Go Go.Maps
theorem AutR.ok {w:World} {B:Nat} {A:Option Addr} {na ca:Nat} {M:Option Addr} {nm cm:Nat} {E:Option Addr} {ne ce:Nat} {a:Aut} (h:AutR w B A na ca M nm cm E ne ce a):(AV.mk A na ca M nm cm E ne ce a).ok w B:=h
end Go.Proofs.Ytdnmpndnpfklcaa
