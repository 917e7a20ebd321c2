/- Regions that draw their order, walked once in the text's order: reads are taken first where they yield in every world that may come up before them (A: facts that always hold; B: facts that hold until operation q, which waits for the reads of B, has come up). No program in sight. -/
import Derived.OrdersHeld
import Derived.Still
import Derived.StillTail
import Derived.KernelRfl
import Derived.Test.YtdnmpndnpfklcaaGa
import Derived.IntWalk
import Derived.Test.YtdnmpndnpfklcaaRow
import Derived.Deep.Strs
import Derived.Test.YtdnmpndnpfklcaaSa
import Derived.Maps.Own
import Derived.Maps.OwnOps
import Derived.Maps.Views
import Derived.Maps.OwnSet
import Derived.WideAt
import Derived.Deep.RegionHeld3
import Derived.Test.YtdnmpndnpfklcaaAa
import Derived.Test.YtdnmpndnpfklcaaQa

namespace Go.Proofs.Ytdnmpndnpfklcaa
open Go
section
variable {P:Program} {ops:Array Oper} {md:Region.Mode} {Q:Exit → Act → World → Prop} {A B:World → Prop} {q:Nat}
def heldU (A B:World → Prop) (q:Nat) (listed:Array Bool) (w:World):Prop:=A w∧(listed.getD q true = false → B w)
def anyU (P:Program) (md:Region.Mode) (ops:Array Oper) (Q:Exit → Act → World → Prop) (A B:World → Prop) (q:Nat):Nat → Array Bool → Act → World → Prop
 | 0,listed,a,w=>Region.ready md ops listed = []∧Q .normal a w
 | f + 1,listed,a,w=>(Region.ready md ops listed = [] → Q .normal a w)∧∀ i ∈ Region.ready md ops listed,wpOp P ops Q i (fun a' w'=>heldU A B q (listed.setIfInBounds i true) w'∧anyU P md ops Q A B q f (listed.setIfInBounds i true) a' w') a w
theorem any_of_U:∀ (f:Nat) (listed:Array Bool) (a:Act) (w:World),anyU P md ops Q A B q f listed a w → wpAny P md ops Q f listed a w
 | 0,_,_,_,h=>h
 | f + 1,_,_,_,h=>⟨h.1,fun i hi=>wpOp_mono (fun a' w' h'=>any_of_U f _ a' w' h'.2) (h.2 i hi)⟩
theorem anyU_first {i:Nat} {oi:Oper} {v:Value} (hi:ops[i]? = some oi) (hsel:∀ (j:Nat) (o:Oper) cs b,ops[j]? = some o → o.op ≠ .select cs b)
  (hQ:∀ c a w,Q (.panic c) (a.put oi.dst v) w → Q (.panic c) a w) (hiq:i ≠ q) :
  ∀ (f:Nat) (listed:Array Bool) (a:Act) (w:World),
   (∀ j oj,ops[j]? = some oj → j ≠ i → listed.getD j true = false → (∀ e ∈ oj.after,Region.binds md e = true → e.on ≠ i) → oi.apart ops oj = true) →
   i ∈ Region.ready md ops listed → YieldsIf P ops (fun w=>A w∧(Region.waitsFor md ops q i = true → B w)) oi v a → heldU A B q listed w → (Region.waitsFor md ops q i = true → listed.getD q true = false) →
   anyU P md ops Q A B q f (listed.setIfInBounds i true) (a.put oi.dst v) w → anyU P md ops Q A B q (f + 1) listed a w
 | f,listed,a,w,hfree,hr,hy,hS,hu,H=>by
  have hsame:∀ (L:Array Bool) (W:World),heldU A B q (L.setIfInBounds i true) W ↔ heldU A B q L W:=fun L W=>by unfold heldU;rw [getD_set_ne true hiq]
  have hrun:∀ {K:Act → World → Prop},K (a.put oi.dst v) w → wpOp P ops Q i K a w:=fun hK=>hy.wpOp hi ⟨hS.1,fun h=>hS.2 (hu h)⟩ hK
  refine ⟨fun h=>(by rw [h] at hr;cases hr),fun j hj=>?_⟩
  by_cases hji:j = i
  ·subst hji;exact hrun ⟨(hsame _ _).2 hS,H⟩
  match f,H with
  | 0,H =>
   have:=ready_mono hj hji
   rw [H.1] at this
   cases this
  | f + 1,H =>
   have h1:=H.2 j (ready_mono hj hji)
   obtain ⟨hjun,oj,hoj,hall⟩:=mem_ready.1 hj
   have hun:=(mem_ready.1 hr).1
   have hnot:∀ e ∈ oj.after,Region.binds md e = true → e.on ≠ i:=fun e he hb heq=>by
    have h1:=hall e he hb
    rw [heq,getD_both hun] at h1
    cases h1
   have h2:=wpOp_putIf hoj (hfree j oj hoj hji hjun hnot) (fun cs b=>hsel i oi cs b hi) (fun cs b=>hsel j oj cs b hoj) hQ hy h1
   have hfree':∀ k ok,ops[k]? = some ok → k ≠ i → (listed.setIfInBounds j true).getD k true = false → (∀ e ∈ ok.after,Region.binds md e = true → e.on ≠ i) → oi.apart ops ok = true:=fun k ok hk hki hun hno=>by
    refine hfree k ok hk hki ?_ hno
    by_cases hjk:j = k
    ·subst hjk;exact hjun
    ·rw [getD_set_ne true hjk] at hun;exact hun
   have hu':Region.waitsFor md ops q i = true → (listed.setIfInBounds j true).getD q true = false:=fun hw=>by
    have hjq:j ≠ q:=by
     rintro rfl
     obtain ⟨o',ho',e,he,hb,hon⟩:=Region.waitsFor_spec hw
     obtain rfl:o' = oj:=Option.some.inj (ho'.symm.trans hoj)
     exact hnot e he hb hon
    rw [getD_set_ne true hjq];exact hu hw
   refine wpOp_mono (fun a' w' h3=>?_) h2
   have hS':heldU A B q (listed.setIfInBounds j true) w':=by
    have:=h3.2.1
    rw [Array.setIfInBounds_comm _ _ (Ne.symm hji)] at this
    exact (hsame _ _).1 this
   refine ⟨hS',anyU_first hi hsel hQ hiq f (listed.setIfInBounds j true) a' w' hfree' (ready_mono hr (Ne.symm hji)) h3.1 hS' hu' ?_⟩
   rw [Array.setIfInBounds_comm _ _ hji]
   exact h3.2.2
def takeB (md:Region.Mode) (ops:Array Oper) (q i:Nat) (listed:Array Bool):Bool :=
 Region.noSelect ops && Region.free md ops listed i && (Region.ready md ops listed).contains i && decide (i ≠ q) && (!Region.waitsFor md ops q i || !listed.getD q true)
theorem anyU_take {i:Nat} {oi:Oper} {v:Value} {f:Nat} {listed:Array Bool} {a:Act} {w:World} (hi:ops[i]? = some oi) (hB:takeB md ops q i listed = true)
  (hQ:∀ c a w,Q (.panic c) (a.put oi.dst v) w → Q (.panic c) a w) (hw:Region.wanted oi (yielded ops a.tmps) = true) (hy:∀ W,A W → (Region.waitsFor md ops q i = true → B W) → (execOp a.eval oi).run P W = .ok (.value v) W)
  (hS:heldU A B q listed w) (h:anyU P md ops Q A B q f (listed.setIfInBounds i true) (a.put oi.dst v) w):anyU P md ops Q A B q (f + 1) listed a w:=by
 simp only [takeB,Bool.and_eq_true,Bool.or_eq_true,Bool.not_eq_true',decide_eq_true_eq] at hB
 obtain ⟨⟨⟨⟨h1,h2⟩,h3⟩,h4⟩,h5⟩:=hB
 refine anyU_first hi (Region.noSelect_spec h1) hQ h4 f listed a w (Region.free_spec hi h2) (by simpa using h3) (.inl ⟨hw,fun W hW=>hy W hW.1 hW.2⟩) hS (fun hq=>?_) h
 rcases h5 with h5 | h5
 ·rw [h5] at hq;cases hq
 ·exact h5
theorem anyU_takeY {i:Nat} {oi:Oper} {v:Value} {f:Nat} {listed:Array Bool} {a:Act} {w:World} (hi:ops[i]? = some oi) (hB:takeB md ops q i listed = true)
  (hQ:∀ c a w,Q (.panic c) (a.put oi.dst v) w → Q (.panic c) a w) (hy:YieldsIf P ops A oi v a)
  (hS:heldU A B q listed w) (h:anyU P md ops Q A B q f (listed.setIfInBounds i true) (a.put oi.dst v) w):anyU P md ops Q A B q (f + 1) listed a w:=by
 simp only [takeB,Bool.and_eq_true,Bool.or_eq_true,Bool.not_eq_true',decide_eq_true_eq] at hB
 obtain ⟨⟨⟨⟨h1,h2⟩,h3⟩,h4⟩,h5⟩:=hB
 refine anyU_first hi (Region.noSelect_spec h1) hQ h4 f listed a w (Region.free_spec hi h2) (by simpa using h3) (hy.imp (fun ⟨hw,hv⟩=>⟨hw,fun W hW=>hv W hW.1⟩) id) hS (fun hq=>?_) h
 rcases h5 with h5 | h5
 ·rw [h5] at hq;cases hq
 ·exact h5
theorem anyU_one {i:Nat} {oi:Oper} {f:Nat} {listed:Array Bool} {a:Act} {w:World} (hi:ops[i]? = some oi) (hr:Region.ready md ops listed = [i])
  (h:∀ K:Act → World → Prop,(∀ a' w',heldU A B q (listed.setIfInBounds i true) w' → anyU P md ops Q A B q f (listed.setIfInBounds i true) a' w' → K a' w') → if Region.wanted oi (yielded ops a.tmps) then oi.wp P a w K Q else K (a.put oi.dst undef) w) :
  anyU P md ops Q A B q (f + 1) listed a w:=by
 refine ⟨fun h0=>(by rw [hr] at h0;cases h0),fun j hj=>?_⟩
 rw [hr] at hj
 obtain rfl:j = i:=by simpa using hj
 have:=h (fun a' w'=>heldU A B q (listed.setIfInBounds j true) w'∧anyU P md ops Q A B q f (listed.setIfInBounds j true) a' w') (fun a' w' h1 h2=>⟨h1,h2⟩)
 unfold wpOp
 simp only [hi]
 split
 ·rename_i hw;rw [if_pos hw] at this;exact .inl this
 ·rename_i hw;rw [if_neg hw] at this;exact this
theorem anyU_done {listed:Array Bool} {a:Act} {w:World} (hr:Region.ready md ops listed = []) (h:Q .normal a w):∀ f,anyU P md ops Q A B q f listed a w
 | 0=>⟨hr,h⟩
 | _ + 1=>⟨fun _=>h,by rw [hr];simp⟩
end
section
variable {P:Program} {l:List Oper} {md:Region.Mode} {Q:Exit → Act → World → Prop} {A B:World → Prop} {q:Nat}
theorem at_drop {i:Nat} {oi:Oper} {r:List Oper} (h:l.drop i = oi :: r):l.toArray[i]? = some oi:=by
 have h1:(l.drop i)[0]? = some oi:=by rw [h];rfl
 rw [List.getElem?_drop] at h1
 simpa using h1
theorem uTakeY {i:Nat} {oi:Oper} {r:List Oper} {v:Value} {f:Nat} {listed:Array Bool} {a:Act} {w:World} (hi:l.drop i = oi :: r) (hB:takeB md l.toArray q i listed = true)
  (hQ:∀ c a w,Q (.panic c) (a.put oi.dst v) w → Q (.panic c) a w) (hy:YieldsIf P l.toArray A oi v a)
  (hS:heldU A B q listed w) (h:anyU P md l.toArray Q A B q f (listed.setIfInBounds i true) (a.put oi.dst v) w):anyU P md l.toArray Q A B q (f + 1) listed a w :=
 anyU_takeY (at_drop hi) hB hQ hy hS h
theorem uA (i:Nat) {oi:Oper} {r:List Oper} (v:Value) {f:Nat} {listed:Array Bool} {a:Act} {w:World} (hi:l.drop i = oi :: r) (hA0:A w) (hB0:B w) (hy:∀ W,A W → (execOp a.eval oi).run P W = .ok (.value v) W)
  (h:anyU P md l.toArray Q A B q f (listed.setIfInBounds i true) (a.put oi.dst v) w) (hB:takeB md l.toArray q i listed = true:=by kernel_rfl)
  (hQ:∀ c a w,Q (.panic c) (a.put oi.dst v) w → Q (.panic c) a w:=by exact fun _ _ _ h=>h) (hw:Region.wanted oi (yielded l.toArray a.tmps) = true:=by rfl):anyU P md l.toArray Q A B q (f + 1) listed a w :=
 anyU_take (at_drop hi) hB hQ hw (fun W h1 _=>hy W h1) ⟨hA0,fun _=>hB0⟩ h
theorem uB (i:Nat) {oi:Oper} {r:List Oper} (v:Value) {f:Nat} {listed:Array Bool} {a:Act} {w:World} (hi:l.drop i = oi :: r) (hA0:A w) (hB0:B w) (hy:∀ W,A W → B W → (execOp a.eval oi).run P W = .ok (.value v) W)
  (h:anyU P md l.toArray Q A B q f (listed.setIfInBounds i true) (a.put oi.dst v) w) (hB:takeB md l.toArray q i listed = true:=by kernel_rfl) (hW:Region.waitsFor md l.toArray q i = true:=by kernel_rfl)
  (hQ:∀ c a w,Q (.panic c) (a.put oi.dst v) w → Q (.panic c) a w:=by exact fun _ _ _ h=>h) (hw:Region.wanted oi (yielded l.toArray a.tmps) = true:=by rfl):anyU P md l.toArray Q A B q (f + 1) listed a w :=
 anyU_take (at_drop hi) hB hQ hw (fun W h1 h2=>hy W h1 (h2 hW)) ⟨hA0,fun _=>hB0⟩ h
theorem uS (i:Nat) {oi:Oper} {r:List Oper} {f:Nat} {listed:Array Bool} {a:Act} {w:World} (hi:l.drop i = oi :: r) (hA0:A w) (hB0:B w) (h:anyU P md l.toArray Q A B q f (listed.setIfInBounds i true) (a.put oi.dst undef) w)
  (hB:takeB md l.toArray q i listed = true:=by kernel_rfl) (hQ:∀ c a w,Q (.panic c) (a.put oi.dst undef) w → Q (.panic c) a w:=by exact fun _ _ _ h=>h) (hw:Region.wanted oi (yielded l.toArray a.tmps) = false:=by rfl):anyU P md l.toArray Q A B q (f + 1) listed a w :=
 anyU_takeY (at_drop hi) hB hQ (.inr ⟨hw,rfl⟩) ⟨hA0,fun _=>hB0⟩ h
theorem uOne {i:Nat} {oi:Oper} {r:List Oper} {f:Nat} {listed:Array Bool} {a:Act} {w:World} (hi:l.drop i = oi :: r) (hr:Region.ready md l.toArray listed = [i])
  (h:∀ K:Act → World → Prop,(∀ a' w',heldU A B q (listed.setIfInBounds i true) w' → anyU P md l.toArray Q A B q f (listed.setIfInBounds i true) a' w' → K a' w') → if Region.wanted oi (yielded l.toArray a.tmps) then oi.wp P a w K Q else K (a.put oi.dst undef) w) :
  anyU P md l.toArray Q A B q (f + 1) listed a w:=anyU_one (at_drop hi) hr h
end
theorem wp_region_U {P:Program} {id:Nat} {Q:Exit → Act → World → Prop} {a:Act} {w:World} {l:List Oper} (A B:World → Prop) (q:Nat) (hm:P.follows .mixedOrders = true)
  (h:anyU P .any l.toArray Q A B q l.toArray.size (Array.replicate l.toArray.size false) a w.drew):(Code.region id l.toArray true).wp P Q a w :=
 wp_region_any hm (any_of_U _ _ _ _ h)
end Go.Proofs.Ytdnmpndnpfklcaa
/- Walks: ref03.Canonical. -/
namespace Go.Proofs.Ytdnmpndnpfklcaa
open Go.RowKit Go
end Go.Proofs.Ytdnmpndnpfklcaa

/- Walks: L03.Make. -/
namespace Go.Proofs.Ytdnmpndnpfklcaa
open Go.RowKit Go
end Go.Proofs.Ytdnmpndnpfklcaa

/- From a row's readings to the walks' words: graphs, parts, problems (chapter 26). -/
namespace Go.Proofs.Ytdnmpndnpfklcaa
open Go.ChangeShapes Go.WideShapes Go.ChangeAt Go.RowKit Go.Deep Go
section
variable {H:Type} {enc:TypeId × Value → H} {W:World} {base:Nat} {spare:Nat → Bool} {held:Bool}
theorem one_of {cs:List Value} {i:Nat} {v:Value} (h:(cs.drop i).take 1 = [v]):cs[i]? = some v:=by
 have h1:((cs.drop i).take 1)[0]? = some v:=by rw [h];rfl
 rw [List.getElem?_take,if_pos (by omega),List.getElem?_drop] at h1
 simpa using h1
theorem u8_wf {z:Int} (h:(Lit.int .u8 z).wf = true):0 ≤ z∧z ≤ 255:=by
 simp [Lit.wf,IntKind.min,IntKind.max,IntKind.bits,IntKind.signed] at h
 omega
theorem cells_one {fuel:Nat} {cs:List Value} {o:Nat} {t:TypeId} {x:DataW H × List MemPlace} (ht:Try.prog.underlying t = some (.int .u8)) (hc:Try.prog.cellsOf t = 1) (h:DataW.trod enc Try.prog W base spare held fuel t ((cs.drop o).take (Try.prog.cellsOf t)) = some x):∃ z:Int,cs[o]? = some (.int .u8 z)∧0 ≤ z∧z ≤ 255:=by
 rw [hc] at h
 obtain ⟨z,hz,_,hw⟩:=DataW.trod_int ht h
 exact ⟨z,one_of hz,u8_wf hw⟩
theorem cons_of {cs:List Value} {v:Value} (h:cs[0]? = some v):cs = v :: cs.drop 1:=by
 cases cs with
 | nil=>simp at h
 | cons a r=>simp at h;subst h;rfl
end
end Go.Proofs.Ytdnmpndnpfklcaa

/- Names, events, alphabet.Check. Printed by wip/mkip.py. -/
namespace Go.Proofs.Ytdnmpndnpfklcaa
open Go.RowKit Go
structure Ev where
 nm:ByteArray
 c:Bool
 o:Bool
 f:Bool
 fault:Int
def letB (c:Int):Bool:=(decide (97 ≤ c) && decide (c ≤ 122)) || (decide (65 ≤ c) && decide (c ≤ 90)) || (c == 95)
def digB (c:Int):Bool:=decide (48 ≤ c) && decide (c ≤ 57)
def okB (i:Nat) (c:Int):Bool:=letB c || (digB c && !(i == 0))
def okG:Nat → List UInt8 → Bool
 | _,[]=>true
 | i,c :: r=>okB i (c.toNat:Int) && okG (i + 1) r
def nameB (s:ByteArray):Bool:=decide (0 < s.size) && decide (s.size ≤ 32) && okG 0 s.data.toList
def inB (pre:List ByteArray) (s:ByteArray):Bool:=pre.any (fun t=>decide (t = s))
def evErr (pre:List ByteArray) (e:Ev):Int :=
 if nameB e.nm = false then 7 else if inB pre e.nm = true then 8 else if e.fault < 0 ∨ 4 < e.fault then 2 else if e.fault ≠ 0∧(e.c = true ∨ e.o = true) then 13 else 0
end Go.Proofs.Ytdnmpndnpfklcaa
namespace Go.Proofs.Ytdnmpndnpfklcaa
open Go.RowKit Go
end Go.Proofs.Ytdnmpndnpfklcaa
namespace Go.Proofs.Ytdnmpndnpfklcaa
open Go.RowKit Go Go.Maps
end Go.Proofs.Ytdnmpndnpfklcaa
namespace Go.Proofs.Ytdnmpndnpfklcaa
open Go.RowKit Go
theorem ev2 {pre:List ByteArray} {e:Ev} (h:nameB e.nm = true) (h2:inB pre e.nm = false) (h3:e.fault < 0 ∨ 4 < e.fault):evErr pre e = 2:=by simp [evErr,h,h2,h3]
end Go.Proofs.Ytdnmpndnpfklcaa

/- Walks: product.Synchronous. -/
namespace Go.Proofs.Ytdnmpndnpfklcaa
open Go.RowKit Go Go.Maps
end Go.Proofs.Ytdnmpndnpfklcaa

/- Walks: slices.Equal at edges, automaton.Equal; the law's same, sameAll, none. -/
namespace Go.Proofs.Ytdnmpndnpfklcaa
open Go.RowKit Go
def eqE (a b:List Ed):Bool:=decide (a = b)
theorem eqE_ne {a b:List Ed} {k:Nat} {x y:Ed} (ha:a[k]? = some x) (hb:b[k]? = some y) (h:x ≠ y):eqE a b = false:=by
 unfold eqE;rw [decide_eq_false_iff_not];rintro rfl;rw [ha] at hb;injection hb with hb;exact h hb
theorem eqE_len {a b:List Ed} (h:a.length ≠ b.length):eqE a b = false:=by
 unfold eqE;rw [decide_eq_false_iff_not];rintro rfl;exact h rfl
theorem eqE_of {a b:List Ed} (h:a = b):eqE a b = true:=by unfold eqE;rw [decide_eq_true_iff];exact h
theorem take_eq_snocE {a b:List Ed} {k:Nat} {x:Ed} (ha:a[k]? = some x) (hb:b[k]? = some x) (h:a.take k = b.take k):a.take (k + 1) = b.take (k + 1):=by rw [take_snoc' ha,take_snoc' hb,h]
theorem eq_of_dropE {a b:List Ed} (hl:a.length = b.length) {k:Nat} (h:a.take k = b.take k) (hk:¬ k < a.length):a = b:=by
 rwa [List.take_of_length_le (by omega),List.take_of_length_le (by omega)] at h
set_option maxHeartbeats 800000 in
theorem slices_EqualE (A B:Option Addr) (c d na nb:Nat) (a b:List Ed) (q:Bool) (w:World) (hla:a.length = na) (hlb:b.length = nb) (hq:eqE a b = q) (ha:RdX w w.heap.size A a) (hac:na ≤ c) (hc:c ≤ 9223372036854775807)
  (hb:RdX w w.heap.size B b) :
  Calls Try.prog 76 #[.slice A na c,.slice B nb d] w fun e w'=>e = .returned (.bool q)∧∃ n,w' = w.drewN n:=by
 by_cases hl:na = nb
 ·subst hl
  have HLA:=Lib.hid hla;clear hla
  have HLB:=Lib.hid hlb;clear hlb
  have HQ:=Lib.hid hq;clear hq
  go_enter Try.func76,Try.ntmps76
  go_wp2
  go_loopw [13] (fun i wr=>∃ k:Nat,k ≤ na∧i = .int .i64 k∧Hid (a.take k = b.take k)∧∃ n,wr = w.drewN n) (fun i _=>na - (intOf i).toNat)
  case atStart=>exact ⟨0,Nat.zero_le _,rfl,Lib.hid rfl,(by first | exact dr00 _ | exact dr0 _ _ | exact dr1 _ _ _ | exact dr2 _ _ _ _ | exact dr3 _ _ _ _ _)⟩
  case round =>
   obtain ⟨k,hk,rfl,HX,n,rfl⟩:=hrel
   by_cases hlt:k < na
   ·obtain ⟨ad,x,rfl,_,hx,p0,p1,p2⟩:=ha.at_ (k:=k) (by have:=HLA.out;omega)
    obtain ⟨bd,y,rfl,_,hy,q0,q1,q2⟩:=hb.at_ (k:=k) (by have:=HLB.out;omega)
    have b1:(k:Int) < (na:Int):=by omega
    have g1:=st_cells (j:=0) p1
    have g2:=st_cells (j:=1) p2
    have j1:=st_cells (j:=0) q1
    have j2:=st_cells (j:=1) q2
    clear p1 p2 q1 q2
    obtain ⟨xf,xe,xt⟩:=x
    obtain ⟨yf,ye,yt⟩:=y
    simp only at p0 g1 g2 q0 j1 j2
    have HXX:=Lib.hid hx;clear hx
    have HYY:=Lib.hid hy;clear hy
    by_cases e1:xf = yf
    ·subst e1
     by_cases e2:xe = ye
     ·subst e2
      by_cases e3:xt = yt
      ·subst e3
       go_wp2
       go_quiet (fail)
       go_wp2
       go_roundw
       case rel=>exact ⟨k + 1,by omega,by go_num,Lib.hid (take_eq_snocE HXX.out HYY.out HX.out),(by first | exact dr00 _ | exact dr0 _ _ | exact dr1 _ _ _ | exact dr2 _ _ _ _ | exact dr3 _ _ _ _ _)⟩
       case measure=>simp [intOf];omega
      ·go_wp2
       go_quiet (fail)
       go_wp2
       go_ret
       exact ⟨ret_bool (HQ.out.symm.trans (eqE_ne HXX.out HYY.out (by simp only [ne_eq,Ed.mk.injEq];omega))).symm,(by first | exact dr00 _ | exact dr0 _ _ | exact dr1 _ _ _ | exact dr2 _ _ _ _ | exact dr3 _ _ _ _ _)⟩
     ·go_wp2
      go_quiet (fail)
      go_wp2
      go_ret
      exact ⟨ret_bool (HQ.out.symm.trans (eqE_ne HXX.out HYY.out (by simp only [ne_eq,Ed.mk.injEq];omega))).symm,(by first | exact dr00 _ | exact dr0 _ _ | exact dr1 _ _ _ | exact dr2 _ _ _ _ | exact dr3 _ _ _ _ _)⟩
    ·go_wp2
     go_quiet (fail)
     go_wp2
     go_ret
     exact ⟨ret_bool (HQ.out.symm.trans (eqE_ne HXX.out HYY.out (by simp only [ne_eq,Ed.mk.injEq];omega))).symm,(by first | exact dr00 _ | exact dr0 _ _ | exact dr1 _ _ _ | exact dr2 _ _ _ _ | exact dr3 _ _ _ _ _)⟩
   ·have hf:=HQ.out.symm.trans (eqE_of (eq_of_dropE (HLA.out.trans HLB.out.symm) HX.out (by rw [HLA.out];exact hlt)))
    have HF:=Lib.hid hf;clear hf
    go_wp2
    go_ret
    exact ⟨ret_bool HF.out.symm,(by first | exact dr00 _ | exact dr0 _ _ | exact dr1 _ _ _ | exact dr2 _ _ _ _ | exact dr3 _ _ _ _ _)⟩
 ·have hl1:((na:Int) != (nb:Int)) = true:=by rw [bne_iff_ne];omega
  have hf:=hq.symm.trans (eqE_len (by rw [hla,hlb];exact hl))
  have HF:=Lib.hid hf;clear hf
  clear hq hla hlb
  go_enter Try.func76,Try.ntmps76
  go_wp2
  go_ret
  exact ⟨ret_bool HF.out.symm,(by first | exact dr00 _ | exact dr0 _ _ | exact dr1 _ _ _ | exact dr2 _ _ _ _ | exact dr3 _ _ _ _ _)⟩
def eqA (a b:Aut):Bool:=decide (a = b)
theorem eqA_of {a b:Aut} (h:a = b):eqA a b = true:=by unfold eqA;rw [decide_eq_true_iff];exact h
theorem eqA_def (a b:Aut):eqA a b = (decide (a.st = b.st) && eqB a.al b.al && eqB a.ma b.ma && eqE a.ed b.ed):=by
 obtain ⟨a1,a2,a3,a4⟩:=a
 obtain ⟨b1,b2,b3,b4⟩:=b
 unfold eqA eqB eqE
 rw [Bool.eq_iff_iff]
 simp only [decide_eq_true_iff,Bool.and_eq_true,Aut.mk.injEq]
 constructor
 ·rintro ⟨h1,h2,h3,h4⟩;simp [*]
 ·rintro ⟨⟨⟨h1,h2⟩,h3⟩,h4⟩;simp [*]
set_option maxRecDepth 100000 in
set_option maxHeartbeats 800000 in
theorem automaton_Equal (A M E A' M' E':Option Addr) (na ca nm cm ne ce na' ca' nm' cm' ne' ce':Nat) (a b:Aut) (q:Bool) (w:World) (hq:eqA a b = q)
  (ha:AutR w w.heap.size A na ca M nm cm E ne ce a) (hb:AutR w w.heap.size A' na' ca' M' nm' cm' E' ne' ce' b) :
  Calls Try.prog 32 #[.agg #[.slice A na ca,.int .i64 a.st,.slice M nm cm,.slice E ne ce],.agg #[.slice A' na' ca',.int .i64 b.st,.slice M' nm' cm',.slice E' ne' ce']] w fun e w'=>e = .returned (.bool q)∧Below w.heap.size w w':=by
 obtain ⟨q1,e1⟩:∃ q1,q1 = eqB a.al b.al:=⟨_,rfl⟩
 obtain ⟨q2,e2⟩:∃ q2,q2 = eqB a.ma b.ma:=⟨_,rfl⟩
 obtain ⟨q3,e3⟩:∃ q3,q3 = eqE a.ed b.ed:=⟨_,rfl⟩
 obtain ⟨x,hx⟩:∃ x,x = a.st:=⟨_,rfl⟩
 obtain ⟨y,hy⟩:∃ y,y = b.st:=⟨_,rfl⟩
 have hr:=eqA_def a b
 rw [hq,← e1,← e2,← e3,← hx,← hy] at hr
 rw [← hx,← hy]
 have HR:=Lib.hid hr;clear hr
 have hB:=(box_below w (.cells #[.slice A na ca,.int .i64 x,.slice M nm cm,.slice E ne ce] 32)).trans ((box_below _ (.cells #[.slice A' na' ca',.int .i64 y,.slice M' nm' cm',.slice E' ne' ce'] 32)).mono (by simp))
 obtain ⟨W,hW⟩:∃ W,W = ((w.alloc (.cells #[.slice A na ca,.int .i64 x,.slice M nm cm,.slice E ne ce] 32)).alloc (.cells #[.slice A' na' ca',.int .i64 y,.slice M' nm' cm',.slice E' ne' ce'] 32)):=⟨_,rfl⟩
 rw [← hW] at hB
 have C1:∀ n,Calls Try.prog 75 #[.slice A na ca,.slice A' na' ca'] (W.drewN n) fun e w'=>e = .returned (.bool q1)∧∃ n,w' = W.drewN n:=fun n=>(slices_Equal_n _ _ _ _ _ _ _ _ q1 (W.drewN n) ha.la hb.la e1.symm ((ha.ra.below hB).more hB.size) ha.ac ha.cA ((hb.ra.below hB).more hB.size)).mono fun _ _ ⟨h1,m,h2⟩=>⟨h1,n + m,by rw [h2,World.drewN_drewN]⟩
 have C2:∀ n,Calls Try.prog 75 #[.slice M nm cm,.slice M' nm' cm'] (W.drewN n) fun e w'=>e = .returned (.bool q2)∧∃ n,w' = W.drewN n:=fun n=>(slices_Equal_n _ _ _ _ _ _ _ _ q2 (W.drewN n) ha.lm hb.lm e2.symm ((ha.rm.below hB).more hB.size) ha.mc ha.cM ((hb.rm.below hB).more hB.size)).mono fun _ _ ⟨h1,m,h2⟩=>⟨h1,n + m,by rw [h2,World.drewN_drewN]⟩
 have C3:∀ n,Calls Try.prog 76 #[.slice E ne ce,.slice E' ne' ce'] (W.drewN n) fun e w'=>e = .returned (.bool q3)∧∃ n,w' = W.drewN n:=fun n=>(slices_EqualE _ _ _ _ _ _ _ _ q3 (W.drewN n) ha.le hb.le e3.symm ((ha.re.below hB).more hB.size) ha.ec ha.cE ((hb.re.below hB).more hB.size)).mono fun _ _ ⟨h1,m,h2⟩=>⟨h1,n + m,by rw [h2,World.drewN_drewN]⟩
 subst hW
 have HC1:=Lib.hid C1;clear C1
 have HC2:=Lib.hid C2;clear C2
 have HC3:=Lib.hid C3;clear C3
 have HB:=Lib.hid hB;clear hB
 clear hx hy hq ha hb
 have E1:=Lib.hid e1;clear e1
 have E2:=Lib.hid e2;clear e2
 have E3:=Lib.hid e3;clear e3
 go_enter Try.func32,Try.ntmps32
 by_cases hst:x = y
 ·subst hst
  go_wp2_with fail
  refine (HC1.out 0).mono ?_
  rintro e w' ⟨rfl,n1,rfl⟩
  cases q1 with
  | false =>
   go_wp2
   go_ret
   exact ⟨ret_bool (HR.out.trans (by simp)).symm,below_drewN HB.out _⟩
  | true =>
   go_wp2_with fail
   refine (HC2.out n1).mono ?_
   rintro e w' ⟨rfl,n2,rfl⟩
   cases q2 with
   | false =>
    go_wp2
    go_ret
    exact ⟨ret_bool (HR.out.trans (by simp)).symm,below_drewN HB.out _⟩
   | true =>
    go_wp2_with fail
    refine (HC3.out n2).mono ?_
    rintro e w' ⟨rfl,n3,rfl⟩
    go_wp2
    go_ret
    exact ⟨ret_bool (HR.out.trans (by simp)).symm,below_drewN HB.out _⟩
 ·go_wp2
  go_ret
  exact ⟨ret_bool (HR.out.trans (by simp [hst])).symm,HB.out⟩
end Go.Proofs.Ytdnmpndnpfklcaa
/- Walks: the law's two, none; what is read of blocks written out. -/
namespace Go.Proofs.Ytdnmpndnpfklcaa
open Go.RowKit Go Go.Maps
section
variable {w:World} {b:Nat} {t:TypeId} {vs:List Value}
theorem Blk.al (h:Blk w b t vs) (o:Obj):Blk (w.alloc o) b t vs:=h.below (box_below _ _) h.lt
theorem Blk.at_ (w:World) (t:TypeId) (vs:List Value) (h:w.heap.size = b):Blk (w.alloc (.cells vs.toArray t)) b t vs:=by subst h;exact Blk.new _ _ _
end
end Go.Proofs.Ytdnmpndnpfklcaa
/- Walks: product.Compose with a fresh result, at few automata. -/
namespace Go.Proofs.Ytdnmpndnpfklcaa
open Go.RowKit Go Go.Maps
end Go.Proofs.Ytdnmpndnpfklcaa
