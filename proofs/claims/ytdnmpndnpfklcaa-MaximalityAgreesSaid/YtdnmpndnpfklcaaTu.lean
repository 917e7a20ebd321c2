/- Walks: the reference's Check of an automaton and of a list; ref01.Contains, ref03.has, ref03.List. -/
import Derived.Test.YtdnmpndnpfklcaaSa
import Derived.Test.YtdnmpndnpfklcaaAa
import Derived.Test.YtdnmpndnpfklcaaQa
import Derived.Test.YtdnmpndnpfklcaaMe
import Derived.Deep.RegionHeld3
import Derived.Deep.AppendLies
import Derived.OrdersHeld
import Derived.Still
import Derived.StillTail
import Derived.KernelRfl

namespace Go.Proofs.Ytdnmpndnpfklcaa
open Go.RowKit Go
end Go.Proofs.Ytdnmpndnpfklcaa
/- Walks: ref03.Step, ref06.Next, ref03.index, ref03.Empty; the statements' Set.Events. -/
namespace Go.Proofs.Ytdnmpndnpfklcaa
open Go.RowKit Go
structure AutO (w:World) (base:Nat) (A:Option Addr) (na ca:Nat) (M:Option Addr) (nm cm:Nat) (E:Option Addr) (ne ce:Nat) (a:Aut):Prop where
 la:a.al.length = na
 oa:w.ownsRow base 3 1 (.slice A na ca) na (iv a.al)
 lm:a.ma.length = nm
 om:w.ownsRow base 3 1 (.slice M nm cm) nm (iv a.ma)
 le:a.ed.length = ne
 oe:w.ownsRow base 67 3 (.slice E ne ce) ne (a.ed.flatMap edc)
section
variable {w w':World} {b0 b1:Nat} {A M E:Option Addr} {na ca nm cm ne ce:Nat} {a:Aut}
theorem AutO.rd (h:AutO w b0 A na ca M nm cm E ne ce a):AutR w w.heap.size A na ca M nm cm E ne ce a :=
 ⟨h.la,(own_cap' h.oa).1,(own_cap' h.oa).2,RdI.of_own h.oa,h.lm,(own_cap' h.om).1,(own_cap' h.om).2,RdI.of_own h.om,h.le,(own_cap' h.oe).1,(own_cap' h.oe).2,RdR.of_own (by omega) (fun _ _=>rfl) h.oe⟩
theorem AutO.below (h:AutO w b0 A na ca M nm cm E ne ce a) (hb:Below w.heap.size w w'):AutO w' b0 A na ca M nm cm E ne ce a :=
 ⟨h.la,own_below h.oa hb,h.lm,own_below h.om hb,h.le,own_below h.oe hb⟩
theorem AutO.down (h:AutO w b1 A na ca M nm cm E ne ce a) (hB:b0 ≤ b1):AutO w b0 A na ca M nm cm E ne ce a :=
 ⟨h.la,own_base h.oa hB,h.lm,own_base h.om hB,h.le,own_base h.oe hB⟩
theorem AutO.low (h:AutO w b0 A na ca M nm cm E ne ce a) {r:Nat} (hg:w.grownBy w' (some r)) (hr:r < b0):AutO w' b0 A na ca M nm cm E ne ce a :=
 ⟨h.la,own_kept_low h.oa hg hr,h.lm,own_kept_low h.om hg hr,h.le,own_kept_low h.oe hg hr⟩
end
theorem and_one_u8 {y:Int} (h0:0 ≤ y) (h1:y ≤ 255):(bits BinOp.and IntKind.u8 y 1 == 1) = (y % 2 == 1):=by
 rw [u8_and y 1 h0 (by omega) (by omega) (by omega)]
 have e:(y.toNat &&& (1:Int).toNat:Nat) = y.toNat % 2:=Nat.and_one_is_mod _
 rw [e,Bool.eq_iff_iff,beq_iff_eq,beq_iff_eq]
 omega
theorem bit_u8 {x:Int} {k:Nat} {b:Bool} (hb:bitB x k = b) (h0:0 ≤ x) (h1:x ≤ 255):(bits BinOp.and IntKind.u8 (x / 2 ^ k) 1 == 1) = b:=by
 have p:(0:Int) < 2 ^ k:=Int.pow_pos (by omega)
 have h2:0 ≤ x / 2 ^ k:=Int.ediv_nonneg h0 (by omega)
 have h3:x / 2 ^ k ≤ x:=Int.ediv_le_self _ h0
 rw [and_one_u8 h2 (by omega)];exact hb
end Go.Proofs.Ytdnmpndnpfklcaa
/- Walks: ref03.Found. -/
namespace Go.Proofs.Ytdnmpndnpfklcaa
open Go.RowKit Go
end Go.Proofs.Ytdnmpndnpfklcaa
/- An automaton under construction in a block of its own; the walk of ref03.Canonical. -/
namespace Go.Proofs.Ytdnmpndnpfklcaa
open Go.RowKit Go
structure Bld (w0 w:World) (v0 v1 mv ev:Value) (km ke:Nat) (mk:List Int) (es:List Ed):Prop where
 bel:Below w0.heap.size w0 w
 blk:Blk w w0.heap.size 32 [v0,v1,mv,ev]
 mrk:w.ownsRow (w0.heap.size + 1) 3 1 mv km (iv mk)
 mkl:mk.length = km
 edg:w.ownsRow (w0.heap.size + 1) 67 3 ev ke (es.flatMap edc)
 edl:es.length = ke
theorem below_dr (w:World):Below w.heap.size w w.drew:=⟨rfl,rfl,rfl,Nat.le_refl _,fun _ _=>rfl⟩
section
variable {w0 w w':World} {v0 v1 mv ev:Value} {km ke:Nat} {mk:List Int} {es:List Ed}
theorem Bld.start (w0:World) (v0 v1:Value):Bld w0 (w0.alloc (.cells #[v0,v1,.slice none 0 0,.slice none 0 0] 32)) v0 v1 (.slice none 0 0) (.slice none 0 0) 0 0 [] [] :=
 ⟨box_below _ _,Blk.new _ _ _,World.ownsRow_nil _ _ _ _,rfl,World.ownsRow_nil _ _ _ _,rfl⟩
theorem Bld.lt (h:Bld w0 w v0 v1 mv ev km ke mk es):w0.heap.size < w.heap.size:=h.blk.lt
theorem Bld.mark (h:Bld w0 w v0 v1 mv ev km ke mk es) {A:Option Addr} {c:Nat} {i:Int} (ho:w'.ownsRow (w0.heap.size + 1) 3 1 (.slice A (km + 1) c) (km + 1) (iv mk ++ [.int .i64 i])) (hg:w.grownBy w' mv.ownBlock) :
  Bld w0 (w'.setCell ⟨w0.heap.size,2,none⟩ (.slice A (km + 1) c)) v0 v1 (.slice A (km + 1) c) ev (km + 1) ke (mk ++ [i]) es:=by
 have r1:w0.heap.size < w0.heap.size + 1:=Nat.lt_succ_self _
 have hs:=grown_setCell w' w0.heap.size 2 (.slice A (km + 1) c)
 have hbl:=h.blk.kept hg (own_lt_ne h.mrk r1)
 exact ⟨(h.bel.grown hg (Nat.le_of_lt h.lt) (fun j hj=>by have:=(h.mrk.lt j hj).1;omega)).setCell (Nat.le_refl _) _,hbl.set (by simp) _,own_kept_low (by rw [iv_append];exact ho) hs r1,by simp [h.mkl],own_kept_low (own_kept_ne h.edg h.mrk (by decide) hg) hs r1,h.edl⟩
theorem Bld.edge (h:Bld w0 w v0 v1 mv ev km ke mk es) {A:Option Addr} {c:Nat} {x:Ed} (ho:w'.ownsRow (w0.heap.size + 1) 67 3 (.slice A (ke + 1) c) (ke + 1) (es.flatMap edc ++ edc x)) (hg:w.grownBy w' ev.ownBlock) :
  Bld w0 (w'.setCell ⟨w0.heap.size,3,none⟩ (.slice A (ke + 1) c)) v0 v1 mv (.slice A (ke + 1) c) km (ke + 1) mk (es ++ [x]):=by
 have r1:w0.heap.size < w0.heap.size + 1:=Nat.lt_succ_self _
 have hs:=grown_setCell w' w0.heap.size 3 (.slice A (ke + 1) c)
 have hbl:=h.blk.kept hg (own_lt_ne h.edg r1)
 exact ⟨(h.bel.grown hg (Nat.le_of_lt h.lt) (fun j hj=>by have:=(h.edg.lt j hj).1;omega)).setCell (Nat.le_refl _) _,hbl.set (by simp) _,own_kept_low (own_kept_ne h.mrk h.edg (by decide) hg) hs r1,h.mkl,own_kept_low (by simpa using ho) hs r1,by simp [h.edl]⟩
theorem Bld.fin {V M E:Option Addr} {nv cv cm ce:Nat} {st:Int} {al:List Int} {b:Nat} (h:Bld w0 w (.slice V nv cv) v1 (.slice M km cm) (.slice E ke ce) km ke mk es) (hv:al.length = nv) (ho:w0.ownsRow b 3 1 (.slice V nv cv) nv (iv al)) (hb:b ≤ w0.heap.size + 1) :
  AutO w b V nv cv M km cm E ke ce ⟨al,st,mk,es⟩ :=
 ⟨hv,own_below ho h.bel,h.mkl,own_base h.mrk hb,h.edl,own_base h.edg hb⟩
end
theorem step_pushN {P:Program} (w:World) (us:List Value) {ops:Array Oper} {o:Oper} {a:Act} {K:Act → World → Prop} {Q:Exit → Act → World → Prop} {E:Prop} (hgd:o.guard = none) (s x:Operand) (t:TypeId)
  (ho:o.op = .call { callee:=.builtin .append,args:=#[s,x],argTypes:=#[t,t] })
  (base:Nat) (e:TypeId) (z:Value) (size bytes:Nat) (ht:P.underlying t = some (.slice e)) (hinfo:(P.info? e).map (fun i=>(i.zero,i.size,i.bytes)) = some (some z,size,bytes))
  (hz1:z.cells.size = size) (hsz:0 < size) (hus:us.length = size) (v:Value) (n:Nat) (xs:List Value) (hs:a.eval s = v) (hown:w.ownsRow base e size v n xs)
  (hx:a.eval x = .slice (some ⟨w.heap.size,0,none⟩) 1 1) (h1:∀ u ∈ us,u.oneCell' = true) (hbytes:(n + 1) * bytes ≤ 140737488355328) (hn:n + 1 ≤ 9223372036854775807) (hbase:base ≤ w.heap.size)
  (h:∀ A c w',w'.ownsRow base e size (.slice A (n + 1) c) (n + 1) (xs ++ us) → w.grownBy w' v.ownBlock → K (a.put o.dst (.slice A (n + 1) c)) w') :
  if Region.wanted o (yielded ops a.tmps) = true then Oper.wp P o a (w.alloc (.cells us.toArray e)) K Q else E:=by
 obtain ⟨i,hi,hz,hs1,hby⟩:=info_parts hinfo
 refine step_append_lies (w.alloc (.cells us.toArray e)) hgd s x t ho base e i z size bytes ht hi hz hs1 hby hz1 hsz v n xs hs (hown.alloc _) ⟨w.heap.size,0,none⟩ 1 1 us hx (by rw [hus,Nat.one_mul]) ?_ h1 (by omega) (by unfold maxLen;omega) hbytes (by simp;omega) _ rfl ?_
 ·intro j y hj
  rw [add_lit0,cell_of_row _ _ _ _ e (0,0) (heap_alloc_new w _)]
  simpa using hj
 ·intro g cap w' ho' hg _ _
  have hg':w.grownBy w' v.ownBlock:=⟨hg.os,hg.tape,hg.output,Nat.le_trans (by simp) hg.size,fun k hk hne=>(hg.block k (by simp;omega) hne).trans (Below.heap_alloc w _ k hk)⟩
  exact h _ cap w' ho' hg'
end Go.Proofs.Ytdnmpndnpfklcaa
/- Regions that draw their order, walked once in the text's order: reads are taken first where they yield in every world that may come up before them (A: facts that always hold; B: facts that hold until operation q, which waits for the reads of B, has come up). No program in sight. -/
namespace Go.Proofs.Ytdnmpndnpfklcaa
open Go
section
variable {P:Program} {ops:Array Oper} {md:Region.Mode} {Q:Exit → Act → World → Prop} {A B:World → Prop} {q:Nat}
def heldU (A B:World → Prop) (q:Nat) (listed:Array Bool) (w:World):Prop:=A w∧(listed.getD q true = false → B w)
def anyU (P:Program) (md:Region.Mode) (ops:Array Oper) (Q:Exit → Act → World → Prop) (A B:World → Prop) (q:Nat):Nat → Array Bool → Act → World → Prop
 | 0,listed,a,w=>Region.ready md ops listed = []∧Q .normal a w
 | f + 1,listed,a,w=>(Region.ready md ops listed = [] → Q .normal a w)∧∀ i ∈ Region.ready md ops listed,wpOp P ops Q i (fun a' w'=>heldU A B q (listed.setIfInBounds i true) w'∧anyU P md ops Q A B q f (listed.setIfInBounds i true) a' w') a w
theorem any_of_U:∀ (f:Nat) (listed:Array Bool) (a:Act) (w:World),anyU P md ops Q A B q f listed a w → wpAny P md ops Q f listed a w
 | 0,_,_,_,h=>h
 | f + 1,_,_,_,h=>⟨h.1,fun i hi=>wpOp_mono (fun a' w' h'=>any_of_U f _ a' w' h'.2) (h.2 i hi)⟩
theorem anyU_first {i:Nat} {oi:Oper} {v:Value} (hi:ops[i]? = some oi) (hsel:∀ (j:Nat) (o:Oper) cs b,ops[j]? = some o → o.op ≠ .select cs b)
  (hQ:∀ c a w,Q (.panic c) (a.put oi.dst v) w → Q (.panic c) a w) (hiq:i ≠ q) :
  ∀ (f:Nat) (listed:Array Bool) (a:Act) (w:World),
   (∀ j oj,ops[j]? = some oj → j ≠ i → listed.getD j true = false → (∀ e ∈ oj.after,Region.binds md e = true → e.on ≠ i) → oi.apart ops oj = true) →
   i ∈ Region.ready md ops listed → YieldsIf P ops (fun w=>A w∧(Region.waitsFor md ops q i = true → B w)) oi v a → heldU A B q listed w → (Region.waitsFor md ops q i = true → listed.getD q true = false) →
   anyU P md ops Q A B q f (listed.setIfInBounds i true) (a.put oi.dst v) w → anyU P md ops Q A B q (f + 1) listed a w
 | f,listed,a,w,hfree,hr,hy,hS,hu,H=>by
  have hsame:∀ (L:Array Bool) (W:World),heldU A B q (L.setIfInBounds i true) W ↔ heldU A B q L W:=fun L W=>by unfold heldU;rw [getD_set_ne true hiq]
  have hrun:∀ {K:Act → World → Prop},K (a.put oi.dst v) w → wpOp P ops Q i K a w:=fun hK=>hy.wpOp hi ⟨hS.1,fun h=>hS.2 (hu h)⟩ hK
  refine ⟨fun h=>(by rw [h] at hr;cases hr),fun j hj=>?_⟩
  by_cases hji:j = i
  ·subst hji;exact hrun ⟨(hsame _ _).2 hS,H⟩
  match f,H with
  | 0,H =>
   have:=ready_mono hj hji
   rw [H.1] at this
   cases this
  | f + 1,H =>
   have h1:=H.2 j (ready_mono hj hji)
   obtain ⟨hjun,oj,hoj,hall⟩:=mem_ready.1 hj
   have hun:=(mem_ready.1 hr).1
   have hnot:∀ e ∈ oj.after,Region.binds md e = true → e.on ≠ i:=fun e he hb heq=>by
    have h1:=hall e he hb
    rw [heq,getD_both hun] at h1
    cases h1
   have h2:=wpOp_putIf hoj (hfree j oj hoj hji hjun hnot) (fun cs b=>hsel i oi cs b hi) (fun cs b=>hsel j oj cs b hoj) hQ hy h1
   have hfree':∀ k ok,ops[k]? = some ok → k ≠ i → (listed.setIfInBounds j true).getD k true = false → (∀ e ∈ ok.after,Region.binds md e = true → e.on ≠ i) → oi.apart ops ok = true:=fun k ok hk hki hun hno=>by
    refine hfree k ok hk hki ?_ hno
    by_cases hjk:j = k
    ·subst hjk;exact hjun
    ·rw [getD_set_ne true hjk] at hun;exact hun
   have hu':Region.waitsFor md ops q i = true → (listed.setIfInBounds j true).getD q true = false:=fun hw=>by
    have hjq:j ≠ q:=by
     rintro rfl
     obtain ⟨o',ho',e,he,hb,hon⟩:=Region.waitsFor_spec hw
     obtain rfl:o' = oj:=Option.some.inj (ho'.symm.trans hoj)
     exact hnot e he hb hon
    rw [getD_set_ne true hjq];exact hu hw
   refine wpOp_mono (fun a' w' h3=>?_) h2
   have hS':heldU A B q (listed.setIfInBounds j true) w':=by
    have:=h3.2.1
    rw [Array.setIfInBounds_comm _ _ (Ne.symm hji)] at this
    exact (hsame _ _).1 this
   refine ⟨hS',anyU_first hi hsel hQ hiq f (listed.setIfInBounds j true) a' w' hfree' (ready_mono hr (Ne.symm hji)) h3.1 hS' hu' ?_⟩
   rw [Array.setIfInBounds_comm _ _ hji]
   exact h3.2.2
def takeB (md:Region.Mode) (ops:Array Oper) (q i:Nat) (listed:Array Bool):Bool :=
 Region.noSelect ops && Region.free md ops listed i && (Region.ready md ops listed).contains i && decide (i ≠ q) && (!Region.waitsFor md ops q i || !listed.getD q true)
theorem anyU_take {i:Nat} {oi:Oper} {v:Value} {f:Nat} {listed:Array Bool} {a:Act} {w:World} (hi:ops[i]? = some oi) (hB:takeB md ops q i listed = true)
  (hQ:∀ c a w,Q (.panic c) (a.put oi.dst v) w → Q (.panic c) a w) (hw:Region.wanted oi (yielded ops a.tmps) = true) (hy:∀ W,A W → (Region.waitsFor md ops q i = true → B W) → (execOp a.eval oi).run P W = .ok (.value v) W)
  (hS:heldU A B q listed w) (h:anyU P md ops Q A B q f (listed.setIfInBounds i true) (a.put oi.dst v) w):anyU P md ops Q A B q (f + 1) listed a w:=by
 simp only [takeB,Bool.and_eq_true,Bool.or_eq_true,Bool.not_eq_true',decide_eq_true_eq] at hB
 obtain ⟨⟨⟨⟨h1,h2⟩,h3⟩,h4⟩,h5⟩:=hB
 refine anyU_first hi (Region.noSelect_spec h1) hQ h4 f listed a w (Region.free_spec hi h2) (by simpa using h3) (.inl ⟨hw,fun W hW=>hy W hW.1 hW.2⟩) hS (fun hq=>?_) h
 rcases h5 with h5 | h5
 ·rw [h5] at hq;cases hq
 ·exact h5
theorem anyU_takeY {i:Nat} {oi:Oper} {v:Value} {f:Nat} {listed:Array Bool} {a:Act} {w:World} (hi:ops[i]? = some oi) (hB:takeB md ops q i listed = true)
  (hQ:∀ c a w,Q (.panic c) (a.put oi.dst v) w → Q (.panic c) a w) (hy:YieldsIf P ops A oi v a)
  (hS:heldU A B q listed w) (h:anyU P md ops Q A B q f (listed.setIfInBounds i true) (a.put oi.dst v) w):anyU P md ops Q A B q (f + 1) listed a w:=by
 simp only [takeB,Bool.and_eq_true,Bool.or_eq_true,Bool.not_eq_true',decide_eq_true_eq] at hB
 obtain ⟨⟨⟨⟨h1,h2⟩,h3⟩,h4⟩,h5⟩:=hB
 refine anyU_first hi (Region.noSelect_spec h1) hQ h4 f listed a w (Region.free_spec hi h2) (by simpa using h3) (hy.imp (fun ⟨hw,hv⟩=>⟨hw,fun W hW=>hv W hW.1⟩) id) hS (fun hq=>?_) h
 rcases h5 with h5 | h5
 ·rw [h5] at hq;cases hq
 ·exact h5
theorem anyU_one {i:Nat} {oi:Oper} {f:Nat} {listed:Array Bool} {a:Act} {w:World} (hi:ops[i]? = some oi) (hr:Region.ready md ops listed = [i])
  (h:∀ K:Act → World → Prop,(∀ a' w',heldU A B q (listed.setIfInBounds i true) w' → anyU P md ops Q A B q f (listed.setIfInBounds i true) a' w' → K a' w') → if Region.wanted oi (yielded ops a.tmps) then oi.wp P a w K Q else K (a.put oi.dst undef) w) :
  anyU P md ops Q A B q (f + 1) listed a w:=by
 refine ⟨fun h0=>(by rw [hr] at h0;cases h0),fun j hj=>?_⟩
 rw [hr] at hj
 obtain rfl:j = i:=by simpa using hj
 have:=h (fun a' w'=>heldU A B q (listed.setIfInBounds j true) w'∧anyU P md ops Q A B q f (listed.setIfInBounds j true) a' w') (fun a' w' h1 h2=>⟨h1,h2⟩)
 unfold wpOp
 simp only [hi]
 split
 ·rename_i hw;rw [if_pos hw] at this;exact .inl this
 ·rename_i hw;rw [if_neg hw] at this;exact this
theorem anyU_done {listed:Array Bool} {a:Act} {w:World} (hr:Region.ready md ops listed = []) (h:Q .normal a w):∀ f,anyU P md ops Q A B q f listed a w
 | 0=>⟨hr,h⟩
 | _ + 1=>⟨fun _=>h,by rw [hr];simp⟩
end
section
variable {P:Program} {l:List Oper} {md:Region.Mode} {Q:Exit → Act → World → Prop} {A B:World → Prop} {q:Nat}
theorem at_drop {i:Nat} {oi:Oper} {r:List Oper} (h:l.drop i = oi :: r):l.toArray[i]? = some oi:=by
 have h1:(l.drop i)[0]? = some oi:=by rw [h];rfl
 rw [List.getElem?_drop] at h1
 simpa using h1
theorem uA (i:Nat) {oi:Oper} {r:List Oper} (v:Value) {f:Nat} {listed:Array Bool} {a:Act} {w:World} (hi:l.drop i = oi :: r) (hA0:A w) (hB0:B w) (hy:∀ W,A W → (execOp a.eval oi).run P W = .ok (.value v) W)
  (h:anyU P md l.toArray Q A B q f (listed.setIfInBounds i true) (a.put oi.dst v) w) (hB:takeB md l.toArray q i listed = true:=by kernel_rfl)
  (hQ:∀ c a w,Q (.panic c) (a.put oi.dst v) w → Q (.panic c) a w:=by exact fun _ _ _ h=>h) (hw:Region.wanted oi (yielded l.toArray a.tmps) = true:=by rfl):anyU P md l.toArray Q A B q (f + 1) listed a w :=
 anyU_take (at_drop hi) hB hQ hw (fun W h1 _=>hy W h1) ⟨hA0,fun _=>hB0⟩ h
theorem uB (i:Nat) {oi:Oper} {r:List Oper} (v:Value) {f:Nat} {listed:Array Bool} {a:Act} {w:World} (hi:l.drop i = oi :: r) (hA0:A w) (hB0:B w) (hy:∀ W,A W → B W → (execOp a.eval oi).run P W = .ok (.value v) W)
  (h:anyU P md l.toArray Q A B q f (listed.setIfInBounds i true) (a.put oi.dst v) w) (hB:takeB md l.toArray q i listed = true:=by kernel_rfl) (hW:Region.waitsFor md l.toArray q i = true:=by kernel_rfl)
  (hQ:∀ c a w,Q (.panic c) (a.put oi.dst v) w → Q (.panic c) a w:=by exact fun _ _ _ h=>h) (hw:Region.wanted oi (yielded l.toArray a.tmps) = true:=by rfl):anyU P md l.toArray Q A B q (f + 1) listed a w :=
 anyU_take (at_drop hi) hB hQ hw (fun W h1 h2=>hy W h1 (h2 hW)) ⟨hA0,fun _=>hB0⟩ h
theorem uS (i:Nat) {oi:Oper} {r:List Oper} {f:Nat} {listed:Array Bool} {a:Act} {w:World} (hi:l.drop i = oi :: r) (hA0:A w) (hB0:B w) (h:anyU P md l.toArray Q A B q f (listed.setIfInBounds i true) (a.put oi.dst undef) w)
  (hB:takeB md l.toArray q i listed = true:=by kernel_rfl) (hQ:∀ c a w,Q (.panic c) (a.put oi.dst undef) w → Q (.panic c) a w:=by exact fun _ _ _ h=>h) (hw:Region.wanted oi (yielded l.toArray a.tmps) = false:=by rfl):anyU P md l.toArray Q A B q (f + 1) listed a w :=
 anyU_takeY (at_drop hi) hB hQ (.inr ⟨hw,rfl⟩) ⟨hA0,fun _=>hB0⟩ h
theorem uOne {i:Nat} {oi:Oper} {r:List Oper} {f:Nat} {listed:Array Bool} {a:Act} {w:World} (hi:l.drop i = oi :: r) (hr:Region.ready md l.toArray listed = [i])
  (h:∀ K:Act → World → Prop,(∀ a' w',heldU A B q (listed.setIfInBounds i true) w' → anyU P md l.toArray Q A B q f (listed.setIfInBounds i true) a' w' → K a' w') → if Region.wanted oi (yielded l.toArray a.tmps) then oi.wp P a w K Q else K (a.put oi.dst undef) w) :
  anyU P md l.toArray Q A B q (f + 1) listed a w:=anyU_one (at_drop hi) hr h
end
theorem wp_region_U {P:Program} {id:Nat} {Q:Exit → Act → World → Prop} {a:Act} {w:World} {l:List Oper} (A B:World → Prop) (q:Nat) (hm:P.follows .mixedOrders = true)
  (h:anyU P .any l.toArray Q A B q l.toArray.size (Array.replicate l.toArray.size false) a w.drew):(Code.region id l.toArray true).wp P Q a w :=
 wp_region_any hm (any_of_U _ _ _ _ h)
end Go.Proofs.Ytdnmpndnpfklcaa
