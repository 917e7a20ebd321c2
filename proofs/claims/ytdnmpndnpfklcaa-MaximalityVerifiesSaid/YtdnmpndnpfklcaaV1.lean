/- Appending onto a slice that has no room: what spoilt does. -/
import Derived.Test.YtdnmpndnpfklcaaBz
import Derived.Test.YtdnmpndnpfklcaaBr
namespace Go.Proofs.Ytdnmpndnpfklcaa
open Go.RowKit Go Go.Maps
section
variable {P:Program}
theorem run_cut (w:World) (B:Nat) (t ty e:TypeId) (i:TypeInfo) (z:Value) (sz bytes:Nat) (ht:P.underlying t = some (.slice e)) (hi:P.info? e = some i) (hz:i.zero = some z)
  (hsize:i.size = sz) (hby:i.bytes = bytes) (hzs:z.cells.size = sz) (hsz:0 < sz) (b:Addr) (hbl:b.block < w.heap.size) (k:Nat) (olds:List Value) (hlo:olds.length = k * sz) (ho:RdV w w.heap.size (some b) olds)
  (A:Option Addr) (m c:Nat) (news:List Value) (hl:news.length = m * sz) (hr:RdV w w.heap.size A news)
  (hn:k + m ≤ 1000000000) (hbytes:(k + m) * bytes ≤ 140737488355328) (hbase:B ≤ w.heap.size) :
  ∃ A' c' w',(Builtin.append_ #[t,t] ty #[.slice (some b) k k,.slice A m c]).run P w = .ok (.slice (some A') (k + m) c') w'∧k + m ≤ c'∧c' ≤ 9223372036854775807∧A'.block < w'.heap.size∧RdV w' w'.heap.size (some A') (olds ++ news)∧(0 < m → A' = ⟨w.heap.size,0,none⟩∧w'.ownsRow B e sz (.slice (some A') (k + m) c') (k + m) (olds ++ news))∧(m = 0 → A' = b)∧Below w.heap.size w w':=by
 subst hsize
 subst hby
 by_cases hm:m = 0
 ·subst hm
  have hn:news = []:=List.eq_nil_of_length_eq_zero (by simpa using hl)
  subst hn
  refine ⟨b,k,w,?_,Nat.le_refl _,by omega,hbl,by rw [List.append_nil];exact ho,fun h=>absurd h (by omega),fun _=>rfl,Below.refl _ _⟩
  cases A with
  | none=>simp [Builtin.append_,run_underlying ht,sizeOf,typeInfo,hi,Builtin.lenOf,Builtin.firstCells,storeCells]
  | some ad=>simp [Builtin.append_,run_underlying ht,sizeOf,typeInfo,hi,Builtin.lenOf,Builtin.firstCells,storeCells,loadCells,loadCellsFrom]
 ·obtain ⟨ad,rfl⟩:∃ ad,A = some ad:=by
   have h1:0 < news.length:=by rw [hl];exact Nat.mul_pos (by omega) hsz
   obtain ⟨ad,h2,_⟩:=hr 0 news[0] (List.getElem?_eq_getElem h1)
   exact ⟨ad,h2⟩
  have hnews:∀ j u,news[j]? = some u → w.cell? (ad.add j) = some u:=fun j u hj=>by
   obtain ⟨ad',h1,_,h2⟩:=hr j u hj
   injection h1 with h1
   rw [h1];exact h2
  have holds:∀ j u,olds[j]? = some u → w.cell? (b.add j) = some u:=fun j u hj=>by
   obtain ⟨ad',h1,_,h2⟩:=ho j u hj
   injection h1 with h1
   rw [h1];exact h2
  have h63:k + m ≤ maxLen:=by unfold maxLen;omega
  have hlen:(olds ++ news).length = (k + m) * i.size:=by rw [List.length_append,hlo,hl,Nat.add_mul]
  have hrun:=run_append_grow (P:=P) w t ty e i z ht hi hz b k k olds hlo holds ad m c news hl hnews (by omega) (by omega) (growslice_fits (by omega) hbytes)
  have hge:=grownCap_ge w (k + m) k e
  have hcm:grownCap w (k + m) k e ≤ maxLen:=grownCap_le_maxLen w (k + m) k e h63
  have hown:(w.drew.alloc (.cells (olds.toArray ++ news.toArray ++ Builtin.zeroCells z.cells (grownCap w (k + m) k e - (k + m))) e)).ownsRow B e i.size (.slice (some ⟨w.heap.size,0,none⟩) (k + m) (grownCap w (k + m) k e)) (k + m) (olds ++ news):=by
   refine ⟨hlen,.inr ⟨w.heap.size,_,_,rfl,hbase,heap_alloc_new w.drew _,hge,hcm,?_,?_⟩⟩
   ·simp only [Array.size_append,List.size_toArray,size_zeroCells,hzs,hlo,hl,← Nat.add_mul]
    congr 1
    omega
   ·simp only [Array.toList_append,List.append_assoc]
    rw [← List.append_assoc,← hlen]
    exact List.take_left
  have hc9:grownCap w (k + m) k e ≤ 9223372036854775807:=by unfold maxLen at hcm;omega
  refine ⟨⟨w.heap.size,0,none⟩,_,_,hrun,hge,hc9,by simp,?_,fun _=>⟨rfl,hown⟩,fun h=>absurd h hm,⟨rfl,rfl,rfl,by simp,fun j hj=>heap_alloc_old w.drew _ hj⟩⟩
  intro j u hj
  exact ⟨_,rfl,by simp,hown.cells (g:=w.heap.size) rfl j u hj⟩
theorem step_cut (w:World) {ops:Array Oper} {o:Oper} {a:Act} {K:Act → World → Prop} {Q:Exit → Act → World → Prop} {E:Prop} (hgd:o.guard = none) (s x:Operand) (t:TypeId)
  (hop:o.op = .call { callee:=.builtin .append,args:=#[s,x],argTypes:=#[t,t] })
  (B:Nat) (e:TypeId) (z:Value) (sz bytes:Nat) (ht:P.underlying t = some (.slice e)) (hinfo:(P.info? e).map (fun i=>(i.zero,i.size,i.bytes)) = some (some z,sz,bytes))
  (hz1:z.cells.size = sz) (hsz:0 < sz) (b:Addr) (hbl:b.block < w.heap.size) (k:Nat) (olds:List Value) (hlo:olds.length = k * sz) (ho:RdV w w.heap.size (some b) olds) (hs:a.eval s = .slice (some b) k k)
  (A:Option Addr) (m c:Nat) (news:List Value) (hl:news.length = m * sz) (hx:a.eval x = .slice A m c) (hr:RdV w w.heap.size A news)
  (hn:k + m ≤ 1000000000) (hbytes:(k + m) * bytes ≤ 140737488355328) (hbase:B ≤ w.heap.size)
  (h:∀ A' c' w',k + m ≤ c' → c' ≤ 9223372036854775807 → A'.block < w'.heap.size → RdV w' w'.heap.size (some A') (olds ++ news) → (0 < m → A' = ⟨w.heap.size,0,none⟩∧w'.ownsRow B e sz (.slice (some A') (k + m) c') (k + m) (olds ++ news)) → (m = 0 → A' = b) → Below w.heap.size w w' → K (a.put o.dst (.slice (some A') (k + m) c')) w') :
  if Region.wanted o (yielded ops a.tmps) = true then Oper.wp P o a w K Q else E:=by
 obtain ⟨i,hi,hz,hs1,hby⟩:=info_parts hinfo
 obtain ⟨A',c',w',hrun,h1,h2,h3,h4,h5,h6,h7⟩:=run_cut (P:=P) w B t o.type e i z sz bytes ht hi hz hs1 hby hz1 hsz b hbl k olds hlo ho A m c news hl hr hn hbytes hbase
 rw [if_pos (by simp [Region.wanted,hgd])]
 unfold Oper.wp execOp
 simp only [hop,resolve,invoke,builtin,Sem.run_bind,Sem.run_pure,Result.andThen_ok,List.map_toArray,List.map_cons,List.map_nil,hs,hx,hrun]
 exact h A' c' w' h1 h2 h3 h4 h5 h6 h7
end
def RwZ (W:World) (e:TypeId) (sz:Nat) (B:Nat) (v:Value) (n:Nat) (xs:List Value):Prop:=∃ g c,v = .slice (some ⟨g,0,none⟩) n c∧n ≤ c∧c ≤ 9223372036854775807∧g < W.heap.size∧xs.length = n * sz∧(0 < n → W.ownsRow B e sz v n xs)
theorem RwZ.below {W W':World} {e:TypeId} {sz B n:Nat} {v:Value} {xs:List Value} (h:RwZ W e sz B v n xs) (hb:Below W.heap.size W W'):RwZ W' e sz B v n xs:=by
 obtain ⟨g,c,h1,h2,h3,h4,h5,h6⟩:=h
 exact ⟨g,c,h1,h2,h3,Nat.lt_of_lt_of_le h4 hb.size,h5,fun h=>own_below (h6 h) hb⟩
theorem RwZ.rd {W:World} {e:TypeId} {sz B n c:Nat} {A:Option Addr} {xs:List Value} (h:RwZ W e sz B (.slice A n c) n xs):RdV W W.heap.size A xs:=by
 obtain ⟨g,c',h1,h2,h3,h4,h5,h6⟩:=h
 injection h1 with h1 _ _
 subst h1
 intro j u hj
 rcases Nat.eq_zero_or_pos n with h0 | h0
 ·subst h0
  have:xs = []:=List.eq_nil_of_length_eq_zero (by simpa using h5)
  subst this
  simp at hj
 ·exact ⟨_,rfl,h4,(h6 h0).cells (g:=g) rfl j u hj⟩
theorem rdR_of_rdV {α:Type} {sz:Nat} {f:α → List Value} (hf:∀ x,(f x).length = sz) {W:World} {B:Nat} {A:Option Addr} {l:List α} (hsz:0 < sz) (h:RdV W B A (l.flatMap f)):RdR sz f W B A l:=by
 intro k x hx
 have h0:0 < (f x).length:=by rw [hf];exact hsz
 have e0:=flat_get f sz l (fun y _=>hf y) k x 0 _ hx (List.getElem?_eq_getElem h0)
 obtain ⟨ad,h1,h2,_⟩:=h _ _ e0
 refine ⟨ad,h1,h2,fun j u hj=>?_⟩
 have e1:=flat_get f sz l (fun y _=>hf y) k x j u hx hj
 obtain ⟨ad',h3,_,h4⟩:=h _ _ e1
 rw [h1] at h3
 injection h3 with h3
 rw [h3];exact h4
theorem rdV_of_rdR {W:World} {B:Nat} {A:Option Addr} {l:List Rm} (h:RdR 4 rmc W B A l):RdV W B A (l.flatMap rmc):=by
 intro j u hu
 have hj:j < l.length * 4:=by
  have:=(List.getElem?_eq_some_iff.1 hu).1
  rwa [flat_len rmc 4 l (fun y _=>rfl)] at this
 have hdiv:j / 4 < l.length:=by omega
 obtain ⟨ad,x,h1,hb,hx,hc⟩:=h.get hdiv
 have hmod:j % 4 < (rmc x).length:=Nat.mod_lt _ (by decide)
 have e1:j / 4 * 4 + j % 4 = j:=by omega
 have h2:=flat_get rmc 4 l (fun y _=>rfl) (j / 4) x (j % 4) _ hx (List.getElem?_eq_getElem hmod)
 rw [e1,hu] at h2
 injection h2 with h2
 have h3:=hc (j % 4) _ (List.getElem?_eq_getElem hmod)
 rw [e1,← h2] at h3
 exact ⟨ad,h1,hb,h3⟩
end Go.Proofs.Ytdnmpndnpfklcaa
