/- Walks: slices.Equal, BinarySearch, Clone, Contains at ints; alphabet.Contains. -/
import Derived.Test.YtdnmpndnpfklcaaRows
import Derived.Test.YtdnmpndnpfklcaaBase
import Derived.Test.YtdnmpndnpfklcaaQa
import Derived.WalkLawsBesides
import Derived.BigQuiet
import Derived.Deep.QuietTactic
import Derived.Outline
import Derived.Deep.RegionWith
import Derived.Handy
import Derived.Test.YtdnmpndnpfklcaaAa
import Derived.Shelf.Abstract
namespace Go.Proofs.Ytdnmpndnpfklcaa
open Go.RowKit Go
theorem ret_bool {a b:Bool} (h:a = b):Ending.returned (.bool a) = Ending.returned (.bool b):=by rw [h]
theorem ret_int {k:IntKind} {a b:Int} (h:a = b):Ending.returned (.int k a) = Ending.returned (.int k b):=by rw [h]
theorem int_info:(Try.prog.info? 3).map (fun i=>(i.zero,i.size,i.bytes)) = some (some (.int .i64 0),1,8):=by kernel_rfl
set_option maxHeartbeats 400000 in
theorem slices_Equal (A B:Option Addr) (c d:Nat) (a b:List Int) (w:World) (ha:RdI w w.heap.size A a) (hac:a.length ≤ c) (hc:c ≤ 9223372036854775807)
  (hb:RdI w w.heap.size B b) :
  Calls Try.prog 75 #[.slice A a.length c,.slice B b.length d] w fun e w'=>e = .returned (.bool (eqB a b))∧∃ n,w' = w.drewN n:=by
 by_cases hl:a.length = b.length
 ·have hl1:((a.length:Int) != (b.length:Int)) = false:=by simp [hl]
  have HL:=Lib.hid hl;clear hl
  go_enter Try.func75,Try.ntmps75
  go_wp2
  go_loopw [13] (fun i wr=>∃ k:Nat,k ≤ a.length∧i = .int .i64 k∧Hid (a.take k = b.take k)∧∃ n,wr = w.drewN n) (fun i _=>a.length - (intOf i).toNat)
  case atStart=>exact ⟨0,Nat.zero_le _,rfl,Lib.hid rfl,(by first | exact dr00 _ | exact dr0 _ _ | exact dr1 _ _ _ | exact dr2 _ _ _ _ | exact dr3 _ _ _ _ _)⟩
  case round =>
   obtain ⟨k,hk,rfl,HX,n,rfl⟩:=hrel
   by_cases hlt:k < a.length
   ·obtain ⟨ad,x,rfl,_,hx,hcx⟩:=ha.at_ hlt
    obtain ⟨bd,y,rfl,_,hy,hcy⟩:=hb.at_ (k:=k) (by have:=HL.out;omega)
    have HXX:=Lib.hid hx;clear hx
    have HYY:=Lib.hid hy;clear hy
    have hkb:k < b.length:=by have:=HL.out;omega
    have b1:(k:Int) < (a.length:Int):=by omega
    have b2:(k:Int) < (b.length:Int):=by omega
    by_cases hxy:x = y
    ·subst hxy
     go_wp2
     go_quiet (fail)
     go_wp2
     go_roundw
     case rel=>exact ⟨k + 1,by omega,by go_num,Lib.hid (take_eq_snoc HXX.out HYY.out HX.out),(by first | exact dr00 _ | exact dr0 _ _ | exact dr1 _ _ _ | exact dr2 _ _ _ _ | exact dr3 _ _ _ _ _)⟩
     case measure=>simp [intOf];omega
    ·have hxy':(x != y) = true:=by simpa using hxy
     go_wp2
     go_quiet (fail)
     go_wp2
     go_ret
     exact ⟨ret_bool (ne_of_get HXX.out HYY.out hxy).symm,(by first | exact dr00 _ | exact dr0 _ _ | exact dr1 _ _ _ | exact dr2 _ _ _ _ | exact dr3 _ _ _ _ _)⟩
   ·go_wp2
    go_ret
    exact ⟨ret_bool (eqB_of (eq_of_drop HL.out HX.out hlt)).symm,(by first | exact dr00 _ | exact dr0 _ _ | exact dr1 _ _ _ | exact dr2 _ _ _ _ | exact dr3 _ _ _ _ _)⟩
 ·have hl1:((a.length:Int) != (b.length:Int)) = true:=by rw [bne_iff_ne];omega
  have HL:=Lib.hid hl;clear hl
  go_enter Try.func75,Try.ntmps75
  go_wp2
  go_ret
  exact ⟨ret_bool (ne_of_len HL.out).symm,(by first | exact dr00 _ | exact dr0 _ _ | exact dr1 _ _ _ | exact dr2 _ _ _ _ | exact dr3 _ _ _ _ _)⟩
set_option maxHeartbeats 400000 in
theorem slices_Clone (A:Option Addr) (c:Nat) (l:List Int) (w:World) (ha:RdI w w.heap.size A l) (hac:l.length ≤ 17592186044416) :
  Calls Try.prog 67 #[.slice A l.length c] w (RetO 3 l w):=by
 rcases A with _ | ad
 ·have hl:l = []:=by
   rcases Nat.eq_zero_or_pos l.length with h0 | h0
   ·exact List.eq_nil_of_length_eq_zero h0
   ·obtain ⟨ad,x,h,_⟩:=ha.at_ h0
    cases h
  subst hl
  have hnil:=fun W=>Lib.run_eql_slice_nil (P:=Try.prog) W 29 3 none 0 c 0 0 Try.underlying29
  go_enter Try.func67,Try.ntmps67
  go_wp2
  go_ret
  exact ⟨_,rfl,World.ownsRow_nil _ _ _ _,Below.refl _ _⟩
 ·have hnil:=fun W=>Lib.run_eql_slice_nil (P:=Try.prog) W 29 3 (some ad) l.length c 0 0 Try.underlying29
  go_enter Try.func67,Try.ntmps67
  go_wp2_with (at_builtin;refine wpList_app _ rfl (.tmp 5) (.tmp 6) 29 rfl w.heap.size 3 (.int .i64 0) 8 Try.underlying29 int_info rfl (.slice (some ⟨w.heap.size,0,none⟩) 0 0) 0 _ rfl (World.ownsRow_lit w #[] 0 (Nat.le_refl _) (by unfold maxLen;omega) rfl) w.heap.size (some ad) l.length c (iv l) (iv_length l) rfl (RdV.alloc ha (Nat.le_refl _) _) (iv_one l) (by omega) (by omega) (by simp) ?_;intro v' w' ho' hg' hb1 hnn)
  go_ret
  have ho:w'.ownsRow w.heap.size 3 1 v' l.length (iv l):=by simpa using ho'
  exact ⟨_,rfl,ho,((Below.refl _ _).alloc (Nat.le_refl _) _).trans hb1⟩
theorem slices_Equal_n (A B:Option Addr) (c d na nb:Nat) (a b:List Int) (q:Bool) (w:World) (hna:a.length = na) (hnb:b.length = nb) (hq:eqB a b = q) (ha:RdI w w.heap.size A a) (hac:na ≤ c) (hc:c ≤ 9223372036854775807)
  (hb:RdI w w.heap.size B b):Calls Try.prog 75 #[.slice A na c,.slice B nb d] w fun e w'=>e = .returned (.bool q)∧∃ n,w' = w.drewN n:=by
 subst hna hnb hq;exact slices_Equal A B c d a b w ha hac hc hb
theorem slices_Clone_n (A:Option Addr) (c n:Nat) (l:List Int) (w:World) (hl:l.length = n) (ha:RdI w w.heap.size A l) (hac:n ≤ 17592186044416) :
  Calls Try.prog 67 #[.slice A n c] w (RetO 3 l w):=by
 subst hl;exact slices_Clone A c l w ha hac
end Go.Proofs.Ytdnmpndnpfklcaa
/- Walks: slices.Index, Contains at ints; automaton.Check. -/
namespace Go.Proofs.Ytdnmpndnpfklcaa
open Go.RowKit Go
theorem hasB_idx (l:List Int) (x:Int):hasB l x = decide (0 ≤ idx l x):=by
 rw [Bool.eq_iff_iff,hasB_mem,decide_eq_true_iff]
 have:=idx_neg (l:=l) (x:=x)
 constructor
 ·intro h
  by_cases h0:idx l x < 0
  ·exact absurd h (this.1 h0)
  ·omega
 ·intro h
  by_cases h0:x ∈ l
  ·exact h0
  ·have:=this.2 h0;omega
set_option maxHeartbeats 400000 in
theorem slices_Index (A:Option Addr) (c n:Nat) (l:List Int) (x:Int) (w:World) (hl:l.length = n) (h:RdI w w.heap.size A l) (hlc:n ≤ c) (hc:c ≤ 9223372036854775807) :
  Calls Try.prog 124 #[.slice A n c,.int .i64 x] w fun e w'=>e = .returned (.int .i64 (idx l x))∧w = w':=by
 have HL:=Lib.hid hl;clear hl
 go_enter Try.func124,Try.ntmps124
 go_wp2
 go_loop [8] (fun i=>∃ k:Nat,k ≤ n∧i = .int .i64 k∧Hid (x ∉ l.take k)) (fun i=>n - (intOf i).toNat)
 case atStart=>exact ⟨0,Nat.zero_le _,rfl,Lib.hid (by simp)⟩
 case round =>
  obtain ⟨k,hk,rfl,HN⟩:=hrel
  by_cases hlt:k < n
  ·obtain ⟨ad,y,rfl,hb,hy,hcell⟩:=h.at_ (k:=k) (by have:=HL.out;omega)
   have b1:(k:Int) < (n:Int):=by omega
   by_cases hxy:x = y
   ·subst hxy
    have hf:=idx_hit hy HN.out
    have HF:=Lib.hid hf;clear hf
    have HY:=Lib.hid hy;clear hy
    go_wp2
    go_ret
    exact ⟨ret_int HF.out.symm,rfl⟩
   ·have hxy':(x == y) = false:=by simpa using hxy
    have HS:=Lib.hid (not_take_succ hy HN.out (fun e=>hxy e.symm))
    have HY:=Lib.hid hy;clear hy
    clear hxy
    go_wp2
    go_round
    case rel=>exact ⟨k + 1,by omega,by go_num,HS⟩
    case measure=>simp [intOf];omega
  ·have hf:idx l x = -1:=idx_end HN.out (by have:=HL.out;omega)
   have HF:=Lib.hid hf;clear hf
   go_wp2
   go_ret
   exact ⟨ret_int HF.out.symm,rfl⟩
theorem slices_Contains (A:Option Addr) (c n:Nat) (l:List Int) (x:Int) (q:Bool) (w:World) (hl:l.length = n) (hq:hasB l x = q) (h:RdI w w.heap.size A l) (hlc:n ≤ c) (hc:c ≤ 9223372036854775807) :
  Calls Try.prog 114 #[.slice A n c,.int .i64 x] w fun e w'=>e = .returned (.bool q)∧w = w':=by
 have hcon:=slices_Index A c n l x w hl h hlc hc
 rw [hasB_idx] at hq
 generalize idx l x = r at *
 have HC:=Lib.hid hcon
 clear hcon hl
 subst hq
 go_enter Try.func114,Try.ntmps114
 go_wp2_with fail
 refine HC.out.mono ?_
 rintro e w' ⟨rfl,rfl⟩
 go_wp2
 go_ret
 exact ⟨rfl,rfl⟩
set_option maxHeartbeats 400000 in
theorem automaton_checkSet (A:Option Addr) (c n:Nat) (l:List Int) (m r:Int) (w:World) (hl:l.length = n) (hr:setErr l m = r) (h:RdI w w.heap.size A l) (hlc:n ≤ c) (hc:c ≤ 9223372036854775807) :
  Calls Try.prog 84 #[.slice A n c,.int .i64 m] w fun e w'=>e = .returned (.int .i64 r)∧w = w':=by
 have HL:=Lib.hid hl;clear hl
 have HR:=Lib.hid hr;clear hr
 go_enter Try.func84,Try.ntmps84
 go_wp2
 go_loop [9] (fun i=>∃ k:Nat,k ≤ n∧i = .int .i64 k∧Hid (r = setErrG m (l.take k).getLast? (l.drop k))) (fun i=>n - (intOf i).toNat)
 case atStart=>exact ⟨0,Nat.zero_le _,rfl,Lib.hid HR.out.symm⟩
 case round =>
  obtain ⟨k,hk,rfl,HX⟩:=hrel
  clear HR
  by_cases hlt:k < n
  ·obtain ⟨ad,y,rfl,hb,hy,hcell⟩:=h.at_ (k:=k) (by have:=HL.out;omega)
   have b1:(k:Int) < (n:Int):=by omega
   have HY:=Lib.hid hy;clear hy
   by_cases h1:y < 0
   ·go_wp2
    go_ret
    exact ⟨ret_int (by rw [HX.out,setErrG_range HY.out (.inl h1)]),rfl⟩
   by_cases h2:m ≤ y
   ·go_wp2
    go_ret
    exact ⟨ret_int (by rw [HX.out,setErrG_range HY.out (.inr h2)]),rfl⟩
   have e1:decide (y < 0) = false:=by simpa using h1
   have e2:decide (m ≤ y) = false:=by simpa using h2
   cases k with
   | zero =>
    have hcell':=cell_zero hcell
    go_wp2
    go_round
    case rel=>exact ⟨1,by omega,by go_num,Lib.hid (by rw [HX.out,take_snoc' HY.out,List.getLast?_concat];exact setErrG_first HY.out (by omega))⟩
    case measure=>simp [intOf];omega
   | succ j =>
    obtain ⟨ad',q,e,_,hq,hcq⟩:=h.at_ (k:=j) (by have:=HL.out;omega)
    obtain rfl:ad = ad':=by injection e
    have hcell':=cell_succ hcell
    have HQ:=Lib.hid hq;clear hq
    by_cases h3:y ≤ q
    ·go_wp2
     go_ret
     exact ⟨ret_int (by rw [HX.out,take_snoc' HQ.out,List.getLast?_concat,setErrG_order HY.out (by omega) h3]),rfl⟩
    ·go_wp2
     go_round
     case rel=>exact ⟨j + 1 + 1,by omega,by go_num,Lib.hid (by rw [HX.out,take_snoc' HQ.out,List.getLast?_concat,setErrG_next HY.out (by omega) (by omega),take_snoc' HY.out,List.getLast?_concat])⟩
     case measure=>simp [intOf];omega
  ·have hf:r = 0:=by rw [HX.out,setErrG_end (by have:=HL.out;omega)]
   have HF:=Lib.hid hf;clear hf
   go_wp2
   go_ret
   exact ⟨ret_int HF.out.symm,rfl⟩
end Go.Proofs.Ytdnmpndnpfklcaa
/- Walks: automaton.checkEdges, automaton.Check. -/
namespace Go.Proofs.Ytdnmpndnpfklcaa
open Go.RowKit Go
theorem box_cells {w wr:World} {us:List Value} {t:TypeId} (hb:Below (w.heap.size + 1) (w.alloc (.cells us.toArray t)) wr) {j:Nat} {u:Value} (hj:us[j]? = some u):wr.cell? ⟨w.heap.size,j,none⟩ = some u:=by
 rw [hb.cell (p:=⟨w.heap.size,j,none⟩) (Nat.lt_succ_self _),cell_of_row _ _ _ _ t (0,0) (heap_alloc_new w _)]
 simpa using hj
theorem box_below (w:World) (o:Obj):Below w.heap.size w (w.alloc o):=(Below.refl _ _).alloc (Nat.le_refl _) _
set_option maxRecDepth 100000 in
set_option maxHeartbeats 1600000 in
theorem automaton_checkEdges (A:Option Addr) (na ca:Nat) (M:Option Addr) (nm cm:Nat) (E:Option Addr) (ne ce:Nat) (a:Aut) (r:Int) (w:World) (h:AutR w w.heap.size A na ca M nm cm E ne ce a) (hr:edErr a.st a.al a.ed = r) :
  Calls Try.prog 85 #[.agg #[.slice A na ca,.int .i64 a.st,.slice M nm cm,.slice E ne ce]] w fun e w'=>e = .returned (.int .i64 r)∧Below w.heap.size w w':=by
 obtain ⟨hla,hac,hcA,hA,hlm,hmc,hcM,hM,hle,hec,hcE,hE⟩:=h
 obtain ⟨al,st,ma,ed⟩:=a
 simp only at hla hA hlm hM hle hE hr ⊢
 have hB0:=box_below w (.cells #[.slice A na ca,.int .i64 st,.slice M nm cm,.slice E ne ce] 32)
 have HNA:=Lib.hid hla;clear hla
 have HNM:=Lib.hid hlm;clear hlm
 have HNE:=Lib.hid hle;clear hle
 have HR:=Lib.hid hr;clear hr
 go_enter Try.func85,Try.ntmps85
 go_wp2
 go_loopw [9] (fun i wr=>∃ k:Nat,k ≤ ne∧i = .int .i64 k∧Hid (r = edG st al (ed.take k).getLast? (ed.drop k))∧Below (w.heap.size + 1) (w.alloc (.cells #[.slice A na ca,.int .i64 st,.slice M nm cm,.slice E ne ce] 32)) wr) (fun i _=>ne - (intOf i).toNat)
 case atStart=>exact ⟨0,Nat.zero_le _,rfl,Lib.hid HR.out.symm,Below.refl _ _⟩
 case round =>
  obtain ⟨k,hk,rfl,HX,hbel⟩:=hrel
  clear HR
  have hsz:w.heap.size + 1 ≤ wr.heap.size:=by have:=hbel.size;simpa using this
  have hsz1:w.heap.size ≤ wr.heap.size:=by omega
  have hsz2:w.heap.size < wr.heap.size:=by omega
  have hbl:=hB0.trans (hbel.mono (Nat.le_succ _))
  have c0:wr.cell? ⟨w.heap.size,0,none⟩ = some (.slice A na ca):=box_cells (us:=[_,_,_,_]) hbel rfl
  have c1:wr.cell? ⟨w.heap.size,1,none⟩ = some (.int .i64 st):=box_cells (us:=[_,_,_,_]) hbel rfl
  have c3:wr.cell? ⟨w.heap.size,3,none⟩ = some (.slice E ne ce):=box_cells (us:=[_,_,_,_]) hbel rfl
  by_cases hlt:k < ne
  ·skip
   obtain ⟨ad,x,rfl,hbb,hx,q0,q1,q2⟩:=((hE.below hbl).more hsz1).at_ (k:=k) (by have:=HNE.out;omega)
   have b1:((k:Nat):Int) < (ne:Int):=by omega
   have p1:wr.cell? ⟨(ad.add (k * 3)).block,(ad.add (k * 3)).off + 1,none⟩ = some (.int .i64 x.e):=st_cells (j:=0) q1
   have p2:wr.cell? ⟨(ad.add (k * 3)).block,(ad.add (k * 3)).off + 2,none⟩ = some (.int .i64 x.t):=st_cells (j:=1) q2
   clear q1 q2
   have hal:RdI (wr.alloc (.cells #[.int .i64 x.f,.int .i64 x.e,.int .i64 x.t] 67)) (wr.alloc (.cells #[.int .i64 x.f,.int .i64 x.e,.int .i64 x.t] 67)).heap.size A al:=((hA.below hbl).after (box_below wr _) hsz1).more (by simp;omega)
   have HAL:=Lib.hid hal
   clear hal
   have HGX:=Lib.hid hx;clear hx
   by_cases ho:edOut st x
   ·have HB:=Lib.hid (show r = 2 by rw [HX.out,edG_out HGX.out ho])
    have HO:=Lib.hid ho;clear ho
    go_wp2_with fail
    all_goals first
     | (go_ret;exact ⟨ret_int HB.out.symm,hbl.alloc hsz1 _⟩)
     | (exfalso;have:=HO.out;unfold edOut at this;omega)
   have ho':0 ≤ x.f∧x.f < st∧0 ≤ x.t∧x.t < st:=by unfold edOut at ho;omega
   obtain ⟨o1,o2,o3,o4⟩:=ho'
   have HO:=Lib.hid ho;clear ho
   cases hh:hasB al x.e with
   | false =>
    have HB:=Lib.hid (show r = 9 by rw [HX.out,edG_unknown HGX.out HO.out hh])
    have HH:=Lib.hid hh;clear hh
    go_wp2_with fail
    refine (slices_Contains A ca na al x.e false _ HNA.out HH.out HAL.out hac hcA).mono ?_
    rintro e w' ⟨rfl,rfl⟩
    go_wp2
    go_ret
    exact ⟨ret_int HB.out.symm,hbl.alloc hsz1 _⟩
   | true =>
    have HH:=Lib.hid hh;clear hh
    cases k with
    | zero =>
     simp only [Nat.zero_mul,add_zero'] at q0 p1 p2
     have HS:=Lib.hid (show r = edG st al (ed.take 1).getLast? (ed.drop 1) by rw [HX.out,take_snoc' HGX.out,List.getLast?_concat];exact edG_first HGX.out HO.out HH.out)
     go_wp2_with fail
     refine (slices_Contains A ca na al x.e true _ HNA.out HH.out HAL.out hac hcA).mono ?_
     rintro e w' ⟨rfl,rfl⟩
     go_wp2
     go_roundw
     case rel=>exact ⟨1,by omega,by go_num,HS,hbel.alloc hsz _⟩
     case measure=>simp [intOf];omega
    | succ j =>
     obtain ⟨ad',y,e,_,hy,g0,g1,g2⟩:=((hE.below hbl).after (box_below wr (.cells #[.int .i64 x.f,.int .i64 x.e,.int .i64 x.t] 67)) hsz1).at_ (k:=j) (by have:=HNE.out;omega)
     obtain rfl:ad = ad':=by injection e
     have b2:(j:Int) < (ne:Int):=by omega
     have r1:(wr.alloc (.cells #[.int .i64 x.f,.int .i64 x.e,.int .i64 x.t] 67)).cell? ⟨(ad.add (j * 3)).block,(ad.add (j * 3)).off + 1,none⟩ = some (.int .i64 y.e):=st_cells (j:=0) g1
     have r2:(wr.alloc (.cells #[.int .i64 x.f,.int .i64 x.e,.int .i64 x.t] 67)).cell? ⟨(ad.add (j * 3)).block,(ad.add (j * 3)).off + 2,none⟩ = some (.int .i64 y.t):=st_cells (j:=1) g2
     clear g1 g2
     have HY:=Lib.hid hy;clear hy
     by_cases hl:edLe x y
     ·have HB:=Lib.hid (show r = 5 by rw [HX.out,take_snoc' HY.out,List.getLast?_concat];exact edG_order HGX.out HO.out HH.out hl)
      have HLE:=Lib.hid hl;clear hl
      go_wp2_with fail
      refine (slices_Contains A ca na al x.e true _ HNA.out HH.out HAL.out hac hcA).mono ?_
      rintro e w' ⟨rfl,rfl⟩
      go_wp2
      all_goals first
       | (exfalso;have:=HLE.out;unfold edLe at this;omega)
       | (go_ret;exact ⟨ret_int HB.out.symm,(hbl.alloc hsz1 _).alloc (by simp;omega) _⟩)
     ·have HS:=Lib.hid (show r = edG st al (ed.take (j + 1 + 1)).getLast? (ed.drop (j + 1 + 1)) by rw [HX.out,take_snoc' HY.out,List.getLast?_concat,edG_next HGX.out HO.out HH.out hl,take_snoc' HGX.out,List.getLast?_concat])
      have HLE:=Lib.hid hl;clear hl
      go_wp2_with fail
      refine (slices_Contains A ca na al x.e true _ HNA.out HH.out HAL.out hac hcA).mono ?_
      rintro e w' ⟨rfl,rfl⟩
      go_wp2
      all_goals first
       | (exfalso;have:=HLE.out;unfold edLe at this;omega)
       | skip
      all_goals
       go_roundw
       case rel=>exact ⟨j + 1 + 1,by omega,by go_num,HS,(hbel.alloc hsz _).alloc (by simp;omega) _⟩
       case measure=>simp [intOf];omega
  ·have hf:r = 0:=by rw [HX.out,edG_end (by have:=HNE.out;omega)]
   have HF:=Lib.hid hf;clear hf
   go_wp2
   go_ret
   exact ⟨ret_int HF.out.symm,hbl⟩
theorem automaton_Check (A:Option Addr) (na ca:Nat) (M:Option Addr) (nm cm:Nat) (E:Option Addr) (ne ce:Nat) (a:Aut) (w:World) (h:AutR w w.heap.size A na ca M nm cm E ne ce a) :
  Calls Try.prog 55 #[.agg #[.slice A na ca,.int .i64 a.st,.slice M nm cm,.slice E ne ce]] w fun e w'=>e = .returned (.int .i64 (chkA a))∧Below w.heap.size w w':=by
 have hB0:=box_below w (.cells #[.slice A na ca,.int .i64 a.st,.slice M nm cm,.slice E ne ce] 32)
 have h1:AutR (w.alloc (.cells #[.slice A na ca,.int .i64 a.st,.slice M nm cm,.slice E ne ce] 32)) (w.alloc (.cells #[.slice A na ca,.int .i64 a.st,.slice M nm cm,.slice E ne ce] 32)).heap.size A na ca M nm cm E ne ce a:=(h.below hB0).more hB0.size
 have HE:=Lib.hid (automaton_checkEdges A na ca M nm cm E ne ce a (edErr a.st a.al a.ed) _ h1 rfl)
 have HA:=Lib.hid (automaton_checkSet A ca na a.al 32 (setErr a.al 32) _ h1.la rfl h1.ra h1.ac h1.cA)
 have HM:=Lib.hid (automaton_checkSet M cm nm a.ma a.st (setErr a.ma a.st) _ h1.lm rfl h1.rm h1.mc h1.cM)
 clear h1 h
 obtain ⟨al,st,ma,ed⟩:=a
 simp only at HE HA HM ⊢
 by_cases c1:setErr al 32 = 0
 ·by_cases c2:st < 0
  ·have HR:=Lib.hid (chkA_neg (a:=⟨al,st,ma,ed⟩) c1 c2)
   rw [c1] at HA
   clear c1 HE HM
   go_enter Try.func55,Try.ntmps55
   go_wp2_with fail
   refine HA.out.mono ?_
   rintro e w' ⟨rfl,rfl⟩
   go_wp2
   go_ret
   exact ⟨ret_int HR.out.symm,hB0⟩
  by_cases c3:4096 < st
  ·have HR:=Lib.hid (chkA_many (a:=⟨al,st,ma,ed⟩) c1 c2 c3)
   rw [c1] at HA
   clear c1 HE HM
   have c2':0 ≤ st:=by omega
   go_enter Try.func55,Try.ntmps55
   go_wp2_with fail
   refine HA.out.mono ?_
   rintro e w' ⟨rfl,rfl⟩
   go_wp2
   go_ret
   exact ⟨ret_int HR.out.symm,hB0⟩
  have c2':0 ≤ st:=by omega
  have c3':st ≤ 4096:=by omega
  by_cases c4:setErr ma st = 0
  ·have HR:=Lib.hid (chkA_ed (a:=⟨al,st,ma,ed⟩) c1 c2 c3 c4)
   rw [c1] at HA
   rw [c4] at HM
   clear c1 c2 c3 c4
   generalize edErr st al ed = r at *
   go_enter Try.func55,Try.ntmps55
   go_wp2_with fail
   refine HA.out.mono ?_
   rintro e w' ⟨rfl,rfl⟩
   go_wp2_with fail
   refine HM.out.mono ?_
   rintro e w' ⟨rfl,rfl⟩
   go_wp2_with fail
   refine HE.out.mono ?_
   rintro e w1 ⟨rfl,hb⟩
   go_wp2
   go_ret
   exact ⟨ret_int HR.out.symm,hB0.trans (hb.mono hB0.size)⟩
  ·have HR:=Lib.hid (chkA_mk (a:=⟨al,st,ma,ed⟩) c1 c2 c3 c4)
   rw [c1] at HA
   have q1:(setErr ma st != 0) = true:=by simpa using c4
   clear c1 c2 c3 c4 HE
   generalize setErr ma st = r at *
   go_enter Try.func55,Try.ntmps55
   go_wp2_with fail
   refine HA.out.mono ?_
   rintro e w' ⟨rfl,rfl⟩
   go_wp2_with fail
   refine HM.out.mono ?_
   rintro e w' ⟨rfl,rfl⟩
   go_wp2
   go_ret
   exact ⟨ret_int HR.out.symm,hB0⟩
 ·have HR:=Lib.hid (chkA_al (a:=⟨al,st,ma,ed⟩) c1)
  have q1:(setErr al 32 != 0) = true:=by simpa using c1
  clear c1 HE HM
  simp only at HR
  generalize setErr al 32 = r at *
  go_enter Try.func55,Try.ntmps55
  go_wp2_with fail
  refine HA.out.mono ?_
  rintro e w' ⟨rfl,rfl⟩
  go_wp2
  go_ret
  exact ⟨ret_int HR.out.symm,hB0⟩
end Go.Proofs.Ytdnmpndnpfklcaa
/- Walks: alphabet.merge for Union; product.events, Check, Alphabet. -/
namespace Go.Proofs.Ytdnmpndnpfklcaa
open Go.RowKit Go
end Go.Proofs.Ytdnmpndnpfklcaa
/- Walks: alphabet.Union; product.events, Check, Alphabet. -/
namespace Go.Proofs.Ytdnmpndnpfklcaa
open Go.RowKit Go
end Go.Proofs.Ytdnmpndnpfklcaa
/- Walks: alphabet.merge at any choice; Intersect, Minus, Subset. -/
namespace Go.Proofs.Ytdnmpndnpfklcaa
open Go.RowKit Go
end Go.Proofs.Ytdnmpndnpfklcaa
