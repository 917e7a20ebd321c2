/- Walks: reach.checkSet, checkStates, flags. -/
import Derived.Test.YtdnmpndnpfklcaaUh
import Derived.Test.YtdnmpndnpfklcaaUe
import Derived.Deep.AppendSrc
import Derived.Maps.AppendAt
import Derived.OwnWalkIn
import Derived.BigQuiet

namespace Go.Proofs.Ytdnmpndnpfklcaa
open Go.RowKit Go
def inF (n:Nat) (set:List Int):List Bool:=set.foldl fset (List.replicate n false)
theorem inF_snoc (n:Nat) {set:List Int} {k:Nat} {s:Int} (h:set[k]? = some s):inF n (set.take (k + 1)) = fset (inF n (set.take k)) s:=by
 unfold inF;rw [take_snoc' h,List.foldl_append];rfl
theorem inF_len (n:Nat) (set:List Int):(inF n set).length = n:=by
 unfold inF
 have:∀ (l:List Int) (N:List Bool),(l.foldl fset N).length = N.length:=by
  intro l
  induction l with
  | nil=>intro N;rfl
  | cons s l ih=>intro N;rw [List.foldl_cons,ih,fset_len]
 rw [this,List.length_replicate]
theorem fl_rep (n:Nat) (s:Int):fl (List.replicate n false) s = false:=by
 unfold fl
 rw [List.getD_eq_getElem?_getD,List.getElem?_replicate]
 split <;> rfl
theorem inF_fl {n:Nat} {set:List Int} (hs:∀ s ∈ set,0 ≤ s∧s < (n:Int)) {t:Int} (ht:0 ≤ t):fl (inF n set) t = true ↔ t ∈ set:=by
 have key:∀ (l:List Int) (N:List Bool),N.length = n → (∀ s ∈ l,0 ≤ s∧s < (n:Int)) → (fl (l.foldl fset N) t = true ↔ t ∈ l ∨ fl N t = true):=by
  intro l
  induction l with
  | nil=>intro N _ _;simp
  | cons s l ih =>
   intro N hN hl
   have h1:=hl s (List.mem_cons_self ..)
   rw [List.foldl_cons,ih _ (by rw [fset_len];exact hN) (fun z hz=>hl z (List.mem_cons_of_mem _ hz)),fl_set (by rw [hN];exact h1) ht,Bool.or_eq_true,decide_eq_true_eq,List.mem_cons]
   constructor
   ·rintro (h | h | h) <;> simp [h]
   ·rintro ((h | h) | h) <;> simp [h]
 unfold inF
 rw [key set _ (by rw [List.length_replicate]) hs,fl_rep]
 simp
set_option maxHeartbeats 400000 in
theorem reach_checkSet (A:Option Addr) (c n:Nat) (l:List Int) (m r:Int) (w:World) (hl:l.length = n) (hr:setErr l m = r) (h:RdI w w.heap.size A l) (hlc:n ≤ c) (hc:c ≤ 9223372036854775807) :
  Calls Try.prog 88 #[.slice A n c,.int .i64 m] w fun e w'=>e = .returned (.int .i64 r)∧w = w':=by
 have HL:=Lib.hid hl;clear hl
 have HR:=Lib.hid hr;clear hr
 go_enter Try.func88,Try.ntmps88
 go_wp2
 go_loop [9] (fun i=>∃ k:Nat,k ≤ n∧i = .int .i64 k∧Hid (r = setErrG m (l.take k).getLast? (l.drop k))) (fun i=>n - (intOf i).toNat)
 case atStart=>exact ⟨0,Nat.zero_le _,rfl,Lib.hid HR.out.symm⟩
 case round =>
  obtain ⟨k,hk,rfl,HX⟩:=hrel
  clear HR
  by_cases hlt:k < n
  ·obtain ⟨ad,y,rfl,hb,hy,hcell⟩:=h.at_ (k:=k) (by have:=HL.out;omega)
   have b1:(k:Int) < (n:Int):=by omega
   have HY:=Lib.hid hy;clear hy
   by_cases h1:y < 0
   ·go_wp2
    go_ret
    exact ⟨ret_int (by rw [HX.out,setErrG_range HY.out (.inl h1)]),rfl⟩
   by_cases h2:m ≤ y
   ·go_wp2
    go_ret
    exact ⟨ret_int (by rw [HX.out,setErrG_range HY.out (.inr h2)]),rfl⟩
   have e1:decide (y < 0) = false:=by simpa using h1
   have e2:decide (m ≤ y) = false:=by simpa using h2
   cases k with
   | zero =>
    have hcell':=cell_zero hcell
    go_wp2
    go_round
    case rel=>exact ⟨1,by omega,by go_num,Lib.hid (by rw [HX.out,take_snoc' HY.out,List.getLast?_concat];exact setErrG_first HY.out (by omega))⟩
    case measure=>simp [intOf];omega
   | succ j =>
    obtain ⟨ad',q,e,_,hq,hcq⟩:=h.at_ (k:=j) (by have:=HL.out;omega)
    obtain rfl:ad = ad':=by injection e
    have hcell':=cell_succ hcell
    have HQ:=Lib.hid hq;clear hq
    by_cases h3:y ≤ q
    ·go_wp2
     go_ret
     exact ⟨ret_int (by rw [HX.out,take_snoc' HQ.out,List.getLast?_concat,setErrG_order HY.out (by omega) h3]),rfl⟩
    ·go_wp2
     go_round
     case rel=>exact ⟨j + 1 + 1,by omega,by go_num,Lib.hid (by rw [HX.out,take_snoc' HQ.out,List.getLast?_concat,setErrG_next HY.out (by omega) (by omega),take_snoc' HY.out,List.getLast?_concat])⟩
     case measure=>simp [intOf];omega
  ·have hf:r = 0:=by rw [HX.out,setErrG_end (by have:=HL.out;omega)]
   have HF:=Lib.hid hf;clear hf
   go_wp2
   go_ret
   exact ⟨ret_int HF.out.symm,rfl⟩
set_option maxHeartbeats 400000 in
theorem reach_checkStates (A:Option Addr) (na ca:Nat) (M:Option Addr) (nm cm:Nat) (E:Option Addr) (ne ce:Nat) (st:Int) (S:Option Addr) (c n:Nat) (l:List Int) (r:Int) (w:World) (hl:l.length = n) (hr:setErr l st = r) (h:RdI w w.heap.size S l) (hlc:n ≤ c) (hc:c ≤ 9223372036854775807) :
  Calls Try.prog 66 #[.agg #[.slice A na ca,.int .i64 st,.slice M nm cm,.slice E ne ce],.slice S n c] w fun e w'=>e = .returned (.int .i64 r)∧Below w.heap.size w w':=by
 have HB:=Lib.hid (box_below w (.cells #[.slice A na ca,.int .i64 st,.slice M nm cm,.slice E ne ce] 32))
 have k3:Blk (w.alloc (.cells #[.slice A na ca,.int .i64 st,.slice M nm cm,.slice E ne ce] 32)) w.heap.size 32 [.slice A na ca,.int .i64 st,.slice M nm cm,.slice E ne ce]:=Blk.new _ _ _
 have c1:=k3.cell (j:=1) rfl
 have HC:=Lib.hid (reach_checkSet S c n l st r _ hl hr ((h.below HB.out).more HB.out.size) hlc hc)
 clear k3 h hr hl
 go_enter Try.func66,Try.ntmps66
 go_wp2_with fail
 refine HC.out.mono ?_
 rintro e w' ⟨rfl,rfl⟩
 go_wp2
 go_ret
 exact ⟨rfl,HB.out⟩
set_option maxHeartbeats 800000 in
theorem reach_flags (A:Option Addr) (na ca:Nat) (M:Option Addr) (nm cm:Nat) (E:Option Addr) (ne ce n:Nat) (S:Option Addr) (cs ns:Nat) (set:List Int) (w:World) (hn:n ≤ 4096) (hsl:set.length = ns) (hS:RdI w w.heap.size S set) (hset:∀ s ∈ set,0 ≤ s∧s < (n:Int)) (hs1:ns ≤ cs) (hs2:cs ≤ 9223372036854775807) :
  Calls Try.prog 68 #[.agg #[.slice A na ca,.int .i64 (n:Int),.slice M nm cm,.slice E ne ce],.slice S ns cs] w fun e w'=>∃ b,e = .returned (.slice (some ⟨b,0,none⟩) n n)∧Blk w' b 4 (bvl (inF n set))∧w.heap.size ≤ b∧Below w.heap.size w w':=by
 have hB0:=box_below w (.cells #[.slice A na ca,.int .i64 (n:Int),.slice M nm cm,.slice E ne ce] 32)
 have k3:Blk (w.alloc (.cells #[.slice A na ca,.int .i64 (n:Int),.slice M nm cm,.slice E ne ce] 32)) w.heap.size 32 [.slice A na ca,.int .i64 (n:Int),.slice M nm cm,.slice E ne ce]:=Blk.new _ _ _
 have hm:∀ W:World,(Instr.makeSlice 87 (.int .i64 (n:Int)) (.int .i64 (n:Int))).run Try.prog W = .ok (.slice (some ⟨W.heap.size,0,none⟩) n n) (W.alloc (.cells (madeCells #[.bool false] n) 4)):=fun W=>run_make_row' 87 4 (.bool false) 1 Try.underlying87 bool_info rfl .i64 .i64 n (by omega) (by omega) W
 have HK0:=Lib.hid (show Blk ((w.alloc (.cells #[.slice A na ca,.int .i64 (n:Int),.slice M nm cm,.slice E ne ce] 32)).alloc (.cells (madeCells #[.bool false] n) 4)) (w.heap.size + 1) 4 (bvl (inF n (set.take 0))) from by
  rw [made_bools]
  exact Blk.at_ _ _ _ (by simp))
 have HB1:=Lib.hid (hB0.alloc hB0.size (.cells (madeCells #[.bool false] n) 4))
 have HSS:=Lib.hid hS
 have c1:(w.alloc (.cells #[.slice A na ca,.int .i64 (n:Int),.slice M nm cm,.slice E ne ce] 32)).cell? ⟨w.heap.size,1,none⟩ = some (.int .i64 (n:Int)):=k3.cell (j:=1) rfl
 have HSL:=Lib.hid hsl;clear hsl
 have HSET:=Lib.hid hset;clear hset
 clear hB0 k3 hS
 go_enter Try.func68,Try.ntmps68
 go_wp2
 clear c1 hm
 go_loopw [7,13] (fun s7 s13 wr=>∃ (k:Nat) (v:Value),s13 = .int .i64 k∧s7 = v∧k ≤ ns∧Hid (Blk wr (w.heap.size + 1) 4 (bvl (inF n (set.take k))))∧Hid (Below w.heap.size w wr)) (fun _ s13 _=>ns - (intOf s13).toNat)
 case atStart=>exact ⟨0,_,rfl,rfl,Nat.zero_le _,HK0,HB1⟩
 case round =>
  clear HK0 HB1
  obtain ⟨k,v,rfl,rfl,hk,HK,HB⟩:=hrel
  by_cases hlt:k < ns
  ·obtain ⟨sd,s,rfl,hsb,hss,hsc⟩:=(HSS.out.below HB.out).at_ (k:=k) (by have:=HSL.out;omega)
   have b1:(k:Int) < (ns:Int):=by omega
   obtain ⟨s0,s1⟩:=HSET.out s (List.mem_of_getElem? hss)
   obtain ⟨q,hq⟩:∃ q,fl (inF n (set.take k)) s = q:=⟨_,rfl⟩
   have g1:wr.cell? ⟨w.heap.size + 1,s.toNat,none⟩ = some (.bool q):=HK.out.cell (by rw [bvl_get,fl_get hq s0 (by rw [inF_len];exact s1)];rfl)
   have g2:wr.frozen? ⟨w.heap.size + 1,s.toNat,none⟩ = false:=HK.out.free _
   have g3:w.heap.size + 1 < wr.heap.size:=HK.out.lt
   have hk2:=HK.out.set (j:=s.toNat) (by rw [bvl_length,inF_len];omega) (.bool true)
   rw [bvl_set] at hk2
   have HK2:=Lib.hid (show Blk (wr.setCell ⟨w.heap.size + 1,s.toNat,none⟩ (.bool true)) (w.heap.size + 1) 4 (bvl (inF n (set.take (k + 1)))) from by rw [inF_snoc n hss];exact hk2)
   have HB2:=Lib.hid (HB.out.setCell (p:=⟨w.heap.size + 1,s.toNat,none⟩) (by show w.heap.size ≤ w.heap.size + 1;omega) (.bool true))
   clear hss hk2 hq
   go_wp2
   go_roundw
   case rel=>exact ⟨k + 1,_,by go_num,rfl,by omega,HK2,HB2⟩
   case measure=>simp [intOf];omega
  ·obtain rfl:k = ns:=by omega
   have b1:¬ (k:Int) < (k:Int):=by omega
   have hta:set.take k = set:=List.take_of_length_le (by rw [HSL.out];exact Nat.le_refl _)
   rw [hta] at HK
   clear hta
   go_wp2
   go_ret
   exact ⟨w.heap.size + 1,rfl,HK.out,by omega,HB.out⟩
theorem path1_ok (bp b n:Nat) (N:List Bool) (t:Int) (w:World) (hp:Blk w bp 87 [.slice (some ⟨b,0,none⟩) n n]) (hb:Blk w b 4 (bvl N)) (hN:N.length = n) (h0:0 ≤ t) (h1:t < (n:Int)) :
  Calls Try.prog 112 #[.int .i64 t,.pointer (some ⟨bp,0,none⟩)] w fun e w'=>e = .returned (.bool (fl N t))∧w = w':=by
 have c0:=hp.cell (j:=0) rfl
 obtain ⟨q,hq⟩:∃ q,fl N t = q:=⟨_,rfl⟩
 have c1:w.cell? ⟨b,t.toNat,none⟩ = some (.bool q):=hb.cell (by rw [bvl_get,fl_get hq h0 (by omega)];rfl)
 rw [hq]
 have t1:¬ t < 0:=by omega
 clear hp hb hq
 go_enter Try.func112,Try.ntmps112
 go_wp2
 go_ret
 exact ⟨rfl,rfl⟩
theorem path2_ok (bp b n:Nat) (N:List Bool) (e:Ed) (w:World) (hp:Blk w bp 87 [.slice (some ⟨b,0,none⟩) n n]) (hb:Blk w b 4 (bvl N)) (hN:N.length = n) (h0:0 ≤ e.t) (h1:e.t < (n:Int)) :
  Calls Try.prog 113 #[evl e,.pointer (some ⟨bp,0,none⟩)] w fun r w'=>r = .returned (.bool (fl N e.t))∧Below w.heap.size w w':=by
 have hbx:=box_below w (.cells #[.int .i64 e.f,.int .i64 e.e,.int .i64 e.t] 67)
 have k3:Blk (w.alloc (.cells #[.int .i64 e.f,.int .i64 e.e,.int .i64 e.t] 67)) w.heap.size 67 [.int .i64 e.f,.int .i64 e.e,.int .i64 e.t]:=Blk.new _ _ _
 have c2:=k3.cell (j:=2) rfl
 have c0:=(hp.below hbx hp.lt).cell (j:=0) rfl
 obtain ⟨q,hq⟩:∃ q,fl N e.t = q:=⟨_,rfl⟩
 have c1:(w.alloc (.cells #[.int .i64 e.f,.int .i64 e.e,.int .i64 e.t] 67)).cell? ⟨b,e.t.toNat,none⟩ = some (.bool q):=(hb.below hbx hb.lt).cell (by rw [bvl_get,fl_get hq h0 (by omega)];rfl)
 rw [hq]
 have t1:¬ e.t < 0:=by omega
 have HBX:=Lib.hid hbx;clear hbx
 unfold evl
 clear hp hb hq k3
 go_enter Try.func113,Try.ntmps113
 go_wp2
 go_ret
 exact ⟨rfl,HBX.out⟩
end Go.Proofs.Ytdnmpndnpfklcaa
/- A queue: a row of ints whose head is taken off by slicing. -/
namespace Go.Proofs.Ytdnmpndnpfklcaa
open Go.RowKit Go
def QRow (w:World) (base:Nat) (v:Value) (n:Nat) (l:List Int):Prop :=
 l.length = n∧((v = .slice none 0 0∧n = 0) ∨ ∃ g q cap cs,v = .slice (some ⟨g,q,none⟩) n cap∧base ≤ g∧Blk w g 3 cs∧n ≤ cap∧cap ≤ maxLen∧q + cap ≤ cs.length∧(cs.drop q).take n = iv l)
theorem QRow.of_own {w:World} {base n:Nat} {v:Value} {l:List Int} (h:w.ownsRow base 3 1 v n (iv l)):QRow w base v n l:=by
 obtain ⟨h1,h2⟩:=h
 rw [iv_length,Nat.mul_one] at h1
 refine ⟨h1,?_⟩
 rcases h2 with h2 | ⟨g,cap,cur,h3,h4,h5,h6,h7,h8,h9⟩
 ·exact .inl h2
 ·refine .inr ⟨g,0,cap,cur.toList,h3,h4,by unfold Blk;exact h5,h6,h7,by rw [Array.length_toList];omega,?_⟩
  rw [List.drop_zero,← h9,Nat.mul_one]
theorem QRow.tail {w:World} {base n g q cap:Nat} {l:List Int} {x:Int} (h:QRow w base (.slice (some ⟨g,q,none⟩) (n + 1) cap) (n + 1) (x :: l)) :
  QRow w base (.slice (if cap = 1 then some ⟨g,q,none⟩ else some ⟨g,q + 1,none⟩) n (cap - 1)) n l:=by
 obtain ⟨h1,h2⟩:=h
 refine ⟨by simpa using h1,?_⟩
 rcases h2 with ⟨h2,_⟩ | ⟨g',q',cap',cs,h3,h4,h5,h6,h7,h8,h9⟩
 ·cases h2
 ·injection h3 with e1 e2 e3
  injection e1 with e1
  injection e1 with e1 e4
  subst e1 e3 e4
  by_cases hc:cap = 1
  ·rw [if_pos hc]
   obtain rfl:n = 0:=by omega
   refine .inr ⟨g,q,cap - 1,cs,rfl,h4,h5,by omega,by omega,by omega,?_⟩
   have:l = []:=List.eq_nil_of_length_eq_zero (by simpa using h1)
   rw [this];rfl
  ·rw [if_neg hc]
   refine .inr ⟨g,q + 1,cap - 1,cs,rfl,h4,h5,by omega,by omega,by omega,?_⟩
   have h10:=congrArg List.tail h9
   rw [show (iv (x :: l)).tail = iv l from rfl] at h10
   rw [← h10,← List.drop_one,List.drop_take,List.drop_drop]
   rfl
theorem QRow.head {w:World} {base n:Nat} {v:Value} {l:List Int} {x:Int} (h:QRow w base v (n + 1) (x :: l)):∃ g q cap,v = .slice (some ⟨g,q,none⟩) (n + 1) cap∧base ≤ g∧g < w.heap.size∧n + 1 ≤ cap∧cap ≤ maxLen∧w.cell? ⟨g,q,none⟩ = some (.int .i64 x):=by
 obtain ⟨h1,h2⟩:=h
 rcases h2 with ⟨_,h2⟩ | ⟨g,q,cap,cs,h3,h4,h5,h6,h7,h8,h9⟩
 ·omega
 ·refine ⟨g,q,cap,h3,h4,h5.lt,h6,h7,h5.cell ?_⟩
  have h10:=congrArg (fun (z:List Value)=>z[0]?) h9
  simp only [List.getElem?_take,List.getElem?_drop] at h10
  simpa [iv] using h10
theorem QRow.kept {w w':World} {base n:Nat} {v:Value} {l:List Int} (h:QRow w base v n l) {row:Option Nat} (hg:w.grownBy w' row) (hr:∀ g,v.ownBlock = some g → some g ≠ row):QRow w' base v n l:=by
 obtain ⟨h1,h2⟩:=h
 refine ⟨h1,?_⟩
 rcases h2 with h2 | ⟨g,q,cap,cs,h3,h4,h5,h6,h7,h8,h9⟩
 ·exact .inl h2
 ·exact .inr ⟨g,q,cap,cs,h3,h4,h5.kept hg (hr g (by rw [h3];rfl)),h6,h7,h8,h9⟩
theorem QRow.below {w w':World} {base n:Nat} {v:Value} {l:List Int} (h:QRow w base v n l) (hb:Below w.heap.size w w'):QRow w' base v n l:=by
 obtain ⟨h1,h2⟩:=h
 refine ⟨h1,?_⟩
 rcases h2 with h2 | ⟨g,q,cap,cs,h3,h4,h5,h6,h7,h8,h9⟩
 ·exact .inl h2
 ·exact .inr ⟨g,q,cap,cs,h3,h4,h5.below hb h5.lt,h6,h7,h8,h9⟩
theorem run_push_q (w:World) (base:Nat) (ty:TypeId) (v:Value) (n:Nat) (l:List Int) (h:QRow w base v n l) (x:Int) (gx:Nat) (hx:Blk w gx 3 [.int .i64 x]) (hn:n + 1 ≤ 1000000) (hb:base ≤ w.heap.size) :
  ∃ v' w',(Builtin.append_ #[29,29] ty #[v,.slice (some ⟨gx,0,none⟩) 1 1]).run Try.prog w = .ok v' w'∧QRow w' base v' (n + 1) (l ++ [x])∧w.grownBy w' v.ownBlock∧(v'.ownBlock = v.ownBlock ∨ v'.ownBlock = some w.heap.size):=by
 obtain ⟨i0,hi0,hz0,hz1,hz2⟩:=info_parts int_info
 have hnews:∀ j u,[Value.int .i64 x][j]? = some u → w.cell? ((⟨gx,0,none⟩:Addr).add j) = some u:=fun j u hu=>by
  have:=hx.cell hu
  rw [Addr.add_lit,Nat.zero_add]
  exact this
 have h1u:∀ u ∈ [Value.int .i64 x],u.oneCell' = true:=fun u hu=>by simp at hu;subst hu;rfl
 have hl:=h.1
 rcases h.2 with ⟨rfl,rfl⟩ | ⟨g,q,cap,cs,rfl,h4,h5,h6,h7,h8,h9⟩
 ·obtain ⟨v',w',hr,h2,h3,_,h5⟩:=run_append_own_at (P:=Try.prog) w base 29 ty 3 i0 (.int .i64 0) 1 8 Try.underlying29 hi0 hz0 hz1 hz2 rfl (by decide) (.slice none 0 0) 0 [] (World.ownsRow_nil w base 3 1) ⟨gx,0,none⟩ 1 1 [.int .i64 x] rfl hnews h1u (by simp [maxLen]) (by omega) hb
  have:l = []:=List.eq_nil_of_length_eq_zero hl
  subst this
  exact ⟨v',w',hr,QRow.of_own h2,h3,h5⟩
 ·have hi1:i0.size = 1:=hz1
  have hs:Src Try.prog i0.size 29 (.slice (some ⟨gx,0,none⟩) 1 1) 1 [.int .i64 x] w:=Src.ofSlice w Try.underlying29 ⟨gx,0,none⟩ 1 1 _ (by rw [hi1];rfl) hnews h1u
  have hol:∀ j u,(iv l)[j]? = some u → w.cell? ((⟨g,q,none⟩:Addr).add j) = some u:=fun j u hu=>by
   rw [Addr.add_lit]
   refine h5.cell ?_
   rw [← h9,List.getElem?_take,List.getElem?_drop] at hu
   by_cases hj:j < n
   ·rw [if_pos hj] at hu;exact hu
   ·rw [if_neg hj] at hu;cases hu
  by_cases hroom:n + 1 ≤ cap
  ·have hq:q + n < cs.length:=by omega
   have hr:=run_append_room_src (P:=Try.prog) w 29 29 ty 3 i0 Try.underlying29 hi0 g q n cap _ 1 _ hs hroom
    (fun j hj=>by
     obtain rfl:j = 0:=by simpa using hj
     rw [hi1,Nat.mul_one,Nat.add_zero,h5.cell (List.getElem?_eq_getElem hq)];rfl) (fun j _=>h5.free _)
   rw [hi1,Nat.mul_one] at hr
   refine ⟨_,_,hr,⟨by rw [List.length_append,hl];rfl,.inr ⟨g,q,cap,cs.set (q + n) (.int .i64 x),rfl,h4,h5.set hq _,hroom,h7,by rw [List.length_set];exact h8,?_⟩⟩,grown_setCell w g (q + n) _,.inl rfl⟩
   rw [List.drop_set,if_neg (by omega),Nat.add_sub_cancel_left,iv_append,← h9]
   have hlen:n < (cs.drop q).length:=by rw [List.length_drop];omega
   generalize cs.drop q = ds at hlen ⊢
   rw [List.take_set,List.take_add_one,List.getElem?_eq_getElem hlen,List.set_append_right _ _ (by rw [List.length_take];omega),List.length_take,Nat.min_eq_left (by omega),Nat.sub_self]
   rfl
  ·have hr:=run_append_grow_src (P:=Try.prog) w 29 29 ty 3 i0 (.int .i64 0) Try.underlying29 hi0 hz0 (some ⟨g,q,none⟩) n cap (iv l)
    (by rw [hi1];exact run_firstCells_some (P:=Try.prog) w.drew 1 n ⟨g,q,none⟩ n cap (iv l) (by rw [iv_length,hl,Nat.mul_one]) (by simpa using hol)) _ 1 _ hs (by omega) (by omega) (growslice_fits (by omega) (by rw [hz2];omega))
   have hge:=grownCap_ge w (n + 1) cap 3
   have hcm:grownCap w (n + 1) cap 3 ≤ maxLen:=grownCap_le_maxLen w (n + 1) cap 3 (by simp [maxLen];omega)
   refine ⟨_,_,hr,⟨by rw [List.length_append,hl];rfl,.inr ⟨w.heap.size,0,_,(iv l ++ [Value.int IntKind.i64 x]) ++ (Builtin.zeroCells (Value.int .i64 0).cells (grownCap w (n + 1) cap 3 - (n + 1))).toList,rfl,hb,?_,hge,hcm,?_,?_⟩⟩,⟨rfl,rfl,rfl,by simp,fun k hk _=>heap_alloc_old w.drew _ hk⟩,.inr rfl⟩
   ·unfold Blk
    rw [show ((iv l ++ [Value.int .i64 x]) ++ (Builtin.zeroCells (Value.int .i64 0).cells (grownCap w (n + 1) cap 3 - (n + 1))).toList).toArray = (iv l ++ [Value.int IntKind.i64 x]).toArray ++ Builtin.zeroCells (Value.int .i64 0).cells (grownCap w (n + 1) cap 3 - (n + 1)) by apply Array.ext';simp]
    exact heap_alloc_new w.drew _
   ·have hz:∀ k,(Builtin.zeroCells (Value.int IntKind.i64 0).cells k).toList.length = k:=fun k=>by rw [Array.length_toList,size_zeroCells];exact Nat.mul_one _
    rw [List.length_append,List.length_append,iv_length,hl,hz]
    show 0 + grownCap w (n + 1) cap 3 ≤ n + 1 + (grownCap w (n + 1) cap 3 - (n + 1))
    omega
   ·rw [List.drop_zero,iv_append]
    exact List.take_left' (by rw [List.length_append,iv_length,hl];rfl)
theorem wpListIn_push_q {F:Fence} {nF:Nat} (w:World) {ops:Array Oper} {rest:List Oper} {o:Oper} {a:Act} {Q:Exit → Act → World → Prop} (hg:o.guard = none) (s x:Operand)
  (hop:o.op = Op.call { callee:=Callee.builtin Builtin.append,args:=#[s,x],argTypes:=#[29,29] }) (base:Nat) (v:Value) (k:Nat) (l:List Int) (hs:a.eval s = v) (hq:QRow w base v k l) (y:Int) (gx:Nat)
  (hx:a.eval x = .slice (some ⟨gx,0,none⟩) 1 1) (hk:Blk w gx 3 [.int .i64 y]) (hn:k + 1 ≤ 1000000) (hb:base ≤ w.heap.size)
  (hK:∀ v' w',QRow w' base v' (k + 1) (l ++ [y]) → w.grownBy w' v.ownBlock → (v'.ownBlock = v.ownBlock ∨ v'.ownBlock = some w.heap.size) → wpListIn F nF Try.prog ops Q rest (a.put o.dst v') w'):wpListIn F nF Try.prog ops Q (o :: rest) a w:=by
 refine wpListIn_plain hg fun K hK'=>?_
 obtain ⟨v',w',hrun,r1,r2,r3⟩:=run_push_q w base o.type v k l hq y gx hk hn hb
 unfold Oper.wpIn
 refine ⟨?_,?_⟩
 ·simp [Oper.about,hop,resolve,Target.leads,Sem.run_pure]
 ·rw [Oper.semAt_plain F _ _ (by rw [hop];intro c hc';cases hc')]
  simp [execOp,hop,resolve,invoke,builtin,hs,hx,hrun,Result.andThen]
  exact hK' _ _ (hK v' w' r1 r2 r3)
end Go.Proofs.Ytdnmpndnpfklcaa
/- The graph's forward: its plain law and its memory. -/
namespace Go.Proofs.Ytdnmpndnpfklcaa
open Go.RowKit Go
theorem blk_apart {W:World} {a b:Nat} {t u:TypeId} {vs us:List Value} (h:Blk W a t vs) (k:Blk W b u us) (hne:t ≠ u):a ≠ b:=by
 rintro rfl
 unfold Blk at h k
 rw [h] at k
 injection k with k
 injection k with _ k _
 exact hne k
theorem QRow.apart {W:World} {base n b:Nat} {v:Value} {l:List Int} {t:TypeId} {vs:List Value} (h:QRow W base v n l) (hk:Blk W b t vs) (hne:3 ≠ t):some b ≠ v.ownBlock:=by
 rcases h.2 with ⟨rfl,_⟩ | ⟨g,q,cap,cs,rfl,_,hg,_⟩
 ·simp [Value.ownBlock]
 ·intro e
  simp only [Value.ownBlock,Option.some.injEq] at e
  exact blk_apart hg hk hne e.symm
theorem QRow.shape {W:World} {base n:Nat} {v:Value} {l:List Int} (h:QRow W base v n l):∃ A c,v = .slice A n c:=by
 rcases h.2 with ⟨rfl,rfl⟩ | ⟨g,q,cap,cs,rfl,_⟩
 ·exact ⟨_,_,rfl⟩
 ·exact ⟨_,_,rfl⟩
theorem QRow.lt {W:World} {base n:Nat} {v:Value} {l:List Int} (h:QRow W base v n l):∀ g,v.ownBlock = some g → base ≤ g∧g < W.heap.size:=by
 intro g hg
 rcases h.2 with ⟨rfl,_⟩ | ⟨g',q,cap,cs,rfl,h4,hb,_⟩
 ·cases hg
 ·simp only [Value.ownBlock,Option.some.injEq] at hg
  subst hg
  exact ⟨h4,hb.lt⟩
theorem QRow.cells {W:World} {base n:Nat} {v:Value} {l:List Int} (h:QRow W base v n l):∀ (j:Nat) (o:Obj),v.ownBlock = some j → W.heap[j]? = some o → o.isCells = true:=by
 intro j o hj ho
 rcases h.2 with ⟨rfl,_⟩ | ⟨g',q,cap,cs,rfl,h4,hb,_⟩
 ·cases hj
 ·simp only [Value.ownBlock,Option.some.injEq] at hj
  subst hj
  rw [show W.heap[g']? = _ from hb] at ho
  injection ho with ho
  subst ho
  rfl
end Go.Proofs.Ytdnmpndnpfklcaa
/- Walks: the graph's forward. -/
namespace Go.Proofs.Ytdnmpndnpfklcaa
open Go.RowKit Go
attribute [local go_sem] Oper.semAt_some
end Go.Proofs.Ytdnmpndnpfklcaa
/- Walks: reach.anyEdge, reach.reachable. -/
namespace Go.Proofs.Ytdnmpndnpfklcaa
open Go.RowKit Go
end Go.Proofs.Ytdnmpndnpfklcaa
/- Walks: the graph's path, with a permission that captures nothing. Printed by wip/mknh.py. -/
namespace Go.Proofs.Ytdnmpndnpfklcaa
open Go.RowKit Go
attribute [local go_sem] Oper.semAt_some
end Go.Proofs.Ytdnmpndnpfklcaa
/- Walks: the closures of reach.Cycle and of round. -/
namespace Go.Proofs.Ytdnmpndnpfklcaa
open Go.RowKit Go
end Go.Proofs.Ytdnmpndnpfklcaa
/- The graph's round: its plain law and its memory. -/
namespace Go.Proofs.Ytdnmpndnpfklcaa
open Go.RowKit Go
end Go.Proofs.Ytdnmpndnpfklcaa
/- Walks: the graph's round. Printed by wip/mknk.py. -/
namespace Go.Proofs.Ytdnmpndnpfklcaa
open Go.RowKit Go
attribute [local go_sem] Oper.semAt_some
end Go.Proofs.Ytdnmpndnpfklcaa
/- Walks: reach.Cycle. Printed by wip/mknl.py. -/
namespace Go.Proofs.Ytdnmpndnpfklcaa
open Go.RowKit Go
end Go.Proofs.Ytdnmpndnpfklcaa
