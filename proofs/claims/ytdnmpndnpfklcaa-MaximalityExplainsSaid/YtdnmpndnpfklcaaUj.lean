/- Walks: reach.checkSet, checkStates, flags. -/
import Derived.Test.YtdnmpndnpfklcaaUh
namespace Go.Proofs.Ytdnmpndnpfklcaa
open Go.RowKit Go
def inF (n:Nat) (set:List Int):List Bool:=set.foldl fset (List.replicate n false)
theorem inF_snoc (n:Nat) {set:List Int} {k:Nat} {s:Int} (h:set[k]? = some s):inF n (set.take (k + 1)) = fset (inF n (set.take k)) s:=by
  unfold inF;rw [take_snoc' h,List.foldl_append];rfl
theorem inF_len (n:Nat) (set:List Int):(inF n set).length = n:=by
  unfold inF
  have:∀ (l:List Int) (N:List Bool),(l.foldl fset N).length = N.length:=by
    intro l
    induction l with
    | nil=>intro N;rfl
    | cons s l ih=>intro N;rw [List.foldl_cons,ih,fset_len]
  rw [this,List.length_replicate]
theorem fl_rep (n:Nat) (s:Int):fl (List.replicate n false) s = false:=by
  unfold fl
  rw [List.getD_eq_getElem?_getD,List.getElem?_replicate]
  split <;> rfl
theorem inF_fl {n:Nat} {set:List Int} (hs:∀ s ∈ set,0 ≤ s∧s < (n:Int)) {t:Int} (ht:0 ≤ t):fl (inF n set) t = true ↔ t ∈ set:=by
  have key:∀ (l:List Int) (N:List Bool),N.length = n → (∀ s ∈ l,0 ≤ s∧s < (n:Int)) → (fl (l.foldl fset N) t = true ↔ t ∈ l ∨ fl N t = true):=by
    intro l
    induction l with
    | nil=>intro N _ _;simp
    | cons s l ih =>
      intro N hN hl
      have h1:=hl s (List.mem_cons_self ..)
      rw [List.foldl_cons,ih _ (by rw [fset_len];exact hN) (fun z hz=>hl z (List.mem_cons_of_mem _ hz)),fl_set (by rw [hN];exact h1) ht,Bool.or_eq_true,decide_eq_true_eq,List.mem_cons]
      constructor
      · rintro (h | h | h) <;> simp [h]
      · rintro ((h | h) | h) <;> simp [h]
  unfold inF
  rw [key set _ (by rw [List.length_replicate]) hs,fl_rep]
  simp
set_option maxHeartbeats 400000 in
theorem reach_checkSet (A:Option Addr) (c n:Nat) (l:List Int) (m r:Int) (w:World) (hl:l.length = n) (hr:setErr l m = r) (h:RdI w w.heap.size A l) (hlc:n ≤ c) (hc:c ≤ 9223372036854775807) :
    Calls Try.prog 88 #[.slice A n c,.int .i64 m] w fun e w'=>e = .returned (.int .i64 r)∧w = w':=by
  have HL:=Lib.hid hl;clear hl
  have HR:=Lib.hid hr;clear hr
  go_enter Try.func88,Try.ntmps88
  go_wp2
  go_loop [9] (fun i=>∃ k:Nat,k ≤ n∧i = .int .i64 k∧Hid (r = setErrG m (l.take k).getLast? (l.drop k))) (fun i=>n - (intOf i).toNat)
  case atStart=>exact ⟨0,Nat.zero_le _,rfl,Lib.hid HR.out.symm⟩
  case round =>
    obtain ⟨k,hk,rfl,HX⟩:=hrel
    clear HR
    by_cases hlt:k < n
    · obtain ⟨ad,y,rfl,hb,hy,hcell⟩:=h.at_ (k:=k) (by have:=HL.out;omega)
      have b1:(k:Int) < (n:Int):=by omega
      have HY:=Lib.hid hy;clear hy
      by_cases h1:y < 0
      · go_wp2
        go_ret
        exact ⟨ret_int (by rw [HX.out,setErrG_range HY.out (.inl h1)]),rfl⟩
      by_cases h2:m ≤ y
      · go_wp2
        go_ret
        exact ⟨ret_int (by rw [HX.out,setErrG_range HY.out (.inr h2)]),rfl⟩
      have e1:decide (y < 0) = false:=by simpa using h1
      have e2:decide (m ≤ y) = false:=by simpa using h2
      cases k with
      | zero =>
        have hcell':=cell_zero hcell
        go_wp2
        go_round
        case rel=>exact ⟨1,by omega,by go_num,Lib.hid (by rw [HX.out,take_snoc' HY.out,List.getLast?_concat];exact setErrG_first HY.out (by omega))⟩
        case measure=>simp [intOf];omega
      | succ j =>
        obtain ⟨ad',q,e,_,hq,hcq⟩:=h.at_ (k:=j) (by have:=HL.out;omega)
        obtain rfl:ad = ad':=by injection e
        have hcell':=cell_succ hcell
        have HQ:=Lib.hid hq;clear hq
        by_cases h3:y ≤ q
        · go_wp2
          go_ret
          exact ⟨ret_int (by rw [HX.out,take_snoc' HQ.out,List.getLast?_concat,setErrG_order HY.out (by omega) h3]),rfl⟩
        · go_wp2
          go_round
          case rel=>exact ⟨j + 1 + 1,by omega,by go_num,Lib.hid (by rw [HX.out,take_snoc' HQ.out,List.getLast?_concat,setErrG_next HY.out (by omega) (by omega),take_snoc' HY.out,List.getLast?_concat])⟩
          case measure=>simp [intOf];omega
    · have hf:r = 0:=by rw [HX.out,setErrG_end (by have:=HL.out;omega)]
      have HF:=Lib.hid hf;clear hf
      go_wp2
      go_ret
      exact ⟨ret_int HF.out.symm,rfl⟩
set_option maxHeartbeats 400000 in
theorem reach_checkStates (A:Option Addr) (na ca:Nat) (M:Option Addr) (nm cm:Nat) (E:Option Addr) (ne ce:Nat) (st:Int) (S:Option Addr) (c n:Nat) (l:List Int) (r:Int) (w:World) (hl:l.length = n) (hr:setErr l st = r) (h:RdI w w.heap.size S l) (hlc:n ≤ c) (hc:c ≤ 9223372036854775807) :
    Calls Try.prog 66 #[.agg #[.slice A na ca,.int .i64 st,.slice M nm cm,.slice E ne ce],.slice S n c] w fun e w'=>e = .returned (.int .i64 r)∧Below w.heap.size w w':=by
  have HB:=Lib.hid (box_below w (.cells #[.slice A na ca,.int .i64 st,.slice M nm cm,.slice E ne ce] 32))
  have k3:Blk (w.alloc (.cells #[.slice A na ca,.int .i64 st,.slice M nm cm,.slice E ne ce] 32)) w.heap.size 32 [.slice A na ca,.int .i64 st,.slice M nm cm,.slice E ne ce]:=Blk.new _ _ _
  have c1:=k3.cell (j:=1) rfl
  have HC:=Lib.hid (reach_checkSet S c n l st r _ hl hr ((h.below HB.out).more HB.out.size) hlc hc)
  clear k3 h hr hl
  go_enter Try.func66,Try.ntmps66
  go_wp2_with fail
  refine HC.out.mono ?_
  rintro e w' ⟨rfl,rfl⟩
  go_wp2
  go_ret
  exact ⟨rfl,HB.out⟩
set_option maxHeartbeats 800000 in
theorem reach_flags (A:Option Addr) (na ca:Nat) (M:Option Addr) (nm cm:Nat) (E:Option Addr) (ne ce n:Nat) (S:Option Addr) (cs ns:Nat) (set:List Int) (w:World) (hn:n ≤ 4096) (hsl:set.length = ns) (hS:RdI w w.heap.size S set) (hset:∀ s ∈ set,0 ≤ s∧s < (n:Int)) (hs1:ns ≤ cs) (hs2:cs ≤ 9223372036854775807) :
    Calls Try.prog 68 #[.agg #[.slice A na ca,.int .i64 (n:Int),.slice M nm cm,.slice E ne ce],.slice S ns cs] w fun e w'=>∃ b,e = .returned (.slice (some ⟨b,0,none⟩) n n)∧Blk w' b 4 (bvl (inF n set))∧w.heap.size ≤ b∧Below w.heap.size w w':=by
  have hB0:=box_below w (.cells #[.slice A na ca,.int .i64 (n:Int),.slice M nm cm,.slice E ne ce] 32)
  have k3:Blk (w.alloc (.cells #[.slice A na ca,.int .i64 (n:Int),.slice M nm cm,.slice E ne ce] 32)) w.heap.size 32 [.slice A na ca,.int .i64 (n:Int),.slice M nm cm,.slice E ne ce]:=Blk.new _ _ _
  have hm:∀ W:World,(Instr.makeSlice 87 (.int .i64 (n:Int)) (.int .i64 (n:Int))).run Try.prog W = .ok (.slice (some ⟨W.heap.size,0,none⟩) n n) (W.alloc (.cells (madeCells #[.bool false] n) 4)):=fun W=>run_make_row' 87 4 (.bool false) 1 Try.underlying87 bool_info rfl .i64 .i64 n (by omega) (by omega) W
  have HK0:=Lib.hid (show Blk ((w.alloc (.cells #[.slice A na ca,.int .i64 (n:Int),.slice M nm cm,.slice E ne ce] 32)).alloc (.cells (madeCells #[.bool false] n) 4)) (w.heap.size + 1) 4 (bvl (inF n (set.take 0))) from by
    rw [made_bools]
    exact Blk.at_ _ _ _ (by simp))
  have HB1:=Lib.hid (hB0.alloc hB0.size (.cells (madeCells #[.bool false] n) 4))
  have HSS:=Lib.hid hS
  have c1:(w.alloc (.cells #[.slice A na ca,.int .i64 (n:Int),.slice M nm cm,.slice E ne ce] 32)).cell? ⟨w.heap.size,1,none⟩ = some (.int .i64 (n:Int)):=k3.cell (j:=1) rfl
  have HSL:=Lib.hid hsl;clear hsl
  have HSET:=Lib.hid hset;clear hset
  clear hB0 k3 hS
  go_enter Try.func68,Try.ntmps68
  go_wp2
  clear c1 hm
  go_loopw [7,13] (fun s7 s13 wr=>∃ (k:Nat) (v:Value),s13 = .int .i64 k∧s7 = v∧k ≤ ns∧Hid (Blk wr (w.heap.size + 1) 4 (bvl (inF n (set.take k))))∧Hid (Below w.heap.size w wr)) (fun _ s13 _=>ns - (intOf s13).toNat)
  case atStart=>exact ⟨0,_,rfl,rfl,Nat.zero_le _,HK0,HB1⟩
  case round =>
    clear HK0 HB1
    obtain ⟨k,v,rfl,rfl,hk,HK,HB⟩:=hrel
    by_cases hlt:k < ns
    · obtain ⟨sd,s,rfl,hsb,hss,hsc⟩:=(HSS.out.below HB.out).at_ (k:=k) (by have:=HSL.out;omega)
      have b1:(k:Int) < (ns:Int):=by omega
      obtain ⟨s0,s1⟩:=HSET.out s (List.mem_of_getElem? hss)
      obtain ⟨q,hq⟩:∃ q,fl (inF n (set.take k)) s = q:=⟨_,rfl⟩
      have g1:wr.cell? ⟨w.heap.size + 1,s.toNat,none⟩ = some (.bool q):=HK.out.cell (by rw [bvl_get,fl_get hq s0 (by rw [inF_len];exact s1)];rfl)
      have g2:wr.frozen? ⟨w.heap.size + 1,s.toNat,none⟩ = false:=HK.out.free _
      have g3:w.heap.size + 1 < wr.heap.size:=HK.out.lt
      have hk2:=HK.out.set (j:=s.toNat) (by rw [bvl_length,inF_len];omega) (.bool true)
      rw [bvl_set] at hk2
      have HK2:=Lib.hid (show Blk (wr.setCell ⟨w.heap.size + 1,s.toNat,none⟩ (.bool true)) (w.heap.size + 1) 4 (bvl (inF n (set.take (k + 1)))) from by rw [inF_snoc n hss];exact hk2)
      have HB2:=Lib.hid (HB.out.setCell (p:=⟨w.heap.size + 1,s.toNat,none⟩) (by show w.heap.size ≤ w.heap.size + 1;omega) (.bool true))
      clear hss hk2 hq
      go_wp2
      go_roundw
      case rel=>exact ⟨k + 1,_,by go_num,rfl,by omega,HK2,HB2⟩
      case measure=>simp [intOf];omega
    · obtain rfl:k = ns:=by omega
      have b1:¬ (k:Int) < (k:Int):=by omega
      have hta:set.take k = set:=List.take_of_length_le (by rw [HSL.out];exact Nat.le_refl _)
      rw [hta] at HK
      clear hta
      go_wp2
      go_ret
      exact ⟨w.heap.size + 1,rfl,HK.out,by omega,HB.out⟩
theorem path1_ok (bp b n:Nat) (N:List Bool) (t:Int) (w:World) (hp:Blk w bp 87 [.slice (some ⟨b,0,none⟩) n n]) (hb:Blk w b 4 (bvl N)) (hN:N.length = n) (h0:0 ≤ t) (h1:t < (n:Int)) :
    Calls Try.prog 112 #[.int .i64 t,.pointer (some ⟨bp,0,none⟩)] w fun e w'=>e = .returned (.bool (fl N t))∧w = w':=by
  have c0:=hp.cell (j:=0) rfl
  obtain ⟨q,hq⟩:∃ q,fl N t = q:=⟨_,rfl⟩
  have c1:w.cell? ⟨b,t.toNat,none⟩ = some (.bool q):=hb.cell (by rw [bvl_get,fl_get hq h0 (by omega)];rfl)
  rw [hq]
  have t1:¬ t < 0:=by omega
  clear hp hb hq
  go_enter Try.func112,Try.ntmps112
  go_wp2
  go_ret
  exact ⟨rfl,rfl⟩
theorem path2_ok (bp b n:Nat) (N:List Bool) (e:Ed) (w:World) (hp:Blk w bp 87 [.slice (some ⟨b,0,none⟩) n n]) (hb:Blk w b 4 (bvl N)) (hN:N.length = n) (h0:0 ≤ e.t) (h1:e.t < (n:Int)) :
    Calls Try.prog 113 #[evl e,.pointer (some ⟨bp,0,none⟩)] w fun r w'=>r = .returned (.bool (fl N e.t))∧Below w.heap.size w w':=by
  have hbx:=box_below w (.cells #[.int .i64 e.f,.int .i64 e.e,.int .i64 e.t] 67)
  have k3:Blk (w.alloc (.cells #[.int .i64 e.f,.int .i64 e.e,.int .i64 e.t] 67)) w.heap.size 67 [.int .i64 e.f,.int .i64 e.e,.int .i64 e.t]:=Blk.new _ _ _
  have c2:=k3.cell (j:=2) rfl
  have c0:=(hp.below hbx hp.lt).cell (j:=0) rfl
  obtain ⟨q,hq⟩:∃ q,fl N e.t = q:=⟨_,rfl⟩
  have c1:(w.alloc (.cells #[.int .i64 e.f,.int .i64 e.e,.int .i64 e.t] 67)).cell? ⟨b,e.t.toNat,none⟩ = some (.bool q):=(hb.below hbx hb.lt).cell (by rw [bvl_get,fl_get hq h0 (by omega)];rfl)
  rw [hq]
  have t1:¬ e.t < 0:=by omega
  have HBX:=Lib.hid hbx;clear hbx
  unfold evl
  clear hp hb hq k3
  go_enter Try.func113,Try.ntmps113
  go_wp2
  go_ret
  exact ⟨rfl,HBX.out⟩
end Go.Proofs.Ytdnmpndnpfklcaa
