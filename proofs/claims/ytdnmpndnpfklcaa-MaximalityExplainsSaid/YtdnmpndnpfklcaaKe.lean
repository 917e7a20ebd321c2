/- Walks: the events of a sketch; Make. -/
import Derived.Test.YtdnmpndnpfklcaaJv
import Derived.Test.YtdnmpndnpfklcaaMi
import Derived.Test.YtdnmpndnpfklcaaUf
import Derived.Lib.SliceRun
import Derived.Deep.Cut
import Derived.BigQuiet

namespace Go.Proofs.Ytdnmpndnpfklcaa
open Go.RowKit Go
def nmF (i:Nat):ByteArray:=strOfNums [97 + (i:Int)]
def evO (i:Nat) (v:Int):Ev:=if 48 ≤ v∧v < 52 then ⟨nmF i,false,false,false,v - 47⟩ else ⟨nmF i,bits BinOp.and IntKind.u8 v 1 == 1,bits BinOp.and IntKind.u8 v 2 == 2,bits BinOp.and IntKind.u8 v 4 == 4,0⟩
def evF (l:List Int):List Ev:=l.mapIdx evO
end Go.Proofs.Ytdnmpndnpfklcaa
/- Walks: Make of law 41: the model of a sketch. -/
namespace Go.Proofs.Ytdnmpndnpfklcaa
open Go.RowKit Go
structure S4 where
  fl:List Int
  st:Int
  g:Gr
structure S4.ok (x:S4):Prop where
  fl:x.fl.length = 5
  fr:∀ v ∈ x.fl,0 ≤ v∧v ≤ 255
  st:0 ≤ x.st∧x.st ≤ 255
  g:x.g.ok
def s4c (x:S4):List Value:=bv x.fl ++ (.int .u8 x.st :: gcells x.g)
def S4.a (x:S4):Aut:=mkG (setB x.st 5) x.g
def S4.m (x:S4):Dm:=⟨x.a,(evF x.fl).map Ev.o,(evF x.fl).map Ev.fault⟩
theorem evO_nm (i:Nat) (v:Int):(evO i v).nm = nmF i:=by unfold evO;split <;> rfl
theorem evErr_ok {pre:List ByteArray} {i:Nat} {v:Int} (h1:nameB (nmF i) = true) (h2:inB pre (nmF i) = false):evErr pre (evO i v) = 0:=by
  unfold evErr
  rw [evO_nm,h1,h2,if_neg (by simp),if_neg (by simp)]
  unfold evO
  by_cases h:48 ≤ v∧v < 52
  · rw [if_pos h]
    dsimp only
    rw [if_neg (by omega),if_neg (by simp)]
  · rw [if_neg h]
    dsimp only
    rw [if_neg (by omega),if_neg (by simp)]
theorem evF_chk {fl:List Int} (h:fl.length = 5):chkE (evF fl) = 0:=by
  match fl,h with
  | [f0,f1,f2,f3,f4],_ =>
    show chkE [evO 0 f0,evO 1 f1,evO 2 f2,evO 3 f3,evO 4 f4] = 0
    unfold chkE
    rw [if_neg (by simp)]
    simp only [chkG,evO_nm,List.nil_append,List.cons_append]
    rw [evErr_ok (by kernel_rfl) (by kernel_rfl),evErr_ok (by kernel_rfl) (by kernel_rfl),evErr_ok (by kernel_rfl) (by kernel_rfl),evErr_ok (by kernel_rfl) (by kernel_rfl),evErr_ok (by kernel_rfl) (by kernel_rfl)]
    simp
theorem setB_in {x:Int}:∀ v ∈ setB x 5,0 ≤ v∧v < 5:=by
  intro v hv
  obtain ⟨i,hi,rfl,_⟩:=setB_mem.1 hv
  omega
theorem S4.wf {x:S4} (h:x.ok):WF x.a:=mkG_wf h.g (setB_inc _ _) (fun v hv=>by have:=setB_in v hv;omega)
structure S4.is (x:S4) (z:DV):Prop where
  a:z.x.a = x.a
  l:z.l = evF x.fl
  n:z.nv = 5
theorem S4.is.m {x:S4} {z:DV} (h:x.is z):z.m = x.m:=by unfold DV.m S4.m;rw [h.a,h.l]
theorem S4.is.dm {x:S4} {z:DV} (h:x.is z) (hx:x.ok):dmE z = 0:=by
  unfold dmE
  rw [h.l,evF_chk hx.fl,if_neg (by simp),h.a,(S4.wf hx).chk,if_neg (by simp),if_neg]
  rw [h.n,Bool.not_eq_true,List.any_eq_false]
  intro v hv
  have h1:v ∈ setB x.st 5:=by unfold S4.a at hv;rwa [mkG_al] at hv
  have:=setB_in v h1
  simp
  omega
structure S4A (W:World) (b:Nat) (x:S4):Prop where
  fl:W.rangeAt b 0 (bv x.fl)
  st:W.cell? ⟨b,5,none⟩ = some (.int .u8 x.st)
  g:W.rangeAt b 6 (gcells x.g)
theorem S4A.of {W:World} {b:Nat} {t:TypeId} {x:S4} (h:Blk W b t (s4c x)) (hx:x.ok):S4A W b x:=by
  have hl:(bv x.fl).length = 5:=by unfold bv;rw [List.length_map];exact hx.fl
  refine ⟨fun j v hv=>?_,?_,fun j v hv=>?_⟩
  · rw [Nat.zero_add]
    refine h.cell ?_
    unfold s4c
    rw [List.getElem?_append_left (List.getElem?_eq_some_iff.1 hv).1];exact hv
  · refine h.cell ?_
    unfold s4c
    rw [List.getElem?_append_right (by rw [hl];exact Nat.le_refl _),hl];rfl
  · refine h.cell ?_
    unfold s4c
    rw [List.getElem?_append_right (by rw [hl];omega),hl,show 6 + j - 5 = j + 1 by omega,List.getElem?_cons_succ];exact hv
theorem S4A.far {W W':World} {b b':Nat} {x:S4} (h:S4A W b x) (hg:W.grownBy W' (some b')) (hne:b ≠ b') (hlt:b < W.heap.size):S4A W' b x:=by
  have hc:∀ j,W'.cell? ⟨b,j,none⟩ = W.cell? ⟨b,j,none⟩:=fun j=>World.cell?_of_block (a:=⟨b,j,none⟩) (hg.block b hlt (by intro e;injection e with e;exact hne e))
  exact ⟨fun j v hv=>(hc _).trans (h.fl j v hv),(hc _).trans h.st,fun j v hv=>(hc _).trans (h.g j v hv)⟩
end Go.Proofs.Ytdnmpndnpfklcaa
/- Words on sketched models; slices.Clone at events. -/
namespace Go.Proofs.Ytdnmpndnpfklcaa
open Go.RowKit Go
theorem chkE_ok {l:List Ev} (h:chkE l = 0):∀ e ∈ l,e.fault ≠ 0 → e.o = false:=by
  have key:∀ (l:List Ev) (pre:List ByteArray),chkG pre l = 0 → ∀ e ∈ l,e.fault ≠ 0 → e.o = false:=by
    intro l
    induction l with
    | nil=>intro _ _ e he;cases he
    | cons y l ih =>
      intro pre hc e he hf
      rw [chkG] at hc
      by_cases h1:evErr pre y ≠ 0
      · rw [if_pos h1] at hc;exact absurd hc h1
      · rw [if_neg h1] at hc
        rcases List.mem_cons.1 he with rfl | he
        · have h2:evErr pre e = 0:=Classical.not_not.1 h1
          unfold evErr at h2
          split at h2
          · cases h2
          split at h2
          · cases h2
          split at h2
          · cases h2
          split at h2
          · cases h2
          · rename_i h3
            cases ho:e.o with
            | false=>rfl
            | true=>exact absurd ⟨hf,.inr ho⟩ h3
        · exact ih _ hc e he hf
  unfold chkE at h
  split at h
  · cases h
  · exact key l [] h
theorem DV.dmw {z:DV} (hd:dmE z = 0) {c:Int} (hc:1 ≤ c):DmW z.m c:=by
  refine ⟨dmE_wf hd,hc,fun x hx=>?_⟩
  have h1:∀ e,z.l[x.toNat]? = some e → z.m.ob x = e.o∧z.m.ft x = e.fault:=fun e h=>by
    unfold Dm.ob Dm.ft DV.m fl gI
    simp [h]
  cases hk:z.l[x.toNat]? with
  | none =>
    unfold Dm.ft DV.m gI
    simp [hk]
  | some e =>
    rw [(h1 e hk).1] at hx
    rw [(h1 e hk).2]
    refine Classical.byContradiction fun hf=>?_
    rw [chkE_ok (dmE_ev hd) e (List.mem_of_getElem? hk) hf] at hx
    cases hx
def obsL (l:List Ev) (k:Nat):List Ev:=match l[k]? with
  | some e=>l.set k ⟨e.nm,e.c,true,e.f,e.fault⟩
  | none=>l
theorem obsL_len (l:List Ev) (k:Nat):(obsL l k).length = l.length:=by unfold obsL;split <;> simp
theorem obsL_at {l:List Ev} {k:Nat} {e:Ev} (h:l[k]? = some e) (j:Nat):(obsL l k)[j]? = if j = k then some ⟨e.nm,e.c,true,e.f,e.fault⟩ else l[j]?:=by
  unfold obsL
  rw [h]
  have hk:=(List.getElem?_eq_some_iff.1 h).1
  dsimp only
  by_cases hj:j = k
  · subst hj;rw [if_pos rfl,List.getElem?_set_self hk]
  · rw [if_neg hj,List.getElem?_set_ne (Ne.symm hj)]
theorem obsL_chk {l:List Ev} {k:Nat} {e:Ev} (h:l[k]? = some e) (hf:e.fault = 0) (hc:chkE l = 0):chkE (obsL l k) = 0:=by
  have key:∀ (l:List Ev) (k:Nat) (pre:List ByteArray),l[k]? = some e → chkG pre l = 0 → chkG pre (obsL l k) = 0:=by
    intro l
    induction l with
    | nil=>intro k pre h _;simp at h
    | cons y l ih =>
      intro k pre h hc
      rw [chkG] at hc
      by_cases h1:evErr pre y ≠ 0
      · rw [if_pos h1] at hc;exact absurd hc h1
      rw [if_neg h1] at hc
      have h2:evErr pre y = 0:=Classical.not_not.1 h1
      cases k with
      | zero =>
        have hy:y = e:=by simpa using h
        subst hy
        have hob:obsL (y :: l) 0 = ⟨y.nm,y.c,true,y.f,y.fault⟩ :: l:=by unfold obsL;rfl
        rw [hob,chkG]
        have h3:evErr pre ⟨y.nm,y.c,true,y.f,y.fault⟩ = 0:=by
          unfold evErr at h2 ⊢
          dsimp only
          split at h2
          · cases h2
          split at h2
          · cases h2
          split at h2
          · cases h2
          rename_i g1 g2 g3
          rw [if_neg g1,if_neg g2,if_neg g3,if_neg (fun g=>g.1 hf)]
        rw [if_neg (by rw [h3];simp)]
        exact hc
      | succ k =>
        have hk:l[k]? = some e:=by simpa using h
        have hob:obsL (y :: l) (k + 1) = y :: obsL l k:=by
          unfold obsL
          rw [List.getElem?_cons_succ,hk];rfl
        rw [hob,chkG,if_neg h1]
        exact ih k _ hk hc
  unfold chkE at hc ⊢
  rw [obsL_len]
  split at hc
  · cases hc
  · rename_i g
    rw [if_neg g]
    exact key l k [] h hc
structure ObsZ (z y:DV) (k:Nat):Prop where
  a:y.x.a = z.x.a
  l:y.l = obsL z.l k
  n:y.nv = z.nv
theorem ObsZ.dm {z y:DV} {k:Nat} {e:Ev} (h:ObsZ z y k) (hk:z.l[k]? = some e) (hf:e.fault = 0) (hd:dmE z = 0):dmE y = 0:=by
  have hw:=dmE_wf hd
  have h3:=dmE_al hd
  unfold dmE
  rw [h.l,obsL_chk hk hf (dmE_ev hd),if_neg (by simp),h.a,hw.chk,if_neg (by simp),if_neg]
  rw [h.n,Bool.not_eq_true,List.any_eq_false]
  intro v hv
  have:=(h3 v hv).2
  simp
  omega
theorem ObsZ.more {z y:DV} {k:Nat} {e:Ev} {c:Int} (h:ObsZ z y k) (hk:z.l[k]? = some e) (hf:e.fault = 0) (hd:dmE z = 0) (hc:1 ≤ c):DmM z.m y.m c:=by
  have hat:=obsL_at hk
  refine ⟨h.a,fun x=>?_,fun x hx=>?_,z.dmw hd hc,y.dmw (h.dm hk hf hd) hc⟩
  · unfold Dm.ft DV.m gI
    rw [h.l]
    simp only [List.getD_eq_getElem?_getD,List.getElem?_map,hat]
    by_cases hj:x.toNat = k
    · rw [if_pos hj,hj,hk];rfl
    · rw [if_neg hj]
  · unfold Dm.ob DV.m fl at hx ⊢
    rw [h.l]
    simp only [List.getD_eq_getElem?_getD,List.getElem?_map,hat] at hx ⊢
    by_cases hj:x.toNat = k
    · rw [if_pos hj];rfl
    · rw [if_neg hj];exact hx
end Go.Proofs.Ytdnmpndnpfklcaa

/- Plain: what the law's search finds (chapter 41). -/
namespace Go.Proofs.Ytdnmpndnpfklcaa
open Go
section
variable {a:Aut} {i k:Nat} {s:Int} {l:List Int} {x:Ed}
structure ReaI (a:Aut) (i:Nat) (l:List Int):Prop where
  nd:l.Nodup
  rng:∀ t ∈ l,0 ≤ t∧t < a.st
  rc:∀ t ∈ l,Rc a.ed anyE 0 t
  cl:∀ (j:Nat) (s:Int),j < i → l[j]? = some s → ∀ x ∈ a.ed,x.f = s → x.t ∈ l
  z:0 < a.st → (0:Int) ∈ l
theorem ReaI.start (h:0 < a.st):ReaI a 0 [0]:=by
  refine ⟨by simp,fun t ht=>?_,fun t ht=>?_,fun j s hj=>absurd hj (Nat.not_lt_zero _),fun _=>List.mem_singleton.2 rfl⟩
  · rw [List.mem_singleton.1 ht];exact ⟨Int.le_refl 0,h⟩
  · rw [List.mem_singleton.1 ht];exact .refl
theorem ReaI.none (h:¬ 0 < a.st):ReaI a 0 []:=⟨List.nodup_nil,(fun t ht=>by cases ht),(fun t ht=>by cases ht),fun j s hj=>absurd hj (Nat.not_lt_zero _),fun h0=>absurd h0 h⟩
theorem ReaI.len (h:ReaI a i l):l.length ≤ a.st.toNat:=by
  have:=nodup_le (m:=rngI a.st) h.nd (fun x hx=>rngI_mem.2 (h.rng x hx))
  rwa [rngI_len] at this
structure ReaR (a:Aut) (i k:Nat) (s:Int) (l:List Int):Prop where
  o:ReaI a i l
  at_:l[i]? = some s
  row:∀ x ∈ a.ed.take k,x.f = s → x.t ∈ l
theorem ReaR.start (h:ReaI a i l) (hs:l[i]? = some s):ReaR a i 0 s l:=⟨h,hs,fun x hx=>by simp at hx⟩
theorem take1_mem {l:List Ed} {k:Nat} {x y:Ed} (hx:l[k]? = some x) (hy:y ∈ l.take (k + 1)):y ∈ l.take k ∨ y = x:=by
  rw [List.take_add_one,hx] at hy
  rcases List.mem_append.1 hy with h | h
  · exact .inl h
  · exact .inr (by simpa using h)
theorem ReaR.old (h:ReaR a i k s l) (hx:a.ed[k]? = some x) (hf:x.f = s → x.t ∈ l):ReaR a i (k + 1) s l :=
  ⟨h.o,h.at_,fun y hy he=>by
    rcases take1_mem hx hy with h1 | h1
    · exact h.row y h1 he
    · rw [h1] at he ⊢;exact hf he⟩
theorem ReaR.push (hw:WF a) (h:ReaR a i k s l) (hx:a.ed[k]? = some x) (hf:x.f = s) (hn:¬ x.t ∈ l):ReaR a i (k + 1) s (l ++ [x.t]):=by
  have hxm:x ∈ a.ed:=List.mem_of_getElem? hx
  have hg:=hw.ev_rng hxm
  have hil:i < l.length:=(List.getElem?_eq_some_iff.1 h.at_).1
  refine ⟨⟨?_,fun t ht=>?_,fun t ht=>?_,fun j u hj hu y hy he=>?_,fun h0=>List.mem_append_left _ (h.o.z h0)⟩,?_,fun y hy he=>?_⟩
  · rw [List.nodup_append]
    exact ⟨h.o.nd,by simp,fun b hb c hc e=>hn (by rw [List.mem_singleton.1 hc] at e;exact e ▸ hb)⟩
  · rcases List.mem_append.1 ht with h1 | h1
    · exact h.o.rng t h1
    · rw [List.mem_singleton.1 h1];exact ⟨hg.2.2.1,hg.2.2.2.1⟩
  · rcases List.mem_append.1 ht with h1 | h1
    · exact h.o.rc t h1
    · rw [List.mem_singleton.1 h1];exact .step (h.o.rc s (List.mem_of_getElem? h.at_)) hxm rfl hf
  · rw [List.getElem?_append_left (by omega)] at hu
    exact List.mem_append_left _ (h.o.cl j u hj hu y hy he)
  · rw [List.getElem?_append_left hil];exact h.at_
  · rcases take1_mem hx hy with h1 | h1
    · exact List.mem_append_left _ (h.row y h1 he)
    · rw [h1];simp
theorem ReaR.done (h:ReaR a i k s l) (hk:a.ed.length ≤ k):ReaI a (i + 1) l :=
  ⟨h.o.nd,h.o.rng,h.o.rc,fun j u hj hu y hy he=>by
    rcases Nat.lt_or_ge j i with h1 | h1
    · exact h.o.cl j u h1 hu y hy he
    · obtain rfl:j = i:=by omega
      rw [h.at_] at hu
      injection hu with hu
      exact h.row y (by rw [List.take_of_length_le hk];exact hy) (by rw [he,hu]),h.o.z⟩
theorem ReaI.fin (h:ReaI a i l) (hi:l.length ≤ i) (t:Int):t ∈ l ↔ 0 < a.st∧Rc a.ed anyE 0 t:=by
  constructor
  · intro ht
    have:=h.rng t ht
    exact ⟨by omega,h.rc t ht⟩
  · rintro ⟨h0,hr⟩
    refine hr.closed (P:=fun t=>t ∈ l) (h.z h0) fun x hx _ hf=>?_
    obtain ⟨j,hj⟩:=List.getElem?_of_mem hf
    have:=(List.getElem?_eq_some_iff.1 hj).1
    exact h.cl j x.f (by omega) hj x hx rfl
end
end Go.Proofs.Ytdnmpndnpfklcaa

/- Walks: slices.IndexFunc, ContainsFunc at integers, edges, events, the closure may make memory. -/
namespace Go.Proofs.Ytdnmpndnpfklcaa
open Go.RowKit Go
set_option maxHeartbeats 800000 in
theorem ints_IndexFuncB (A:Option Addr) (c n:Nat) (l:List Int) (g:Nat) (cap:Value) (p:Int → Bool) (w:World) (hl:l.length = n) (hR:RdI w w.heap.size A l) (hc:n ≤ 9223372036854775807)
    (eg:∀ args w,(callFunc g args).run Try.prog w = .ok (.enter g args) w)
    (hp:∀ x ∈ l,∀ W,Below w.heap.size w W → Calls Try.prog g #[.int .i64 x,cap] W fun e w'=>e = .returned (.bool (p x))∧Below W.heap.size W w') :
    Calls Try.prog 86 #[.slice A n c,.func (.func g) #[] #[cap]] w fun e w'=>∃ r:Int,e = .returned (.int .i64 r)∧decide (0 ≤ r) = l.any p∧Below w.heap.size w w':=by
  have HP:=Lib.hid hp
  have HL:=Lib.hid hl
  clear hp
  go_enter Try.func86,Try.ntmps86
  go_wp2
  go_loopw [4,5,8] (fun s4 s5 s8 wr=>∃ (k:Nat) (v4 v5:Value),s4 = v4∧s5 = v5∧k ≤ n∧s8 = .int .i64 k∧Hid ((l.take k).any p = false)∧Hid (Below w.heap.size w wr)) (fun _ _ s8 _=>n - (intOf s8).toNat)
  case atStart=>exact ⟨0,_,_,rfl,rfl,Nat.zero_le _,rfl,Lib.hid rfl,Lib.hid (Below.refl _ _)⟩
  case round =>
    obtain ⟨k,v4,v5,rfl,rfl,hk,rfl,HN,HB⟩:=hrel
    by_cases hlt:k < n
    · obtain ⟨ad,x,rfl,hab,hx,hcx⟩:=(hR.below HB.out).at_ (k:=k) (by rw [HL.out];exact hlt)
      have b1:(k:Int) < (n:Int):=by omega
      have HC:=Lib.hid (HP.out x (List.mem_of_getElem? hx) wr HB.out)
      obtain ⟨q,hq⟩:∃ q,p x = q:=⟨_,rfl⟩
      rw [hq] at HC
      have HQ:=Lib.hid hq;clear hq
      have HX:=Lib.hid hx;clear hx
      clear hab
      cases q with
      | true =>
        have HR:=Lib.hid (show decide (0 ≤ (k:Int)) = l.any p by rw [decide_eq_true (by omega),List.any_eq_true.2 ⟨x,List.mem_of_getElem? HX.out,HQ.out⟩])
        go_wp2_with fail
        refine HC.out.mono ?_
        rintro e w2 ⟨rfl,hb2⟩
        have HB2:=Lib.hid (HB.out.trans (hb2.mono HB.out.size))
        clear HC hcx hb2
        go_wp2
        go_ret
        exact ⟨_,rfl,HR.out,HB2.out⟩
      | false =>
        have HN2:=Lib.hid (show (l.take (k + 1)).any p = false by rw [List.take_add_one,HX.out,List.any_append,HN.out];simp [HQ.out])
        go_wp2_with (go_at_fn g;refine HC.out.mono ?_;rintro e w2 ⟨rfl,hb2⟩;have HB2:=Lib.hid (HB.out.trans (hb2.mono HB.out.size)))
        go_roundw
        case rel=>exact ⟨k + 1,_,_,rfl,rfl,by omega,by go_num,HN2,HB2⟩
        case measure=>simp [intOf];omega
    · obtain rfl:k = n:=by omega
      have b1:¬ (k:Int) < (k:Int):=by omega
      have HR:=Lib.hid (show decide (0 ≤ (-1:Int)) = l.any p by
        have:=HN.out
        rw [List.take_of_length_le (by rw [HL.out];exact Nat.le_refl _)] at this
        rw [this]
        decide)
      go_wp2
      go_ret
      exact ⟨_,rfl,HR.out,HB.out⟩
theorem ints_ContainsFuncB (A:Option Addr) (c n:Nat) (l:List Int) (g:Nat) (cap:Value) (p:Int → Bool) (q:Bool) (w:World) (hl:l.length = n) (hR:RdI w w.heap.size A l) (hc:n ≤ 9223372036854775807)
    (eg:∀ args w,(callFunc g args).run Try.prog w = .ok (.enter g args) w)
    (hp:∀ x ∈ l,∀ W,Below w.heap.size w W → Calls Try.prog g #[.int .i64 x,cap] W fun e w'=>e = .returned (.bool (p x))∧Below W.heap.size W w') (hq:l.any p = q) :
    Calls Try.prog 61 #[.slice A n c,.func (.func g) #[] #[cap]] w fun e w'=>e = .returned (.bool q)∧Below w.heap.size w w':=by
  have HI:=Lib.hid (ints_IndexFuncB A c n l g cap p w hl hR hc eg hp)
  rw [hq] at HI
  clear hp hR hq
  go_enter Try.func61,Try.ntmps61
  go_wp2_with fail
  refine HI.out.mono ?_
  rintro e w' ⟨r,rfl,hr,hb⟩
  have HB:=Lib.hid hb
  have HR:=Lib.hid hr
  clear hb hr
  go_wp2
  go_ret
  exact ⟨ret_bool HR.out,HB.out⟩
end Go.Proofs.Ytdnmpndnpfklcaa

/- Walks: the law's reached, live, quiet's closures. -/
namespace Go.Proofs.Ytdnmpndnpfklcaa
open Go.RowKit Go
theorem RdI.own_at' {w:World} {B n:Nat} {v:Value} {l:List Int} {i:Nat} {s:Int} (hl:l.length = n) (h:w.ownsRow B 3 1 v n (iv l)) (hs:l[i]? = some s):∃ (oa:Addr) (oc:Nat),v = .slice (some oa) n oc∧oa.block < w.heap.size∧w.cell? (oa.add i) = some (.int .i64 s):=by
  subst hl
  obtain ⟨OA,oc,rfl,h1,h2,h3⟩:=own_slI h
  obtain ⟨ad,e1,hb,hc⟩:=h3 i (.int .i64 s) (by simp [iv,hs])
  subst e1
  exact ⟨ad,oc,rfl,hb,hc⟩
theorem rdI_own {w:World} {B n c:Nat} {A:Option Addr} {l:List Int} (hl:l.length = n) (h:w.ownsRow B 3 1 (.slice A n c) n (iv l)):RdI w w.heap.size A l:=by
  subst hl
  obtain ⟨A',c',e,_,_,h3⟩:=own_slI h
  injection e with e1 e2 e3
  subst e1
  exact h3
end Go.Proofs.Ytdnmpndnpfklcaa

/- Walks: slices.DeleteFunc at ints, with a function that captures one value (as in chapter 45); projection.Alike; steps where there is no state; diagnosability.Model.run. -/
namespace Go.Proofs.Ytdnmpndnpfklcaa
open Go.RowKit Go
structure DelM (w0 W:World) (g cap n:Nat) (l:List Int) (p:Int → Bool) (i j:Nat):Prop where
  gr:w0.grownBy W (some g)
  row:∃ cs:List Value,Blk W g 3 cs∧cs.length = cap∧cs.take i = iv ((l.take j).filter fun x=>!p x)∧∀ k,j ≤ k → k < n → cs[k]? = (iv l)[k]?
  len:i = ((l.take j).filter fun x=>!p x).length
theorem take_snocD {l:List Int} {j:Nat} {x:Int} (h:l[j]? = some x):l.take (j + 1) = l.take j ++ [x]:=by
  rw [List.take_add_one,h];rfl
theorem DelM.skip {w0 W:World} {g cap n:Nat} {l:List Int} {p:Int → Bool} {i j:Nat} {x:Int} (h:DelM w0 W g cap n l p i j) (hx:l[j]? = some x) (hp:p x = true):DelM w0 W g cap n l p i (j + 1):=by
  have e:(l.take (j + 1)).filter (fun x=>!p x) = (l.take j).filter fun x=>!p x:=by
    rw [take_snocD hx,List.filter_append,List.filter_cons_of_neg (by simp [hp])];simp
  obtain ⟨cs,h1,h2,h3,h4⟩:=h.row
  exact ⟨h.gr,⟨cs,h1,h2,by rw [e];exact h3,fun k hk hn=>h4 k (by omega) hn⟩,by rw [e];exact h.len⟩
theorem DelM.keep {w0 W:World} {g cap n:Nat} {l:List Int} {p:Int → Bool} {i j:Nat} {x:Int} (h:DelM w0 W g cap n l p i j) (hx:l[j]? = some x) (hp:p x = false) (hij:i ≤ j) (hc:j < cap):DelM w0 (W.setCell ⟨g,i,none⟩ (.int .i64 x)) g cap n l p (i + 1) (j + 1):=by
  have e:(l.take (j + 1)).filter (fun x=>!p x) = (l.take j).filter (fun x=>!p x) ++ [x]:=by
    rw [take_snocD hx,List.filter_append,List.filter_cons_of_pos (by simp [hp])];rfl
  obtain ⟨cs,h1,h2,h3,h4⟩:=h.row
  have hi:i < cs.length:=by omega
  refine ⟨⟨h.gr.os,h.gr.tape,h.gr.output,by simpa [World.setCell] using h.gr.size,fun k hk hne=>?_⟩,⟨cs.set i (.int .i64 x),h1.set hi _,by rw [List.length_set];exact h2,?_,fun k hk hn=>?_⟩,by rw [e,List.length_append,← h.len];rfl⟩
  · have hs:=h.gr.size
    rw [← h.gr.block k hk hne]
    exact (grown_setCell W g i (.int .i64 x)).block k (by omega) hne
  · rw [e,iv_append,← h3,List.take_add_one,List.take_set,List.getElem?_set_self hi]
    rw [List.set_eq_of_length_le (by rw [List.length_take];omega)]
    rfl
  · rw [List.getElem?_set_ne (by omega)]
    exact h4 k (by omega) hn
theorem DelM.cell {w0 W:World} {g cap n:Nat} {l:List Int} {p:Int → Bool} {i j:Nat} {x:Int} (h:DelM w0 W g cap n l p i j) (hx:l[j]? = some x) (hn:j < n):W.cell? ⟨g,j,none⟩ = some (.int .i64 x):=by
  obtain ⟨cs,h1,_,_,h4⟩:=h.row
  refine h1.cell ?_
  rw [h4 j (Nat.le_refl _) hn,iv_get,hx]
  rfl
end Go.Proofs.Ytdnmpndnpfklcaa
/- Walks: projection.Alike; Model.step where there is no state; diagnosability.Model.run. -/
namespace Go.Proofs.Ytdnmpndnpfklcaa
open Go.RowKit Go
end Go.Proofs.Ytdnmpndnpfklcaa
/- Walk: diagnosability.Verify. -/
namespace Go.Proofs.Ytdnmpndnpfklcaa
open Go.RowKit Go
def C5 (W:World) (b:Nat) (v0 v1 v2 v3 v4:Value):Prop:=W.cell? ⟨b,0,none⟩ = some v0∧W.cell? ⟨b,1,none⟩ = some v1∧W.cell? ⟨b,2,none⟩ = some v2∧W.cell? ⟨b,3,none⟩ = some v3∧W.cell? ⟨b,4,none⟩ = some v4
theorem Blk.c5 {w:World} {b:Nat} {t:TypeId} {v0 v1 v2 v3 v4:Value} {vs:List Value} (h:Blk w b t (v0 :: v1 :: v2 :: v3 :: v4 :: vs)):C5 w b v0 v1 v2 v3 v4:=⟨h.cell (j:=0) rfl,h.cell (j:=1) rfl,h.cell (j:=2) rfl,h.cell (j:=3) rfl,h.cell (j:=4) rfl⟩
structure IV where
  A:Option Addr
  n:Nat
  c:Nat
  l:List Int
abbrev IV.v (x:IV):Value:=.slice x.A x.n x.c
structure IV.ok (w:World) (B:Nat) (x:IV):Prop where
  la:x.l.length = x.n
  ac:x.n ≤ x.c
  cA:x.c ≤ 9223372036854775807
  ra:RdI w B x.A x.l
theorem IV.ok.below {w w':World} {B:Nat} {x:IV} (h:x.ok w B) (hb:Below B w w'):x.ok w' B:=⟨h.la,h.ac,h.cA,h.ra.below hb⟩
theorem IV.ok.more {w:World} {B B':Nat} {x:IV} (h:x.ok w B) (hB:B ≤ B'):x.ok w B':=⟨h.la,h.ac,h.cA,h.ra.more hB⟩
end Go.Proofs.Ytdnmpndnpfklcaa
