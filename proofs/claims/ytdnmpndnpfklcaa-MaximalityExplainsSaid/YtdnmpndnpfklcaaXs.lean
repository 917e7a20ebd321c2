/- Walks: slices.BinarySearchFunc at removals; maximality.Explain. -/
import Derived.Test.YtdnmpndnpfklcaaXr
import Derived.Test.YtdnmpndnpfklcaaIu
namespace Go.Proofs.Ytdnmpndnpfklcaa
open Go.RowKit Go Go.Maps
theorem max_cmpS (r:Rm) (s:Int) (w:World) (h1:0 ≤ r.s∧r.s < 4096) (h2:0 ≤ s∧s < 4096) :
    Calls Try.prog 59 #[.agg (rmc r).toArray,.int .i64 s] w fun e w'=>e = .returned (.int .i64 (r.s - s))∧Below w.heap.size w w':=by
  have hw:IntKind.i64.wrap (r.s - s) = r.s - s:=IntWalk.i64_in _ (by omega)
  have HB:=Lib.hid (box_below w (.cells #[.int .i64 r.s,.int .i64 r.k,.int .i64 r.r,.int .i64 r.e] 63))
  unfold rmc
  go_enter Try.func59,Try.ntmps59
  go_wp2
  go_ret
  exact ⟨rfl,HB.out⟩
def RetBsf (l:List Rm) (s:Int) (w:World) (e:Ending) (w':World):Prop:=∃ (i:Nat) (b:Bool),e = .returned (.tuple #[.int .i64 i,.bool b])∧(b = true → ∃ r,l[i]? = some r∧r.s = s)∧(b = false → ∀ r ∈ l,r.s ≠ s)∧Below w.heap.size w w'
def LoR (l:List Rm) (s:Int) (p:Nat):Prop:=∀ k r,k < p → l[k]? = some r → r.s < s
def HiR (l:List Rm) (s:Int) (q:Nat):Prop:=∀ k r,q ≤ k → l[k]? = some r → s ≤ r.s
theorem incR_at {l:List Rm} (h:IncR l) {i j:Nat} {x y:Rm} (hx:l[i]? = some x) (hy:l[j]? = some y) (hij:i < j):x.s < y.s:=by
  obtain ⟨h1,rfl⟩:=List.getElem?_eq_some_iff.1 hx
  obtain ⟨h2,rfl⟩:=List.getElem?_eq_some_iff.1 hy
  exact List.pairwise_iff_getElem.1 h i j h1 h2 hij
theorem LoR.up {l:List Rm} (h:IncR l) {s:Int} {m:Nat} {y:Rm} (hy:l[m]? = some y) (hlt:y.s < s):LoR l s (m + 1):=fun k r hk hr=>by
  rcases Nat.lt_or_ge k m with h1 | h1
  · have:=incR_at h hr hy h1;omega
  · obtain rfl:k = m:=by omega
    rw [hy] at hr
    injection hr with hr
    subst hr
    exact hlt
theorem HiR.down {l:List Rm} (h:IncR l) {s:Int} {m:Nat} {y:Rm} (hy:l[m]? = some y) (hlt:s ≤ y.s):HiR l s m:=fun k r hk hr=>by
  rcases Nat.lt_or_ge m k with h1 | h1
  · have:=incR_at h hy hr h1;omega
  · obtain rfl:k = m:=by omega
    rw [hy] at hr
    injection hr with hr
    subst hr
    exact hlt
theorem rm_reads {w:World} {B j:Nat} {R:Option Addr} {l:List Rm} (h:RdR 4 rmc w B R l) (hj:j < l.length):∃ ad r,R = some ad∧l[j]? = some r∧w.cell? (ad.add (j * 4)) = some (.int .i64 r.s)∧w.cell? ⟨(ad.add (j * 4)).block,(ad.add (j * 4)).off + 1,none⟩ = some (.int .i64 r.k)∧w.cell? ⟨(ad.add (j * 4)).block,(ad.add (j * 4)).off + 2,none⟩ = some (.int .i64 r.r)∧w.cell? ⟨(ad.add (j * 4)).block,(ad.add (j * 4)).off + 3,none⟩ = some (.int .i64 r.e):=by
  obtain ⟨ad,x,hA,_,hx,hcl⟩:=h.get hj
  exact ⟨ad,x,hA,hx,hcl 0 _ rfl,st_cells (j:=0) (hcl 1 _ rfl),st_cells (j:=1) (hcl 2 _ rfl),st_cells (j:=2) (hcl 3 _ rfl)⟩
set_option maxHeartbeats 800000 in
theorem slices_BSF (R:Option Addr) (rn rc:Nat) (l:List Rm) (s:Int) (w:World) (hl:l.length = rn) (hr:RdR 4 rmc w w.heap.size R l) (hi:IncR l) (hrg:∀ r ∈ l,0 ≤ r.s∧r.s < 4096) (hs:0 ≤ s∧s < 4096) (hn:rn ≤ 4096) :
    Calls Try.prog 58 #[.slice R rn rc,.int .i64 s,.func (.func 59) #[] #[]] w (RetBsf l s w):=by
  have HR:=Lib.hid hr
  have HL:=Lib.hid hl
  have HI:=Lib.hid hi
  have HG:=Lib.hid hrg
  have HS:=Lib.hid hs
  clear hr hl hi hrg hs
  go_enter Try.func58,Try.ntmps58
  go_wp2
  go_loopw [9,10,11] (fun s9 s10 s11 wr=>∃ (p q:Nat) (v11:Value),s9 = .int .i64 p∧s10 = .int .i64 q∧s11 = v11∧p ≤ q∧q ≤ rn∧Hid (LoR l s p)∧Hid (HiR l s q)∧Hid (Below w.heap.size w wr)) (fun s9 s10 _ _=>(intOf s10).toNat - (intOf s9).toNat)
  case atStart=>exact ⟨0,rn,_,rfl,rfl,rfl,Nat.zero_le _,Nat.le_refl _,Lib.hid (fun k r hk=>by omega),Lib.hid (fun k r hk h9=>by have:=(List.getElem?_eq_some_iff.1 h9).1;have:=HL.out;omega),Lib.hid (Below.refl _ _)⟩
  case round =>
    obtain ⟨p,q,v11,rfl,rfl,rfl,hpq,hq,H1,H2,HB⟩:=hrel
    by_cases hlt:p < q
    case pos =>
      obtain ⟨ad,y,hA,hy,g0,g1,g2,g3⟩:=rm_reads (HR.out.below HB.out) (j:=(p + q) / 2) (by have:=HL.out;omega)
      subst hA
      have HC:=Lib.hid (max_cmpS y s wr (HG.out y (List.mem_of_getElem? hy)) HS.out)
      have HY:=Lib.hid hy
      clear hy
      unfold rmc at HC
      by_cases hyx:y.s < s
      · have b9:y.s - s < 0:=by omega
        have HL9:=Lib.hid (LoR.up HI.out HY.out hyx)
        go_wp2_with (first | (go_at_call 59;refine HC.out.mono ?_;rintro e w2 ⟨rfl,hb2⟩) | fail)
        have HB2:=Lib.hid (HB.out.trans (hb2.mono HB.out.size))
        go_roundw
        case rel=>exact ⟨(p + q) / 2 + 1,q,_,by go_num,rfl,rfl,by omega,by omega,HL9,H2,HB2⟩
        case measure=>simp [intOf];omega
      · have b9:¬ y.s - s < 0:=by omega
        have HL9:=Lib.hid (HiR.down HI.out HY.out (show s ≤ y.s by omega))
        go_wp2_with (first | (go_at_call 59;refine HC.out.mono ?_;rintro e w2 ⟨rfl,hb2⟩) | fail)
        have HB2:=Lib.hid (HB.out.trans (hb2.mono HB.out.size))
        go_roundw
        case rel=>exact ⟨p,(p + q) / 2,_,rfl,by go_num,rfl,by omega,by omega,H1,HL9,HB2⟩
        case measure=>simp [intOf];omega
    obtain rfl:p = q:=by omega
    clear hlt hpq
    by_cases hl:p < rn
    · obtain ⟨ad,y,hA,hy,g0,g1,g2,g3⟩:=rm_reads (HR.out.below HB.out) (j:=p) (by have:=HL.out;omega)
      subst hA
      have HC:=Lib.hid (max_cmpS y s wr (HG.out y (List.mem_of_getElem? hy)) HS.out)
      have HY:=Lib.hid hy
      clear hy
      unfold rmc at HC
      obtain ⟨b,hb⟩:∃ b,(y.s - s == 0) = b:=⟨_,rfl⟩
      have HBB:=Lib.hid hb
      go_wp2_with (first | (go_at_call 59;refine HC.out.mono ?_;rintro e w2 ⟨rfl,hb2⟩) | fail)
      have HB2:=Lib.hid (HB.out.trans (hb2.mono HB.out.size))
      refine bodyPost_ret (v:=.tuple #[.int .i64 p,.bool b]) (by simp [results,Try.results58,go_sem]) rfl ?_
      refine ⟨p,b,rfl,fun h9=>⟨y,HY.out,?_⟩,fun h9 r hr e=>?_,HB2.out⟩
      · have:=HBB.out
        rw [h9,beq_iff_eq] at this
        omega
      · obtain ⟨k,hk⟩:=List.getElem?_of_mem hr
        have hne:¬ y.s = s:=fun e9=>by
          have:=HBB.out
          rw [h9,beq_eq_false_iff_ne] at this
          omega
        rcases Nat.lt_or_ge k p with h1 | h1
        · have:=H1.out k r h1 hk;omega
        · have h2:=H2.out p y (Nat.le_refl _) HY.out
          rcases Nat.lt_or_ge p k with h3 | h3
          · have:=incR_at HI.out HY.out hk h3;omega
          · obtain rfl:k = p:=by omega
            have:=HY.out
            rw [hk] at this
            injection this with this
            subst this
            exact hne e
    · go_wp2
      refine bodyPost_ret (v:=.tuple #[.int .i64 p,.bool false]) (by simp [results,Try.results58,go_sem]) rfl ?_
      refine ⟨p,false,rfl,(fun h9=>by cases h9),fun _ r hr e=>?_,HB.out⟩
      obtain ⟨k,hk⟩:=List.getElem?_of_mem hr
      have h3:=(List.getElem?_eq_some_iff.1 hk).1
      have:=H1.out k r (by have:=HL.out;omega) hk
      omega
end Go.Proofs.Ytdnmpndnpfklcaa
