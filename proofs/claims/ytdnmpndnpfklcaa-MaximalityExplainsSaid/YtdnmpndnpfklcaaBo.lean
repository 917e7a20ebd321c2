/- The law's Known of chapter 28. -/
import Derived.Test.YtdnmpndnpfklcaaBl
import Derived.Test.YtdnmpndnpfklcaaBn
import Derived.Test.YtdnmpndnpfklcaaXr
import Derived.Test.YtdnmpndnpfklcaaXv

namespace Go.Proofs.Ytdnmpndnpfklcaa
open Go.RowKit Go Go.Maps
theorem law_Known28 (w:World):Calls Try.prog 10 #[] w fun e w'=>e = .returned (.bool true)∧Below w.heap.size w w':=by
  have HK:=Lib.hid (law_known28 w)
  go_enter Try.func10,Try.ntmps10
  go_wp2_with fail
  refine HK.out.mono ?_
  rintro e w1 ⟨rfl,hb1⟩
  have HB1:=Lib.hid hb1
  have HJ:=Lib.hid (law_Known04 w1)
  clear HK hb1
  go_wp2_with fail
  refine HJ.out.mono ?_
  rintro e w2 ⟨rfl,hb2⟩
  have HB2:=Lib.hid (HB1.out.trans (hb2.mono HB1.out.size))
  clear HJ hb2
  go_wp2
  go_ret
  exact ⟨rfl,HB2.out⟩
end Go.Proofs.Ytdnmpndnpfklcaa
/- The law MaximalityFewer: its walk. -/
namespace Go.Proofs.Ytdnmpndnpfklcaa
open Go.RowKit Go Go.Maps
def Keeps64 (W W':World):Prop:=W.heap.size ≤ W'.heap.size∧∀ (p:Addr) (x:Int),W.cell? p = some (.int .i64 x) → W'.cell? p = some (.int .i64 x)
theorem RdI.k64 {W W':World} {A:Option Addr} {l:List Int} (h:RdI W W.heap.size A l) (hk:Keeps64 W W'):RdI W' W'.heap.size A l:=fun k u hu=>by
  obtain ⟨ad,h1,h2,h3⟩:=h k u hu
  rw [iv_get] at hu
  obtain ⟨x,_,rfl⟩:=Option.map_eq_some_iff.1 hu
  exact ⟨ad,h1,Nat.lt_of_lt_of_le h2 hk.1,hk.2 _ _ h3⟩
theorem RdX.k64 {W W':World} {A:Option Addr} {l:List Ed} (h:RdX W W.heap.size A l) (hk:Keeps64 W W'):RdX W' W'.heap.size A l:=fun k u hu=>by
  obtain ⟨ad,h1,h2,h3⟩:=h k u hu
  refine ⟨ad,h1,Nat.lt_of_lt_of_le h2 hk.1,fun j v hv=>?_⟩
  have h4:=h3 j v hv
  have h5:v ∈ edc u:=List.mem_of_getElem? hv
  unfold edc at h5
  simp only [List.mem_cons,List.not_mem_nil,or_false] at h5
  rcases h5 with rfl | rfl | rfl <;> exact hk.2 _ _ h4
theorem PB.ok.k64 {W W':World} {z:PB} (h:z.ok W W.heap.size) (hk:Keeps64 W W'):z.ok W' W'.heap.size :=
  ⟨⟨h.x.la,h.x.ac,h.x.cA,RdI.k64 h.x.ra hk,h.x.lm,h.x.mc,h.x.cM,RdI.k64 h.x.rm hk,h.x.le,h.x.ec,h.x.cE,RdX.k64 h.x.re hk⟩,⟨h.u.la,h.u.ac,h.u.cA,RdI.k64 h.u.ra hk⟩,⟨h.f.la,h.f.ac,h.f.cA,RdI.k64 h.f.ra hk⟩⟩
end Go.Proofs.Ytdnmpndnpfklcaa
