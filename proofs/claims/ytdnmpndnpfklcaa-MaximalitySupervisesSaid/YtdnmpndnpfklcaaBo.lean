/- The law's Known of chapter 28. -/
import Derived.Test.YtdnmpndnpfklcaaBl
import Derived.Test.YtdnmpndnpfklcaaV6
import Derived.Test.YtdnmpndnpfklcaaIv
import Derived.Test.YtdnmpndnpfklcaaXw

namespace Go.Proofs.Ytdnmpndnpfklcaa
open Go.RowKit Go Go.Maps
theorem law_Known28 (w:World):Calls Try.prog 10 #[] w fun e w'=>e = .returned (.bool true)∧Below w.heap.size w w':=by
 have HK:=Lib.hid (law_known28 w)
 go_enter Try.func10,Try.ntmps10
 go_wp2_with fail
 refine HK.out.mono ?_
 rintro e w1 ⟨rfl,hb1⟩
 have HB1:=Lib.hid hb1
 have HJ:=Lib.hid (law_Known04 w1)
 clear HK hb1
 go_wp2_with fail
 refine HJ.out.mono ?_
 rintro e w2 ⟨rfl,hb2⟩
 have HB2:=Lib.hid (HB1.out.trans (hb2.mono HB1.out.size))
 clear HJ hb2
 go_wp2
 go_ret
 exact ⟨rfl,HB2.out⟩
end Go.Proofs.Ytdnmpndnpfklcaa
/- The law MaximalityFewer: its walk. -/
namespace Go.Proofs.Ytdnmpndnpfklcaa
open Go.RowKit Go Go.Maps
def Keeps64 (W W':World):Prop:=W.heap.size ≤ W'.heap.size∧∀ (p:Addr) (x:Int),W.cell? p = some (.int .i64 x) → W'.cell? p = some (.int .i64 x)
theorem RdI.k64 {W W':World} {A:Option Addr} {l:List Int} (h:RdI W W.heap.size A l) (hk:Keeps64 W W'):RdI W' W'.heap.size A l:=fun k u hu=>by
 obtain ⟨ad,h1,h2,h3⟩:=h k u hu
 rw [iv_get] at hu
 obtain ⟨x,_,rfl⟩:=Option.map_eq_some_iff.1 hu
 exact ⟨ad,h1,Nat.lt_of_lt_of_le h2 hk.1,hk.2 _ _ h3⟩
end Go.Proofs.Ytdnmpndnpfklcaa
