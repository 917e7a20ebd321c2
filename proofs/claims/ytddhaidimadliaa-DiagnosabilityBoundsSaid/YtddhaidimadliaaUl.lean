/- Walks: forcing.Check; a system as a value. -/
import Derived.Test.YtddhaidimadliaaUk
namespace Go.Proofs.Ytddhaidimadliaa
open Go.RowKit Go

/-- a system: two automata, two lists, an event -/
structure SV where
 p : AV
 s : AV
 U : Option Addr
 nu : Nat
 cu : Nat
 u : List Int
 F : Option Addr
 nf : Nat
 cf : Nat
 f : List Int
 tick : Int
structure SV.ok (w : World) (B : Nat) (z : SV) : Prop where
 p : z.p.ok w B
 s : z.s.ok w B
 lu : z.u.length = z.nu
 ru : RdI w B z.U z.u
 u1 : z.nu ≤ z.cu
 u2 : z.cu ≤ 9223372036854775807
 lf : z.f.length = z.nf
 rf : RdI w B z.F z.f
 f1 : z.nf ≤ z.cf
 f2 : z.cf ≤ 9223372036854775807
theorem SV.ok.below {w w' : World} {B : Nat} {z : SV} (h : z.ok w B) (hb : Below B w w') : z.ok w' B := ⟨AutR.below h.p hb, AutR.below h.s hb, h.lu, h.ru.below hb, h.u1, h.u2, h.lf, h.rf.below hb, h.f1, h.f2⟩
theorem SV.ok.more {w : World} {B B' : Nat} {z : SV} (h : z.ok w B) (hB : B ≤ B') : z.ok w B' := ⟨AutR.more h.p hB, AutR.more h.s hB, h.lu, h.ru.more hB, h.u1, h.u2, h.lf, h.rf.more hB, h.f1, h.f2⟩
end Go.Proofs.Ytddhaidimadliaa
