/- Walks: the law's infimal. -/
import Derived.Test.YtcchnibgehonoaaDoorDo
namespace Go.Proofs.YtcchnibgehonoaaDoor
open Go.RowKit Go Go.Maps

theorem compose_pairF (x y : AV) (b : Nat) (r : Aut) (T : List (List Int)) (w : World) (hb : w.heap.size = b) (hx : x.ok w w.heap.size) (hy : y.ok w w.heap.size) (hf : FewL [x.a, y.a]) (hr : synR [x.a, y.a] = some (r, T)) :
  Calls Tryd.prog 30 #[.slice (some ⟨b, 0, none⟩) 2 2] (w.alloc (.cells #[.slice x.A x.na x.ca, .int .i64 x.a.st, .slice x.M x.nm x.cm, .slice x.E x.ne x.ce, .slice y.A y.na y.ca, .int .i64 y.a.st, .slice y.M y.nm y.cm, .slice y.E y.ne y.ce] 25))
   fun e w' => ∃ z : AV, e = .returned (.tuple #[.agg #[.slice z.A z.na z.ca, .int .i64 z.a.st, .slice z.M z.nm z.cm, .slice z.E z.ne z.ce], .int .i64 0]) ∧ z.a = r ∧ z.ok w' w'.heap.size ∧ Below w.heap.size w w' := by
 subst hb
 have hb1 := box_below w (.cells #[.slice x.A x.na x.ca, .int .i64 x.a.st, .slice x.M x.nm x.cm, .slice x.E x.ne x.ce, .slice y.A y.na y.ca, .int .i64 y.a.st, .slice y.M y.nm y.cm, .slice y.E y.ne y.ce] 25)
 have hk : Blk (w.alloc (.cells #[.slice x.A x.na x.ca, .int .i64 x.a.st, .slice x.M x.nm x.cm, .slice x.E x.ne x.ce, .slice y.A y.na y.ca, .int .i64 y.a.st, .slice y.M y.nm y.cm, .slice y.E y.ne y.ce] 25)) w.heap.size 25 (avc x ++ avc y) := Blk.new w 25 (avc x ++ avc y)
 refine (compose_few _ 2 2 [x, y] r T _ rfl (two_rdl hk (AutR.more (AutR.below hx hb1) hb1.size) (AutR.more (AutR.below hy hb1) hb1.size)) (Nat.le_refl _) (by omega) hf hr).mono ?_
 rintro e w' ⟨hb2, A, na, ca, M, nm, cm, E, ne, ce, rfl, ha, _⟩
 exact ⟨⟨A, na, ca, M, nm, cm, E, ne, ce, r⟩, rfl, rfl, ha, hb1.trans (hb2.mono hb1.size)⟩
end Go.Proofs.YtcchnibgehonoaaDoor
