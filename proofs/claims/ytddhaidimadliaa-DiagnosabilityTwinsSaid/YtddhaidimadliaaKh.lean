/- Walks: the law's ends, seen. -/
import Derived.Test.YtddhaidimadliaaKe
import Derived.Test.YtddhaidimadliaaJx
import Derived.Test.YtddhaidimadliaaJf
import Derived.Test.YtddhaidimadliaaKb
import Derived.Test.YtddhaidimadliaaJy
namespace Go.Proofs.Ytddhaidimadliaa
open Go.RowKit Go

theorem endL_one {a : Aut} {s x : Int} {ws : List Int} {k : Nat} (hx : ws[k]? = some x) : endL a s (ws.drop k) = if nxt a s x < 0 then -1 else endL a (nxt a s x) (ws.drop (k + 1)) := by
 obtain ⟨hk, he⟩ := List.getElem?_eq_some_iff.1 hx
 rw [List.drop_eq_getElem_cons hk, he]
 rfl
end Go.Proofs.Ytddhaidimadliaa

/- Walk: the law's lasso. -/
namespace Go.Proofs.Ytddhaidimadliaa
open Go.RowKit Go

end Go.Proofs.Ytddhaidimadliaa

/- The statement DiagnosabilityVerifies: the plain law, the opening of a lasso, the walk. -/
namespace Go.Proofs.Ytddhaidimadliaa
section
open Go.ChangeShapes Go.WideShapes Go.ChangeAt Go.RowKit Go.Deep Go
variable {H : Type} {enc : TypeId × Value → H} {W : World} {spare : Nat → Bool} {held : Bool}
end
open Go.RowKit Go

end Go.Proofs.Ytddhaidimadliaa
