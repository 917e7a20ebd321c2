/- Walks: the law's within. -/
import Derived.Test.YtcchnibgehonoaaDoorDi
namespace Go.Proofs.YtcchnibgehonoaaDoor
open Go.RowKit Go Go.Maps

/-- an automaton to be read -/
def RetR (a : Aut) (w : World) (e : Ending) (w' : World) : Prop :=
 ∃ (A : Option Addr) (na ca : Nat) (M : Option Addr) (nm cm : Nat) (E : Option Addr) (ne ce : Nat), e = .returned (.agg #[.slice A na ca, .int .i64 a.st, .slice M nm cm, .slice E ne ce]) ∧ AutR w' w'.heap.size A na ca M nm cm E ne ce a ∧ Below w.heap.size w w'
/-- the automaton under construction is read -/
theorem Bld.rd {w0 w : World} {A M E : Option Addr} {na ca km cm ke ce : Nat} {v1 : Value} {mk al : List Int} {es : List Ed} {st : Int} (h : Bld w0 w (.slice A na ca) v1 (.slice M km cm) (.slice E ke ce) km ke mk es) (hl : al.length = na) (h1 : na ≤ ca) (h2 : ca ≤ 9223372036854775807) (hr : RdI w w.heap.size A al) : AutR w w.heap.size A na ca M km cm E ke ce ⟨al, st, mk, es⟩ :=
 ⟨hl, h1, h2, hr, h.mkl, (own_cap' h.mrk).1, (own_cap' h.mrk).2, RdI.of_own h.mrk, h.edl, (own_cap' h.edg).1, (own_cap' h.edg).2, RdR.of_own (by omega) (fun _ _ => rfl) h.edg⟩

end Go.Proofs.YtcchnibgehonoaaDoor
