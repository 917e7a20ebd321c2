/-
  No cell of these rows narrows 'for every input' (looked for: loops, veiled, ifaces, maps, wideKeys, modest, calm, conditions, laid).
  DERIVED. THE GIVEN ROWS OF THIS SEAT. 6 by the template 'for every input the law returns true; each argument reads behind the call as it read before'; 0 by the template 'total and deterministic' (their statements: YtddhaidimadliaaTotals.lean).
  GIVEN WITH THE SEED: the statements are not yours to turn. If you find one false, say at which input.
  Laid BY PROGRAM, IN A SANDBOX (cutbox-rows.mjs): the forced cells as the released guide's own fill.sh prints them over the translation 6551e9d82d85f8fb… (all of the seat's roots in one cut). By AI agents, Wed Nov 11 2026. No macro, syntax, notation, axiom, sorry.
-/
import Derived.Test.YtddhaidimadliaaChecked
import GoSem.Claim
import GoSem.ClaimJoined
import GoSem.ClaimMapViews
import Derived.JoinedTies
import Derived.KernelRfl
namespace Go.Proofs.Ytddhaidimadliaa
/- THE CELL 'sum', in the pinned program and in every row, IS THE sha256 OF THE DUMP (.gsa) THAT YtddhaidimadliaaProg.lean LOADS. Nothing in Lean hashes anything: it is a label: what it is worth is what the hold of that sum in a sandbox is worth. -/
noncomputable def Try.pinned : Pinned := { name := "ytddhaidimadliaa", sum := "6551e9d82d85f8fbbc3afc54de76628298b572b35ba92260791cbbe4548d6b64", checked := Try.checked }
namespace Rows
def none {H : Type} : Left H := { results := [], args := [] }

/-- 'overseerlaw41.DiagnosabilityTwins': WHATEVER THE INPUT: true; the input reads as it did. -/
def diagnosabilityTwinsSpec : ChangeSpec := { name := "diagnosabilityTwins", fn := fun _ => fun
  | [d1, d2] => { results := [.lit (.bool true)], args := [d1, d2] }
  | _ => none }
def diagnosabilityTwinsRow : OpenClaim := { program := "ytddhaidimadliaa", sum := "6551e9d82d85f8fbbc3afc54de76628298b572b35ba92260791cbbe4548d6b64", func := "overseer/overseerlaw41.DiagnosabilityTwins", spec := "diagnosabilityTwins", unfollowed := true, recurses := true, plainKeys := false, apart := false }
def DiagnosabilityTwinsSaid : Prop := diagnosabilityTwinsRow.holds Try.pinned (OpenSpec.ofChange diagnosabilityTwinsSpec)

/-- ITS FALSE NEIGHBOUR: 'it returns false'. Refute it at one input. -/
def diagnosabilityTwinsWrong : ChangeSpec := { name := "diagnosabilityTwins", fn := fun _ => fun
  | [d1, d2] => { results := [.lit (.bool false)], args := [d1, d2] }
  | _ => none }
def DiagnosabilityTwinsWrongFalsely : Prop := diagnosabilityTwinsRow.holds Try.pinned (OpenSpec.ofChange diagnosabilityTwinsWrong)

/-- 'overseerlaw41.DiagnosabilityMore': WHATEVER THE INPUT: true; the input reads as it did. -/
def diagnosabilityMoreSpec : ChangeSpec := { name := "diagnosabilityMore", fn := fun _ => fun
  | [d1, d2, d3] => { results := [.lit (.bool true)], args := [d1, d2, d3] }
  | _ => none }
def diagnosabilityMoreRow : OpenClaim := { program := "ytddhaidimadliaa", sum := "6551e9d82d85f8fbbc3afc54de76628298b572b35ba92260791cbbe4548d6b64", func := "overseer/overseerlaw41.DiagnosabilityMore", spec := "diagnosabilityMore", unfollowed := true, recurses := true, plainKeys := false, apart := false }
def DiagnosabilityMoreSaid : Prop := diagnosabilityMoreRow.holds Try.pinned (OpenSpec.ofChange diagnosabilityMoreSpec)

/-- ITS FALSE NEIGHBOUR: 'it returns false'. Refute it at one input. -/
def diagnosabilityMoreWrong : ChangeSpec := { name := "diagnosabilityMore", fn := fun _ => fun
  | [d1, d2, d3] => { results := [.lit (.bool false)], args := [d1, d2, d3] }
  | _ => none }
def DiagnosabilityMoreWrongFalsely : Prop := diagnosabilityMoreRow.holds Try.pinned (OpenSpec.ofChange diagnosabilityMoreWrong)

/-- 'overseerlaw41.DiagnosabilityVerifies': WHATEVER THE INPUT: true; the input reads as it did. -/
def diagnosabilityVerifiesSpec : ChangeSpec := { name := "diagnosabilityVerifies", fn := fun _ => fun
  | [d1, d2, d3] => { results := [.lit (.bool true)], args := [d1, d2, d3] }
  | _ => none }
def diagnosabilityVerifiesRow : OpenClaim := { program := "ytddhaidimadliaa", sum := "6551e9d82d85f8fbbc3afc54de76628298b572b35ba92260791cbbe4548d6b64", func := "overseer/overseerlaw41.DiagnosabilityVerifies", spec := "diagnosabilityVerifies", unfollowed := true, recurses := true, plainKeys := false, apart := false }
def DiagnosabilityVerifiesSaid : Prop := diagnosabilityVerifiesRow.holds Try.pinned (OpenSpec.ofChange diagnosabilityVerifiesSpec)

/-- ITS FALSE NEIGHBOUR: 'it returns false'. Refute it at one input. -/
def diagnosabilityVerifiesWrong : ChangeSpec := { name := "diagnosabilityVerifies", fn := fun _ => fun
  | [d1, d2, d3] => { results := [.lit (.bool false)], args := [d1, d2, d3] }
  | _ => none }
def DiagnosabilityVerifiesWrongFalsely : Prop := diagnosabilityVerifiesRow.holds Try.pinned (OpenSpec.ofChange diagnosabilityVerifiesWrong)

/-- 'overseerlaw41.DiagnosabilityExcuses': WHATEVER THE INPUT: true; the input reads as it did. -/
def diagnosabilityExcusesSpec : ChangeSpec := { name := "diagnosabilityExcuses", fn := fun _ => fun
  | [d1, d2, d3] => { results := [.lit (.bool true)], args := [d1, d2, d3] }
  | _ => none }
def diagnosabilityExcusesRow : OpenClaim := { program := "ytddhaidimadliaa", sum := "6551e9d82d85f8fbbc3afc54de76628298b572b35ba92260791cbbe4548d6b64", func := "overseer/overseerlaw41.DiagnosabilityExcuses", spec := "diagnosabilityExcuses", unfollowed := true, recurses := true, plainKeys := false, apart := false }
def DiagnosabilityExcusesSaid : Prop := diagnosabilityExcusesRow.holds Try.pinned (OpenSpec.ofChange diagnosabilityExcusesSpec)

/-- ITS FALSE NEIGHBOUR: 'it returns false'. Refute it at one input. -/
def diagnosabilityExcusesWrong : ChangeSpec := { name := "diagnosabilityExcuses", fn := fun _ => fun
  | [d1, d2, d3] => { results := [.lit (.bool false)], args := [d1, d2, d3] }
  | _ => none }
def DiagnosabilityExcusesWrongFalsely : Prop := diagnosabilityExcusesRow.holds Try.pinned (OpenSpec.ofChange diagnosabilityExcusesWrong)

/-- 'overseerlaw41.DiagnosabilityBounds': WHATEVER THE INPUT: true; the input reads as it did. -/
def diagnosabilityBoundsSpec : ChangeSpec := { name := "diagnosabilityBounds", fn := fun _ => fun
  | [d1, d2] => { results := [.lit (.bool true)], args := [d1, d2] }
  | _ => none }
def diagnosabilityBoundsRow : OpenClaim := { program := "ytddhaidimadliaa", sum := "6551e9d82d85f8fbbc3afc54de76628298b572b35ba92260791cbbe4548d6b64", func := "overseer/overseerlaw41.DiagnosabilityBounds", spec := "diagnosabilityBounds", unfollowed := true, recurses := true, plainKeys := false, apart := false }
def DiagnosabilityBoundsSaid : Prop := diagnosabilityBoundsRow.holds Try.pinned (OpenSpec.ofChange diagnosabilityBoundsSpec)

/-- ITS FALSE NEIGHBOUR: 'it returns false'. Refute it at one input. -/
def diagnosabilityBoundsWrong : ChangeSpec := { name := "diagnosabilityBounds", fn := fun _ => fun
  | [d1, d2] => { results := [.lit (.bool false)], args := [d1, d2] }
  | _ => none }
def DiagnosabilityBoundsWrongFalsely : Prop := diagnosabilityBoundsRow.holds Try.pinned (OpenSpec.ofChange diagnosabilityBoundsWrong)

/-- 'overseerlaw41.DiagnosabilityRefuses': WHATEVER THE INPUT: true; the input reads as it did. -/
def diagnosabilityRefusesSpec : ChangeSpec := { name := "diagnosabilityRefuses", fn := fun _ => fun
  | [d] => { results := [.lit (.bool true)], args := [d] }
  | _ => none }
def diagnosabilityRefusesRow : OpenClaim := { program := "ytddhaidimadliaa", sum := "6551e9d82d85f8fbbc3afc54de76628298b572b35ba92260791cbbe4548d6b64", func := "overseer/overseerlaw41.DiagnosabilityRefuses", spec := "diagnosabilityRefuses", unfollowed := true, recurses := true, plainKeys := false, apart := false }
def DiagnosabilityRefusesSaid : Prop := diagnosabilityRefusesRow.holds Try.pinned (OpenSpec.ofChange diagnosabilityRefusesSpec)

/-- ITS FALSE NEIGHBOUR: 'it returns false'. Refute it at one input. -/
def diagnosabilityRefusesWrong : ChangeSpec := { name := "diagnosabilityRefuses", fn := fun _ => fun
  | [d] => { results := [.lit (.bool false)], args := [d] }
  | _ => none }
def DiagnosabilityRefusesWrongFalsely : Prop := diagnosabilityRefusesRow.holds Try.pinned (OpenSpec.ofChange diagnosabilityRefusesWrong)

/- THE SECOND FORM. 'bulk': how many values and letters a reading holds, each counted each time it is reached (what is shared counts as often as it is met; a slice's spare places count too). A statement '..UptoSaid' is the law's where the arguments, and the package variables that the reading takes, are together of bulk at most 1048576: NARROWER than '..Said'. Prove '..Said' where nothing that the law and all that it calls make is longer than what came in: it says more and counts as full. Else prove '..UptoSaid'. A law counts once. -/
mutual
def uptoBulk {H : Type} : DataW H → Nat
  | .lit (.string bytes) => bytes.length + 1
  | .lit _ => 1
  | .nil => 1
  | .ptr d => uptoBulk d + 1
  | .slice elems spare => uptoBulkAll elems + uptoBulkAll spare + 1
  | .agg parts => uptoBulkAll parts + 1
  | .iface _ d => uptoBulk d + 1
  | .map entries => uptoBulkEntries entries + 1
  | .held _ => 1
def uptoBulkAll {H : Type} : List (DataW H) → Nat
  | [] => 0
  | d :: r => uptoBulk d + uptoBulkAll r
def uptoBulkEntries {H : Type} : List (Lit × DataW H) → Nat
  | [] => 0
  | x :: r => uptoBulkEntry x + uptoBulkEntries r
def uptoBulkEntry {H : Type} : Lit × DataW H → Nat
  | (.string bytes, d) => bytes.length + uptoBulk d + 1
  | (_, d) => uptoBulk d + 1
 end
def uptoSmall : (H : Type) → List (DataW H) → Bool := fun _ ds => decide (uptoBulkAll ds ≤ 1048576)
def OpenSpec.upto (s : _root_.Go.ChangeSpec) : _root_.Go.OpenSpec := { _root_.Go.OpenSpec.ofChange s with cond := some uptoSmall }

/-- 'overseerlaw41.DiagnosabilityTwins', WHERE WHAT IT READS IS OF BULK AT MOST 1048576: true; the input reads as it did. -/
def diagnosabilityTwinsUptoRow : OpenClaim := { program := "ytddhaidimadliaa", sum := "6551e9d82d85f8fbbc3afc54de76628298b572b35ba92260791cbbe4548d6b64", func := "overseer/overseerlaw41.DiagnosabilityTwins", spec := "diagnosabilityTwins", unfollowed := true, recurses := true, plainKeys := false, apart := false, narrowed := true }
def DiagnosabilityTwinsUptoSaid : Prop := diagnosabilityTwinsUptoRow.holds Try.pinned (OpenSpec.upto diagnosabilityTwinsSpec)

/-- 'overseerlaw41.DiagnosabilityMore', WHERE WHAT IT READS IS OF BULK AT MOST 1048576: true; the input reads as it did. -/
def diagnosabilityMoreUptoRow : OpenClaim := { program := "ytddhaidimadliaa", sum := "6551e9d82d85f8fbbc3afc54de76628298b572b35ba92260791cbbe4548d6b64", func := "overseer/overseerlaw41.DiagnosabilityMore", spec := "diagnosabilityMore", unfollowed := true, recurses := true, plainKeys := false, apart := false, narrowed := true }
def DiagnosabilityMoreUptoSaid : Prop := diagnosabilityMoreUptoRow.holds Try.pinned (OpenSpec.upto diagnosabilityMoreSpec)

/-- 'overseerlaw41.DiagnosabilityVerifies', WHERE WHAT IT READS IS OF BULK AT MOST 1048576: true; the input reads as it did. -/
def diagnosabilityVerifiesUptoRow : OpenClaim := { program := "ytddhaidimadliaa", sum := "6551e9d82d85f8fbbc3afc54de76628298b572b35ba92260791cbbe4548d6b64", func := "overseer/overseerlaw41.DiagnosabilityVerifies", spec := "diagnosabilityVerifies", unfollowed := true, recurses := true, plainKeys := false, apart := false, narrowed := true }
def DiagnosabilityVerifiesUptoSaid : Prop := diagnosabilityVerifiesUptoRow.holds Try.pinned (OpenSpec.upto diagnosabilityVerifiesSpec)

/-- 'overseerlaw41.DiagnosabilityExcuses', WHERE WHAT IT READS IS OF BULK AT MOST 1048576: true; the input reads as it did. -/
def diagnosabilityExcusesUptoRow : OpenClaim := { program := "ytddhaidimadliaa", sum := "6551e9d82d85f8fbbc3afc54de76628298b572b35ba92260791cbbe4548d6b64", func := "overseer/overseerlaw41.DiagnosabilityExcuses", spec := "diagnosabilityExcuses", unfollowed := true, recurses := true, plainKeys := false, apart := false, narrowed := true }
def DiagnosabilityExcusesUptoSaid : Prop := diagnosabilityExcusesUptoRow.holds Try.pinned (OpenSpec.upto diagnosabilityExcusesSpec)

/-- 'overseerlaw41.DiagnosabilityBounds', WHERE WHAT IT READS IS OF BULK AT MOST 1048576: true; the input reads as it did. -/
def diagnosabilityBoundsUptoRow : OpenClaim := { program := "ytddhaidimadliaa", sum := "6551e9d82d85f8fbbc3afc54de76628298b572b35ba92260791cbbe4548d6b64", func := "overseer/overseerlaw41.DiagnosabilityBounds", spec := "diagnosabilityBounds", unfollowed := true, recurses := true, plainKeys := false, apart := false, narrowed := true }
def DiagnosabilityBoundsUptoSaid : Prop := diagnosabilityBoundsUptoRow.holds Try.pinned (OpenSpec.upto diagnosabilityBoundsSpec)

/-- 'overseerlaw41.DiagnosabilityRefuses', WHERE WHAT IT READS IS OF BULK AT MOST 1048576: true; the input reads as it did. -/
def diagnosabilityRefusesUptoRow : OpenClaim := { program := "ytddhaidimadliaa", sum := "6551e9d82d85f8fbbc3afc54de76628298b572b35ba92260791cbbe4548d6b64", func := "overseer/overseerlaw41.DiagnosabilityRefuses", spec := "diagnosabilityRefuses", unfollowed := true, recurses := true, plainKeys := false, apart := false, narrowed := true }
def DiagnosabilityRefusesUptoSaid : Prop := diagnosabilityRefusesUptoRow.holds Try.pinned (OpenSpec.upto diagnosabilityRefusesSpec)

end Rows
end Go.Proofs.Ytddhaidimadliaa
