/-
  No cell of these rows narrows 'for every input' (looked for: loops, veiled, ifaces, maps, wideKeys, modest, calm, conditions, laid).
  DERIVED. THE GIVEN ROWS OF THIS SEAT. 7 by the template 'for every input the law returns true; each argument reads behind the call as it read before'; 0 by the template 'total and deterministic' (their statements: YtdnmpndnpfklcaaTotals.lean).
  GIVEN WITH THE SEED: the statements are not yours to turn. If you find one false, say at which input.
  Laid BY PROGRAM, IN A SANDBOX (cutbox-rows.mjs): the forced cells as the released guide's own fill.sh prints them over the translation 1995354982f13b06… (all of the seat's roots in one cut). By AI agents, Wed Nov 11 2026. No macro, syntax, notation, axiom, sorry.
-/
import Derived.Test.YtdnmpndnpfklcaaChecked
import GoSem.Claim
import GoSem.ClaimJoined
import GoSem.ClaimMapViews
import Derived.JoinedTies
import Derived.KernelRfl
namespace Go.Proofs.Ytdnmpndnpfklcaa
/- THE CELL 'sum', in the pinned program and in every row, IS THE sha256 OF THE DUMP (.gsa) THAT YtdnmpndnpfklcaaProg.lean LOADS. Nothing in Lean hashes anything: it is a label: what it is worth is what the hold of that sum in a sandbox is worth. -/
noncomputable def Try.pinned : Pinned := { name := "ytdnmpndnpfklcaa", sum := "1995354982f13b06a6eddcb0c992e87d95aee1572c2c80c925851fbbc6806deb", checked := Try.checked }
namespace Rows
def none {H : Type} : Left H := { results := [], args := [] }

/-- 'overseerlaw28.MaximalityProves': WHATEVER THE INPUT: true; the input reads as it did. -/
def maximalityProvesSpec : ChangeSpec := { name := "maximalityProves", fn := fun _ => fun
  | [d] => { results := [.lit (.bool true)], args := [d] }
  | _ => none }
def maximalityProvesRow : OpenClaim := { program := "ytdnmpndnpfklcaa", sum := "1995354982f13b06a6eddcb0c992e87d95aee1572c2c80c925851fbbc6806deb", func := "overseer/overseerlaw28.MaximalityProves", spec := "maximalityProves", unfollowed := true, recurses := true, plainKeys := false, apart := false }
def MaximalityProvesSaid : Prop := maximalityProvesRow.holds Try.pinned (OpenSpec.ofChange maximalityProvesSpec)

/-- ITS FALSE NEIGHBOUR: 'it returns false'. Refute it at one input. -/
def maximalityProvesWrong : ChangeSpec := { name := "maximalityProves", fn := fun _ => fun
  | [d] => { results := [.lit (.bool false)], args := [d] }
  | _ => none }
def MaximalityProvesWrongFalsely : Prop := maximalityProvesRow.holds Try.pinned (OpenSpec.ofChange maximalityProvesWrong)

/-- 'overseerlaw28.MaximalityVerifies': WHATEVER THE INPUT: true; the input reads as it did. -/
def maximalityVerifiesSpec : ChangeSpec := { name := "maximalityVerifies", fn := fun _ => fun
  | [d1, d2] => { results := [.lit (.bool true)], args := [d1, d2] }
  | _ => none }
def maximalityVerifiesRow : OpenClaim := { program := "ytdnmpndnpfklcaa", sum := "1995354982f13b06a6eddcb0c992e87d95aee1572c2c80c925851fbbc6806deb", func := "overseer/overseerlaw28.MaximalityVerifies", spec := "maximalityVerifies", unfollowed := true, recurses := true, plainKeys := false, apart := false }
def MaximalityVerifiesSaid : Prop := maximalityVerifiesRow.holds Try.pinned (OpenSpec.ofChange maximalityVerifiesSpec)

/-- ITS FALSE NEIGHBOUR: 'it returns false'. Refute it at one input. -/
def maximalityVerifiesWrong : ChangeSpec := { name := "maximalityVerifies", fn := fun _ => fun
  | [d1, d2] => { results := [.lit (.bool false)], args := [d1, d2] }
  | _ => none }
def MaximalityVerifiesWrongFalsely : Prop := maximalityVerifiesRow.holds Try.pinned (OpenSpec.ofChange maximalityVerifiesWrong)

/-- 'overseerlaw28.MaximalityFewer': WHATEVER THE INPUT: true; the input reads as it did. -/
def maximalityFewerSpec : ChangeSpec := { name := "maximalityFewer", fn := fun _ => fun
  | [d1, d2, d3] => { results := [.lit (.bool true)], args := [d1, d2, d3] }
  | _ => none }
def maximalityFewerRow : OpenClaim := { program := "ytdnmpndnpfklcaa", sum := "1995354982f13b06a6eddcb0c992e87d95aee1572c2c80c925851fbbc6806deb", func := "overseer/overseerlaw28.MaximalityFewer", spec := "maximalityFewer", unfollowed := true, recurses := true, plainKeys := false, apart := false }
def MaximalityFewerSaid : Prop := maximalityFewerRow.holds Try.pinned (OpenSpec.ofChange maximalityFewerSpec)

/-- ITS FALSE NEIGHBOUR: 'it returns false'. Refute it at one input. -/
def maximalityFewerWrong : ChangeSpec := { name := "maximalityFewer", fn := fun _ => fun
  | [d1, d2, d3] => { results := [.lit (.bool false)], args := [d1, d2, d3] }
  | _ => none }
def MaximalityFewerWrongFalsely : Prop := maximalityFewerRow.holds Try.pinned (OpenSpec.ofChange maximalityFewerWrong)

/-- 'overseerlaw28.MaximalityExplains': WHATEVER THE INPUT: true; the input reads as it did. -/
def maximalityExplainsSpec : ChangeSpec := { name := "maximalityExplains", fn := fun _ => fun
  | [d1, d2] => { results := [.lit (.bool true)], args := [d1, d2] }
  | _ => none }
def maximalityExplainsRow : OpenClaim := { program := "ytdnmpndnpfklcaa", sum := "1995354982f13b06a6eddcb0c992e87d95aee1572c2c80c925851fbbc6806deb", func := "overseer/overseerlaw28.MaximalityExplains", spec := "maximalityExplains", unfollowed := true, recurses := true, plainKeys := false, apart := false }
def MaximalityExplainsSaid : Prop := maximalityExplainsRow.holds Try.pinned (OpenSpec.ofChange maximalityExplainsSpec)

/-- ITS FALSE NEIGHBOUR: 'it returns false'. Refute it at one input. -/
def maximalityExplainsWrong : ChangeSpec := { name := "maximalityExplains", fn := fun _ => fun
  | [d1, d2] => { results := [.lit (.bool false)], args := [d1, d2] }
  | _ => none }
def MaximalityExplainsWrongFalsely : Prop := maximalityExplainsRow.holds Try.pinned (OpenSpec.ofChange maximalityExplainsWrong)

/-- 'overseerlaw28.MaximalityGreatest': WHATEVER THE INPUT: true; the input reads as it did. -/
def maximalityGreatestSpec : ChangeSpec := { name := "maximalityGreatest", fn := fun _ => fun
  | [d] => { results := [.lit (.bool true)], args := [d] }
  | _ => none }
def maximalityGreatestRow : OpenClaim := { program := "ytdnmpndnpfklcaa", sum := "1995354982f13b06a6eddcb0c992e87d95aee1572c2c80c925851fbbc6806deb", func := "overseer/overseerlaw28.MaximalityGreatest", spec := "maximalityGreatest", unfollowed := true, recurses := true, plainKeys := false, apart := false }
def MaximalityGreatestSaid : Prop := maximalityGreatestRow.holds Try.pinned (OpenSpec.ofChange maximalityGreatestSpec)

/-- ITS FALSE NEIGHBOUR: 'it returns false'. Refute it at one input. -/
def maximalityGreatestWrong : ChangeSpec := { name := "maximalityGreatest", fn := fun _ => fun
  | [d] => { results := [.lit (.bool false)], args := [d] }
  | _ => none }
def MaximalityGreatestWrongFalsely : Prop := maximalityGreatestRow.holds Try.pinned (OpenSpec.ofChange maximalityGreatestWrong)

/-- 'overseerlaw28.MaximalitySupervises': WHATEVER THE INPUT: true; the input reads as it did. -/
def maximalitySupervisesSpec : ChangeSpec := { name := "maximalitySupervises", fn := fun _ => fun
  | [d1, d2] => { results := [.lit (.bool true)], args := [d1, d2] }
  | _ => none }
def maximalitySupervisesRow : OpenClaim := { program := "ytdnmpndnpfklcaa", sum := "1995354982f13b06a6eddcb0c992e87d95aee1572c2c80c925851fbbc6806deb", func := "overseer/overseerlaw28.MaximalitySupervises", spec := "maximalitySupervises", unfollowed := true, recurses := true, plainKeys := false, apart := false }
def MaximalitySupervisesSaid : Prop := maximalitySupervisesRow.holds Try.pinned (OpenSpec.ofChange maximalitySupervisesSpec)

/-- ITS FALSE NEIGHBOUR: 'it returns false'. Refute it at one input. -/
def maximalitySupervisesWrong : ChangeSpec := { name := "maximalitySupervises", fn := fun _ => fun
  | [d1, d2] => { results := [.lit (.bool false)], args := [d1, d2] }
  | _ => none }
def MaximalitySupervisesWrongFalsely : Prop := maximalitySupervisesRow.holds Try.pinned (OpenSpec.ofChange maximalitySupervisesWrong)

/-- 'overseerlaw28.MaximalityAgrees': WHATEVER THE INPUT: true; the input reads as it did. -/
def maximalityAgreesSpec : ChangeSpec := { name := "maximalityAgrees", fn := fun _ => fun
  | [d] => { results := [.lit (.bool true)], args := [d] }
  | _ => none }
def maximalityAgreesRow : OpenClaim := { program := "ytdnmpndnpfklcaa", sum := "1995354982f13b06a6eddcb0c992e87d95aee1572c2c80c925851fbbc6806deb", func := "overseer/overseerlaw28.MaximalityAgrees", spec := "maximalityAgrees", unfollowed := true, recurses := true, plainKeys := false, apart := false }
def MaximalityAgreesSaid : Prop := maximalityAgreesRow.holds Try.pinned (OpenSpec.ofChange maximalityAgreesSpec)

/-- ITS FALSE NEIGHBOUR: 'it returns false'. Refute it at one input. -/
def maximalityAgreesWrong : ChangeSpec := { name := "maximalityAgrees", fn := fun _ => fun
  | [d] => { results := [.lit (.bool false)], args := [d] }
  | _ => none }
def MaximalityAgreesWrongFalsely : Prop := maximalityAgreesRow.holds Try.pinned (OpenSpec.ofChange maximalityAgreesWrong)

/- THE SECOND FORM. 'bulk': how many values and letters a reading holds, each counted each time it is reached (what is shared counts as often as it is met; a slice's spare places count too). A statement '..UptoSaid' is the law's where the arguments, and the package variables that the reading takes, are together of bulk at most 1048576: NARROWER than '..Said'. Prove '..Said' where nothing that the law and all that it calls make is longer than what came in: it says more and counts as full. Else prove '..UptoSaid'. A law counts once. -/
mutual
def uptoBulk {H : Type} : DataW H → Nat
  | .lit (.string bytes) => bytes.length + 1
  | .lit _ => 1
  | .nil => 1
  | .ptr d => uptoBulk d + 1
  | .slice elems spare => uptoBulkAll elems + uptoBulkAll spare + 1
  | .agg parts => uptoBulkAll parts + 1
  | .iface _ d => uptoBulk d + 1
  | .map entries => uptoBulkEntries entries + 1
  | .held _ => 1
def uptoBulkAll {H : Type} : List (DataW H) → Nat
  | [] => 0
  | d :: r => uptoBulk d + uptoBulkAll r
def uptoBulkEntries {H : Type} : List (Lit × DataW H) → Nat
  | [] => 0
  | x :: r => uptoBulkEntry x + uptoBulkEntries r
def uptoBulkEntry {H : Type} : Lit × DataW H → Nat
  | (.string bytes, d) => bytes.length + uptoBulk d + 1
  | (_, d) => uptoBulk d + 1
 end
def uptoSmall : (H : Type) → List (DataW H) → Bool := fun _ ds => decide (uptoBulkAll ds ≤ 1048576)
def OpenSpec.upto (s : _root_.Go.ChangeSpec) : _root_.Go.OpenSpec := { _root_.Go.OpenSpec.ofChange s with cond := some uptoSmall }

/-- 'overseerlaw28.MaximalityProves', WHERE WHAT IT READS IS OF BULK AT MOST 1048576: true; the input reads as it did. -/
def maximalityProvesUptoRow : OpenClaim := { program := "ytdnmpndnpfklcaa", sum := "1995354982f13b06a6eddcb0c992e87d95aee1572c2c80c925851fbbc6806deb", func := "overseer/overseerlaw28.MaximalityProves", spec := "maximalityProves", unfollowed := true, recurses := true, plainKeys := false, apart := false, narrowed := true }
def MaximalityProvesUptoSaid : Prop := maximalityProvesUptoRow.holds Try.pinned (OpenSpec.upto maximalityProvesSpec)

/-- 'overseerlaw28.MaximalityVerifies', WHERE WHAT IT READS IS OF BULK AT MOST 1048576: true; the input reads as it did. -/
def maximalityVerifiesUptoRow : OpenClaim := { program := "ytdnmpndnpfklcaa", sum := "1995354982f13b06a6eddcb0c992e87d95aee1572c2c80c925851fbbc6806deb", func := "overseer/overseerlaw28.MaximalityVerifies", spec := "maximalityVerifies", unfollowed := true, recurses := true, plainKeys := false, apart := false, narrowed := true }
def MaximalityVerifiesUptoSaid : Prop := maximalityVerifiesUptoRow.holds Try.pinned (OpenSpec.upto maximalityVerifiesSpec)

/-- 'overseerlaw28.MaximalityFewer', WHERE WHAT IT READS IS OF BULK AT MOST 1048576: true; the input reads as it did. -/
def maximalityFewerUptoRow : OpenClaim := { program := "ytdnmpndnpfklcaa", sum := "1995354982f13b06a6eddcb0c992e87d95aee1572c2c80c925851fbbc6806deb", func := "overseer/overseerlaw28.MaximalityFewer", spec := "maximalityFewer", unfollowed := true, recurses := true, plainKeys := false, apart := false, narrowed := true }
def MaximalityFewerUptoSaid : Prop := maximalityFewerUptoRow.holds Try.pinned (OpenSpec.upto maximalityFewerSpec)

/-- 'overseerlaw28.MaximalityExplains', WHERE WHAT IT READS IS OF BULK AT MOST 1048576: true; the input reads as it did. -/
def maximalityExplainsUptoRow : OpenClaim := { program := "ytdnmpndnpfklcaa", sum := "1995354982f13b06a6eddcb0c992e87d95aee1572c2c80c925851fbbc6806deb", func := "overseer/overseerlaw28.MaximalityExplains", spec := "maximalityExplains", unfollowed := true, recurses := true, plainKeys := false, apart := false, narrowed := true }
def MaximalityExplainsUptoSaid : Prop := maximalityExplainsUptoRow.holds Try.pinned (OpenSpec.upto maximalityExplainsSpec)

/-- 'overseerlaw28.MaximalityGreatest', WHERE WHAT IT READS IS OF BULK AT MOST 1048576: true; the input reads as it did. -/
def maximalityGreatestUptoRow : OpenClaim := { program := "ytdnmpndnpfklcaa", sum := "1995354982f13b06a6eddcb0c992e87d95aee1572c2c80c925851fbbc6806deb", func := "overseer/overseerlaw28.MaximalityGreatest", spec := "maximalityGreatest", unfollowed := true, recurses := true, plainKeys := false, apart := false, narrowed := true }
def MaximalityGreatestUptoSaid : Prop := maximalityGreatestUptoRow.holds Try.pinned (OpenSpec.upto maximalityGreatestSpec)

/-- 'overseerlaw28.MaximalitySupervises', WHERE WHAT IT READS IS OF BULK AT MOST 1048576: true; the input reads as it did. -/
def maximalitySupervisesUptoRow : OpenClaim := { program := "ytdnmpndnpfklcaa", sum := "1995354982f13b06a6eddcb0c992e87d95aee1572c2c80c925851fbbc6806deb", func := "overseer/overseerlaw28.MaximalitySupervises", spec := "maximalitySupervises", unfollowed := true, recurses := true, plainKeys := false, apart := false, narrowed := true }
def MaximalitySupervisesUptoSaid : Prop := maximalitySupervisesUptoRow.holds Try.pinned (OpenSpec.upto maximalitySupervisesSpec)

/-- 'overseerlaw28.MaximalityAgrees', WHERE WHAT IT READS IS OF BULK AT MOST 1048576: true; the input reads as it did. -/
def maximalityAgreesUptoRow : OpenClaim := { program := "ytdnmpndnpfklcaa", sum := "1995354982f13b06a6eddcb0c992e87d95aee1572c2c80c925851fbbc6806deb", func := "overseer/overseerlaw28.MaximalityAgrees", spec := "maximalityAgrees", unfollowed := true, recurses := true, plainKeys := false, apart := false, narrowed := true }
def MaximalityAgreesUptoSaid : Prop := maximalityAgreesUptoRow.holds Try.pinned (OpenSpec.upto maximalityAgreesSpec)

end Rows
end Go.Proofs.Ytdnmpndnpfklcaa
