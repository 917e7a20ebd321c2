/-
  NARROWER THAN 'FOR EVERY INPUT', by the rows' own cells (each row's printed sentence says how): ForcingLives: laid · ForcingLoops: laid · ForcingForces: laid · ForcingDecides: laid · ForcingVerifies: laid · ForcingStops: laid · ForcingRefuses: laid.
  DERIVED. THE GIVEN ROWS OF THIS SEAT. 7 by the template 'for every input the law returns true; each argument reads behind the call as it read before'; 0 by the template 'total and deterministic' (their statements: YtioijhpbedmeaaaGreatDoorTotals.lean).
  GIVEN WITH THE SEED: the statements are not yours to turn. If you find one false, say at which input.
  Laid BY PROGRAM, IN A SANDBOX (cutbox-rows.mjs): the forced cells as the released guide's own fill.sh prints them over the translation f47abd47580da515… (all of the seat's roots in one cut). By AI agents, Wed Nov 11 2026. No macro, syntax, notation, axiom, sorry.
-/
import Derived.Test.YtioijhpbedmeaaaGreatDoorChecked
import GoSem.Claim
import GoSem.ClaimJoined
import GoSem.ClaimMapViews
import Derived.JoinedTies
import Derived.KernelRfl
namespace Go.Proofs.YtioijhpbedmeaaaGreatDoor
/- THE CELL 'sum', in the pinned program and in every row, IS THE sha256 OF THE DUMP (.gsa) THAT YtioijhpbedmeaaaGreatDoorProg.lean LOADS. Nothing in Lean hashes anything: it is a label: what it is worth is what the hold of that sum in a sandbox is worth. -/
noncomputable def Tryz.pinned : Pinned := { name := "ytioijhpbedmeaaagreatdoor", sum := "f47abd47580da515032e85f4e357964ab9ca7ebb4f164b7fe3f71e3d3250b471", checked := Tryz.checked }
namespace Rows
def none {H : Type} : Left H := { results := [], args := [] }

/- WHAT THE LISTED PACKAGE-LEVEL VARIABLES READ AS WHEN THE CALL BEGINS. Each datum BY PROGRAM (the guide's laid-datum.mjs) off the statement by which the dump's own 'gosem.cut.vars' lays the variable. In a bare row this is a premise. The card (YtioijhpbedmeaaaGreatDoorCards.lean) ties it to the program's text. -/
def laid_math_bits_deBruijn32tab {H : Type} : DataW H := .agg [.lit (.int .u8 0), .lit (.int .u8 1), .lit (.int .u8 28), .lit (.int .u8 2), .lit (.int .u8 29), .lit (.int .u8 14), .lit (.int .u8 24), .lit (.int .u8 3), .lit (.int .u8 30), .lit (.int .u8 22), .lit (.int .u8 20), .lit (.int .u8 15), .lit (.int .u8 25), .lit (.int .u8 17), .lit (.int .u8 4), .lit (.int .u8 8), .lit (.int .u8 31), .lit (.int .u8 27), .lit (.int .u8 13), .lit (.int .u8 23), .lit (.int .u8 21), .lit (.int .u8 19), .lit (.int .u8 16), .lit (.int .u8 7), .lit (.int .u8 26), .lit (.int .u8 12), .lit (.int .u8 18), .lit (.int .u8 6), .lit (.int .u8 11), .lit (.int .u8 5), .lit (.int .u8 10), .lit (.int .u8 9)]
def laid_math_bits_deBruijn64tab {H : Type} : DataW H := .agg [.lit (.int .u8 0), .lit (.int .u8 1), .lit (.int .u8 56), .lit (.int .u8 2), .lit (.int .u8 57), .lit (.int .u8 49), .lit (.int .u8 28), .lit (.int .u8 3), .lit (.int .u8 61), .lit (.int .u8 58), .lit (.int .u8 42), .lit (.int .u8 50), .lit (.int .u8 38), .lit (.int .u8 29), .lit (.int .u8 17), .lit (.int .u8 4), .lit (.int .u8 62), .lit (.int .u8 47), .lit (.int .u8 59), .lit (.int .u8 36), .lit (.int .u8 45), .lit (.int .u8 43), .lit (.int .u8 51), .lit (.int .u8 22), .lit (.int .u8 53), .lit (.int .u8 39), .lit (.int .u8 33), .lit (.int .u8 30), .lit (.int .u8 24), .lit (.int .u8 18), .lit (.int .u8 12), .lit (.int .u8 5), .lit (.int .u8 63), .lit (.int .u8 55), .lit (.int .u8 48), .lit (.int .u8 27), .lit (.int .u8 60), .lit (.int .u8 41), .lit (.int .u8 37), .lit (.int .u8 16), .lit (.int .u8 46), .lit (.int .u8 35), .lit (.int .u8 44), .lit (.int .u8 21), .lit (.int .u8 52), .lit (.int .u8 32), .lit (.int .u8 23), .lit (.int .u8 11), .lit (.int .u8 54), .lit (.int .u8 26), .lit (.int .u8 40), .lit (.int .u8 15), .lit (.int .u8 34), .lit (.int .u8 20), .lit (.int .u8 31), .lit (.int .u8 10), .lit (.int .u8 25), .lit (.int .u8 14), .lit (.int .u8 19), .lit (.int .u8 9), .lit (.int .u8 13), .lit (.int .u8 8), .lit (.int .u8 7), .lit (.int .u8 6)]
def laid_internal_strconv_uint64pow10 {H : Type} : DataW H := .agg [.lit (.int .u64 1), .lit (.int .u64 10), .lit (.int .u64 100), .lit (.int .u64 1000), .lit (.int .u64 10000), .lit (.int .u64 100000), .lit (.int .u64 1000000), .lit (.int .u64 10000000), .lit (.int .u64 100000000), .lit (.int .u64 1000000000), .lit (.int .u64 10000000000), .lit (.int .u64 100000000000), .lit (.int .u64 1000000000000), .lit (.int .u64 10000000000000), .lit (.int .u64 100000000000000), .lit (.int .u64 1000000000000000), .lit (.int .u64 10000000000000000), .lit (.int .u64 100000000000000000), .lit (.int .u64 1000000000000000000), .lit (.int .u64 10000000000000000000)]

/-- 'overseerlaw45.ForcingLives': WHATEVER THE INPUT: true; the input reads as it did. -/
def forcingLivesSpec : ChangeSpec := { name := "forcingLives", fn := fun _ => fun
  | [d] => { results := [.lit (.bool true)], args := [d] }
  | _ => none }
def forcingLivesRow : OpenClaim := { program := "ytioijhpbedmeaaagreatdoor", sum := "f47abd47580da515032e85f4e357964ab9ca7ebb4f164b7fe3f71e3d3250b471", func := "overseer/overseerlaw45.ForcingLives", spec := "forcingLives", inPlace := ["internal/abi.NoEscape"], unfollowed := true, recurses := true, named := ["internal/strconv.uint64pow10", "math/bits.deBruijn32tab", "math/bits.deBruijn64tab"], plainKeys := false, apart := false, laid := [("math/bits.deBruijn32tab", laid_math_bits_deBruijn32tab), ("math/bits.deBruijn64tab", laid_math_bits_deBruijn64tab), ("internal/strconv.uint64pow10", laid_internal_strconv_uint64pow10)] }
def ForcingLivesSaid : Prop := forcingLivesRow.holds Tryz.pinned (OpenSpec.ofChange forcingLivesSpec)

/-- ITS FALSE NEIGHBOUR: 'it returns false'. Refute it at one input. -/
def forcingLivesWrong : ChangeSpec := { name := "forcingLives", fn := fun _ => fun
  | [d] => { results := [.lit (.bool false)], args := [d] }
  | _ => none }
def ForcingLivesWrongFalsely : Prop := forcingLivesRow.holds Tryz.pinned (OpenSpec.ofChange forcingLivesWrong)

/-- 'overseerlaw45.ForcingLoops': WHATEVER THE INPUT: true; the input reads as it did. -/
def forcingLoopsSpec : ChangeSpec := { name := "forcingLoops", fn := fun _ => fun
  | [d] => { results := [.lit (.bool true)], args := [d] }
  | _ => none }
def forcingLoopsRow : OpenClaim := { program := "ytioijhpbedmeaaagreatdoor", sum := "f47abd47580da515032e85f4e357964ab9ca7ebb4f164b7fe3f71e3d3250b471", func := "overseer/overseerlaw45.ForcingLoops", spec := "forcingLoops", inPlace := ["internal/abi.NoEscape"], unfollowed := true, recurses := true, named := ["internal/strconv.uint64pow10", "math/bits.deBruijn32tab", "math/bits.deBruijn64tab"], plainKeys := false, apart := false, laid := [("math/bits.deBruijn32tab", laid_math_bits_deBruijn32tab), ("math/bits.deBruijn64tab", laid_math_bits_deBruijn64tab), ("internal/strconv.uint64pow10", laid_internal_strconv_uint64pow10)] }
def ForcingLoopsSaid : Prop := forcingLoopsRow.holds Tryz.pinned (OpenSpec.ofChange forcingLoopsSpec)

/-- ITS FALSE NEIGHBOUR: 'it returns false'. Refute it at one input. -/
def forcingLoopsWrong : ChangeSpec := { name := "forcingLoops", fn := fun _ => fun
  | [d] => { results := [.lit (.bool false)], args := [d] }
  | _ => none }
def ForcingLoopsWrongFalsely : Prop := forcingLoopsRow.holds Tryz.pinned (OpenSpec.ofChange forcingLoopsWrong)

/-- 'overseerlaw45.ForcingForces': WHATEVER THE INPUT: true; the input reads as it did. -/
def forcingForcesSpec : ChangeSpec := { name := "forcingForces", fn := fun _ => fun
  | [d] => { results := [.lit (.bool true)], args := [d] }
  | _ => none }
def forcingForcesRow : OpenClaim := { program := "ytioijhpbedmeaaagreatdoor", sum := "f47abd47580da515032e85f4e357964ab9ca7ebb4f164b7fe3f71e3d3250b471", func := "overseer/overseerlaw45.ForcingForces", spec := "forcingForces", inPlace := ["internal/abi.NoEscape"], unfollowed := true, recurses := true, named := ["internal/strconv.uint64pow10", "math/bits.deBruijn32tab", "math/bits.deBruijn64tab"], plainKeys := false, apart := false, laid := [("math/bits.deBruijn32tab", laid_math_bits_deBruijn32tab), ("math/bits.deBruijn64tab", laid_math_bits_deBruijn64tab), ("internal/strconv.uint64pow10", laid_internal_strconv_uint64pow10)] }
def ForcingForcesSaid : Prop := forcingForcesRow.holds Tryz.pinned (OpenSpec.ofChange forcingForcesSpec)

/-- ITS FALSE NEIGHBOUR: 'it returns false'. Refute it at one input. -/
def forcingForcesWrong : ChangeSpec := { name := "forcingForces", fn := fun _ => fun
  | [d] => { results := [.lit (.bool false)], args := [d] }
  | _ => none }
def ForcingForcesWrongFalsely : Prop := forcingForcesRow.holds Tryz.pinned (OpenSpec.ofChange forcingForcesWrong)

/-- 'overseerlaw45.ForcingDecides': WHATEVER THE INPUT: true; the input reads as it did. -/
def forcingDecidesSpec : ChangeSpec := { name := "forcingDecides", fn := fun _ => fun
  | [d] => { results := [.lit (.bool true)], args := [d] }
  | _ => none }
def forcingDecidesRow : OpenClaim := { program := "ytioijhpbedmeaaagreatdoor", sum := "f47abd47580da515032e85f4e357964ab9ca7ebb4f164b7fe3f71e3d3250b471", func := "overseer/overseerlaw45.ForcingDecides", spec := "forcingDecides", inPlace := ["internal/abi.NoEscape"], unfollowed := true, recurses := true, named := ["internal/strconv.uint64pow10", "math/bits.deBruijn32tab", "math/bits.deBruijn64tab"], plainKeys := false, apart := false, laid := [("math/bits.deBruijn32tab", laid_math_bits_deBruijn32tab), ("math/bits.deBruijn64tab", laid_math_bits_deBruijn64tab), ("internal/strconv.uint64pow10", laid_internal_strconv_uint64pow10)] }
def ForcingDecidesSaid : Prop := forcingDecidesRow.holds Tryz.pinned (OpenSpec.ofChange forcingDecidesSpec)

/-- ITS FALSE NEIGHBOUR: 'it returns false'. Refute it at one input. -/
def forcingDecidesWrong : ChangeSpec := { name := "forcingDecides", fn := fun _ => fun
  | [d] => { results := [.lit (.bool false)], args := [d] }
  | _ => none }
def ForcingDecidesWrongFalsely : Prop := forcingDecidesRow.holds Tryz.pinned (OpenSpec.ofChange forcingDecidesWrong)

/-- 'overseerlaw45.ForcingVerifies': WHATEVER THE INPUT: true; the input reads as it did. -/
def forcingVerifiesSpec : ChangeSpec := { name := "forcingVerifies", fn := fun _ => fun
  | [d1, d2] => { results := [.lit (.bool true)], args := [d1, d2] }
  | _ => none }
def forcingVerifiesRow : OpenClaim := { program := "ytioijhpbedmeaaagreatdoor", sum := "f47abd47580da515032e85f4e357964ab9ca7ebb4f164b7fe3f71e3d3250b471", func := "overseer/overseerlaw45.ForcingVerifies", spec := "forcingVerifies", inPlace := ["internal/abi.NoEscape"], unfollowed := true, recurses := true, named := ["internal/strconv.uint64pow10", "math/bits.deBruijn32tab", "math/bits.deBruijn64tab"], plainKeys := false, apart := false, laid := [("math/bits.deBruijn32tab", laid_math_bits_deBruijn32tab), ("math/bits.deBruijn64tab", laid_math_bits_deBruijn64tab), ("internal/strconv.uint64pow10", laid_internal_strconv_uint64pow10)] }
def ForcingVerifiesSaid : Prop := forcingVerifiesRow.holds Tryz.pinned (OpenSpec.ofChange forcingVerifiesSpec)

/-- ITS FALSE NEIGHBOUR: 'it returns false'. Refute it at one input. -/
def forcingVerifiesWrong : ChangeSpec := { name := "forcingVerifies", fn := fun _ => fun
  | [d1, d2] => { results := [.lit (.bool false)], args := [d1, d2] }
  | _ => none }
def ForcingVerifiesWrongFalsely : Prop := forcingVerifiesRow.holds Tryz.pinned (OpenSpec.ofChange forcingVerifiesWrong)

/-- 'overseerlaw45.ForcingStops': WHATEVER THE INPUT: true; the input reads as it did. -/
def forcingStopsSpec : ChangeSpec := { name := "forcingStops", fn := fun _ => fun
  | [d] => { results := [.lit (.bool true)], args := [d] }
  | _ => none }
def forcingStopsRow : OpenClaim := { program := "ytioijhpbedmeaaagreatdoor", sum := "f47abd47580da515032e85f4e357964ab9ca7ebb4f164b7fe3f71e3d3250b471", func := "overseer/overseerlaw45.ForcingStops", spec := "forcingStops", inPlace := ["internal/abi.NoEscape"], unfollowed := true, recurses := true, named := ["internal/strconv.uint64pow10", "math/bits.deBruijn32tab", "math/bits.deBruijn64tab"], plainKeys := false, apart := false, laid := [("math/bits.deBruijn32tab", laid_math_bits_deBruijn32tab), ("math/bits.deBruijn64tab", laid_math_bits_deBruijn64tab), ("internal/strconv.uint64pow10", laid_internal_strconv_uint64pow10)] }
def ForcingStopsSaid : Prop := forcingStopsRow.holds Tryz.pinned (OpenSpec.ofChange forcingStopsSpec)

/-- ITS FALSE NEIGHBOUR: 'it returns false'. Refute it at one input. -/
def forcingStopsWrong : ChangeSpec := { name := "forcingStops", fn := fun _ => fun
  | [d] => { results := [.lit (.bool false)], args := [d] }
  | _ => none }
def ForcingStopsWrongFalsely : Prop := forcingStopsRow.holds Tryz.pinned (OpenSpec.ofChange forcingStopsWrong)

/-- 'overseerlaw45.ForcingRefuses': WHATEVER THE INPUT: true; the input reads as it did. -/
def forcingRefusesSpec : ChangeSpec := { name := "forcingRefuses", fn := fun _ => fun
  | [d] => { results := [.lit (.bool true)], args := [d] }
  | _ => none }
def forcingRefusesRow : OpenClaim := { program := "ytioijhpbedmeaaagreatdoor", sum := "f47abd47580da515032e85f4e357964ab9ca7ebb4f164b7fe3f71e3d3250b471", func := "overseer/overseerlaw45.ForcingRefuses", spec := "forcingRefuses", inPlace := ["internal/abi.NoEscape"], unfollowed := true, recurses := true, named := ["internal/strconv.uint64pow10", "math/bits.deBruijn32tab", "math/bits.deBruijn64tab"], plainKeys := false, apart := false, laid := [("math/bits.deBruijn32tab", laid_math_bits_deBruijn32tab), ("math/bits.deBruijn64tab", laid_math_bits_deBruijn64tab), ("internal/strconv.uint64pow10", laid_internal_strconv_uint64pow10)] }
def ForcingRefusesSaid : Prop := forcingRefusesRow.holds Tryz.pinned (OpenSpec.ofChange forcingRefusesSpec)

/-- ITS FALSE NEIGHBOUR: 'it returns false'. Refute it at one input. -/
def forcingRefusesWrong : ChangeSpec := { name := "forcingRefuses", fn := fun _ => fun
  | [d] => { results := [.lit (.bool false)], args := [d] }
  | _ => none }
def ForcingRefusesWrongFalsely : Prop := forcingRefusesRow.holds Tryz.pinned (OpenSpec.ofChange forcingRefusesWrong)

/- THE SECOND FORM. 'bulk': how many values and letters a reading holds, each counted each time it is reached (what is shared counts as often as it is met; a slice's spare places count too). A statement '..UptoSaid' is the law's where the arguments, and the package variables that the reading takes, are together of bulk at most 1048576: NARROWER than '..Said'. Prove '..Said' where nothing that the law and all that it calls make is longer than what came in: it says more and counts as full. Else prove '..UptoSaid'. A law counts once. -/
mutual
def uptoBulk {H : Type} : DataW H → Nat
  | .lit (.string bytes) => bytes.length + 1
  | .lit _ => 1
  | .nil => 1
  | .ptr d => uptoBulk d + 1
  | .slice elems spare => uptoBulkAll elems + uptoBulkAll spare + 1
  | .agg parts => uptoBulkAll parts + 1
  | .iface _ d => uptoBulk d + 1
  | .map entries => uptoBulkEntries entries + 1
  | .held _ => 1
def uptoBulkAll {H : Type} : List (DataW H) → Nat
  | [] => 0
  | d :: r => uptoBulk d + uptoBulkAll r
def uptoBulkEntries {H : Type} : List (Lit × DataW H) → Nat
  | [] => 0
  | x :: r => uptoBulkEntry x + uptoBulkEntries r
def uptoBulkEntry {H : Type} : Lit × DataW H → Nat
  | (.string bytes, d) => bytes.length + uptoBulk d + 1
  | (_, d) => uptoBulk d + 1
 end
def uptoSmall : (H : Type) → List (DataW H) → Bool := fun _ ds => decide (uptoBulkAll ds ≤ 1048576)
def OpenSpec.upto (s : _root_.Go.ChangeSpec) : _root_.Go.OpenSpec := { _root_.Go.OpenSpec.ofChange s with cond := some uptoSmall }

/-- 'overseerlaw45.ForcingLives', WHERE WHAT IT READS IS OF BULK AT MOST 1048576: true; the input reads as it did. -/
def forcingLivesUptoRow : OpenClaim := { program := "ytioijhpbedmeaaagreatdoor", sum := "f47abd47580da515032e85f4e357964ab9ca7ebb4f164b7fe3f71e3d3250b471", func := "overseer/overseerlaw45.ForcingLives", spec := "forcingLives", inPlace := ["internal/abi.NoEscape"], unfollowed := true, recurses := true, named := ["internal/strconv.uint64pow10", "math/bits.deBruijn32tab", "math/bits.deBruijn64tab"], plainKeys := false, apart := false, laid := [("math/bits.deBruijn32tab", laid_math_bits_deBruijn32tab), ("math/bits.deBruijn64tab", laid_math_bits_deBruijn64tab), ("internal/strconv.uint64pow10", laid_internal_strconv_uint64pow10)], narrowed := true }
def ForcingLivesUptoSaid : Prop := forcingLivesUptoRow.holds Tryz.pinned (OpenSpec.upto forcingLivesSpec)

/-- 'overseerlaw45.ForcingLoops', WHERE WHAT IT READS IS OF BULK AT MOST 1048576: true; the input reads as it did. -/
def forcingLoopsUptoRow : OpenClaim := { program := "ytioijhpbedmeaaagreatdoor", sum := "f47abd47580da515032e85f4e357964ab9ca7ebb4f164b7fe3f71e3d3250b471", func := "overseer/overseerlaw45.ForcingLoops", spec := "forcingLoops", inPlace := ["internal/abi.NoEscape"], unfollowed := true, recurses := true, named := ["internal/strconv.uint64pow10", "math/bits.deBruijn32tab", "math/bits.deBruijn64tab"], plainKeys := false, apart := false, laid := [("math/bits.deBruijn32tab", laid_math_bits_deBruijn32tab), ("math/bits.deBruijn64tab", laid_math_bits_deBruijn64tab), ("internal/strconv.uint64pow10", laid_internal_strconv_uint64pow10)], narrowed := true }
def ForcingLoopsUptoSaid : Prop := forcingLoopsUptoRow.holds Tryz.pinned (OpenSpec.upto forcingLoopsSpec)

/-- 'overseerlaw45.ForcingForces', WHERE WHAT IT READS IS OF BULK AT MOST 1048576: true; the input reads as it did. -/
def forcingForcesUptoRow : OpenClaim := { program := "ytioijhpbedmeaaagreatdoor", sum := "f47abd47580da515032e85f4e357964ab9ca7ebb4f164b7fe3f71e3d3250b471", func := "overseer/overseerlaw45.ForcingForces", spec := "forcingForces", inPlace := ["internal/abi.NoEscape"], unfollowed := true, recurses := true, named := ["internal/strconv.uint64pow10", "math/bits.deBruijn32tab", "math/bits.deBruijn64tab"], plainKeys := false, apart := false, laid := [("math/bits.deBruijn32tab", laid_math_bits_deBruijn32tab), ("math/bits.deBruijn64tab", laid_math_bits_deBruijn64tab), ("internal/strconv.uint64pow10", laid_internal_strconv_uint64pow10)], narrowed := true }
def ForcingForcesUptoSaid : Prop := forcingForcesUptoRow.holds Tryz.pinned (OpenSpec.upto forcingForcesSpec)

/-- 'overseerlaw45.ForcingDecides', WHERE WHAT IT READS IS OF BULK AT MOST 1048576: true; the input reads as it did. -/
def forcingDecidesUptoRow : OpenClaim := { program := "ytioijhpbedmeaaagreatdoor", sum := "f47abd47580da515032e85f4e357964ab9ca7ebb4f164b7fe3f71e3d3250b471", func := "overseer/overseerlaw45.ForcingDecides", spec := "forcingDecides", inPlace := ["internal/abi.NoEscape"], unfollowed := true, recurses := true, named := ["internal/strconv.uint64pow10", "math/bits.deBruijn32tab", "math/bits.deBruijn64tab"], plainKeys := false, apart := false, laid := [("math/bits.deBruijn32tab", laid_math_bits_deBruijn32tab), ("math/bits.deBruijn64tab", laid_math_bits_deBruijn64tab), ("internal/strconv.uint64pow10", laid_internal_strconv_uint64pow10)], narrowed := true }
def ForcingDecidesUptoSaid : Prop := forcingDecidesUptoRow.holds Tryz.pinned (OpenSpec.upto forcingDecidesSpec)

/-- 'overseerlaw45.ForcingVerifies', WHERE WHAT IT READS IS OF BULK AT MOST 1048576: true; the input reads as it did. -/
def forcingVerifiesUptoRow : OpenClaim := { program := "ytioijhpbedmeaaagreatdoor", sum := "f47abd47580da515032e85f4e357964ab9ca7ebb4f164b7fe3f71e3d3250b471", func := "overseer/overseerlaw45.ForcingVerifies", spec := "forcingVerifies", inPlace := ["internal/abi.NoEscape"], unfollowed := true, recurses := true, named := ["internal/strconv.uint64pow10", "math/bits.deBruijn32tab", "math/bits.deBruijn64tab"], plainKeys := false, apart := false, laid := [("math/bits.deBruijn32tab", laid_math_bits_deBruijn32tab), ("math/bits.deBruijn64tab", laid_math_bits_deBruijn64tab), ("internal/strconv.uint64pow10", laid_internal_strconv_uint64pow10)], narrowed := true }
def ForcingVerifiesUptoSaid : Prop := forcingVerifiesUptoRow.holds Tryz.pinned (OpenSpec.upto forcingVerifiesSpec)

/-- 'overseerlaw45.ForcingStops', WHERE WHAT IT READS IS OF BULK AT MOST 1048576: true; the input reads as it did. -/
def forcingStopsUptoRow : OpenClaim := { program := "ytioijhpbedmeaaagreatdoor", sum := "f47abd47580da515032e85f4e357964ab9ca7ebb4f164b7fe3f71e3d3250b471", func := "overseer/overseerlaw45.ForcingStops", spec := "forcingStops", inPlace := ["internal/abi.NoEscape"], unfollowed := true, recurses := true, named := ["internal/strconv.uint64pow10", "math/bits.deBruijn32tab", "math/bits.deBruijn64tab"], plainKeys := false, apart := false, laid := [("math/bits.deBruijn32tab", laid_math_bits_deBruijn32tab), ("math/bits.deBruijn64tab", laid_math_bits_deBruijn64tab), ("internal/strconv.uint64pow10", laid_internal_strconv_uint64pow10)], narrowed := true }
def ForcingStopsUptoSaid : Prop := forcingStopsUptoRow.holds Tryz.pinned (OpenSpec.upto forcingStopsSpec)

/-- 'overseerlaw45.ForcingRefuses', WHERE WHAT IT READS IS OF BULK AT MOST 1048576: true; the input reads as it did. -/
def forcingRefusesUptoRow : OpenClaim := { program := "ytioijhpbedmeaaagreatdoor", sum := "f47abd47580da515032e85f4e357964ab9ca7ebb4f164b7fe3f71e3d3250b471", func := "overseer/overseerlaw45.ForcingRefuses", spec := "forcingRefuses", inPlace := ["internal/abi.NoEscape"], unfollowed := true, recurses := true, named := ["internal/strconv.uint64pow10", "math/bits.deBruijn32tab", "math/bits.deBruijn64tab"], plainKeys := false, apart := false, laid := [("math/bits.deBruijn32tab", laid_math_bits_deBruijn32tab), ("math/bits.deBruijn64tab", laid_math_bits_deBruijn64tab), ("internal/strconv.uint64pow10", laid_internal_strconv_uint64pow10)], narrowed := true }
def ForcingRefusesUptoSaid : Prop := forcingRefusesUptoRow.holds Tryz.pinned (OpenSpec.upto forcingRefusesSpec)

end Rows
end Go.Proofs.YtioijhpbedmeaaaGreatDoor
