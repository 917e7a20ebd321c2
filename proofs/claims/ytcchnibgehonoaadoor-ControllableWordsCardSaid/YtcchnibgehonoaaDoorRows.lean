/-
  NARROWER THAN 'FOR EVERY INPUT', by the rows' own cells (each row's printed sentence says how): ControllableErrors: laid · ControllableInvariant: laid · ControllableSupremal: laid · ControllableAgain: laid · ControllableSets: laid · ControllableWords: laid · ControllableLess: laid · ControllableChecks: laid.
  DERIVED. THE GIVEN ROWS OF THIS SEAT. 8 by the template 'for every input the law returns true; each argument reads behind the call as it read before'; 0 by the template 'total and deterministic' (their statements: YtcchnibgehonoaaDoorTotals.lean).
  GIVEN WITH THE SEED: the statements are not yours to turn. If you find one false, say at which input.
  Laid BY PROGRAM, IN A SANDBOX (cutbox-rows.mjs): the forced cells as the released guide's own fill.sh prints them over the translation 84b2b02329af09f0… (all of the seat's roots in one cut). By AI agents, Wed Nov 11 2026. No macro, syntax, notation, axiom, sorry.
-/
import Derived.Test.YtcchnibgehonoaaDoorChecked
import GoSem.Claim
import GoSem.ClaimJoined
import GoSem.ClaimMapViews
import Derived.JoinedTies
import Derived.KernelRfl
namespace Go.Proofs.YtcchnibgehonoaaDoor
/- THE CELL 'sum', in the pinned program and in every row, IS THE sha256 OF THE DUMP (.gsa) THAT YtcchnibgehonoaaDoorProg.lean LOADS. Nothing in Lean hashes anything: it is a label: what it is worth is what the hold of that sum in a sandbox is worth. -/
noncomputable def Tryd.pinned : Pinned := { name := "ytcchnibgehonoaadoor", sum := "84b2b02329af09f005893a44aaf1f1690802c4e4952f1117a0e268a5685b8d89", checked := Tryd.checked }
namespace Rows
def none {H : Type} : Left H := { results := [], args := [] }

/- WHAT THE LISTED PACKAGE-LEVEL VARIABLES READ AS WHEN THE CALL BEGINS. Each datum BY PROGRAM (the guide's laid-datum.mjs) off the statement by which the dump's own 'gosem.cut.vars' lays the variable. In a bare row this is a premise. The card (YtcchnibgehonoaaDoorCards.lean) ties it to the program's text. -/
def laid_math_bits_deBruijn32tab {H : Type} : DataW H := .agg [.lit (.int .u8 0), .lit (.int .u8 1), .lit (.int .u8 28), .lit (.int .u8 2), .lit (.int .u8 29), .lit (.int .u8 14), .lit (.int .u8 24), .lit (.int .u8 3), .lit (.int .u8 30), .lit (.int .u8 22), .lit (.int .u8 20), .lit (.int .u8 15), .lit (.int .u8 25), .lit (.int .u8 17), .lit (.int .u8 4), .lit (.int .u8 8), .lit (.int .u8 31), .lit (.int .u8 27), .lit (.int .u8 13), .lit (.int .u8 23), .lit (.int .u8 21), .lit (.int .u8 19), .lit (.int .u8 16), .lit (.int .u8 7), .lit (.int .u8 26), .lit (.int .u8 12), .lit (.int .u8 18), .lit (.int .u8 6), .lit (.int .u8 11), .lit (.int .u8 5), .lit (.int .u8 10), .lit (.int .u8 9)]
def laid_math_bits_deBruijn64tab {H : Type} : DataW H := .agg [.lit (.int .u8 0), .lit (.int .u8 1), .lit (.int .u8 56), .lit (.int .u8 2), .lit (.int .u8 57), .lit (.int .u8 49), .lit (.int .u8 28), .lit (.int .u8 3), .lit (.int .u8 61), .lit (.int .u8 58), .lit (.int .u8 42), .lit (.int .u8 50), .lit (.int .u8 38), .lit (.int .u8 29), .lit (.int .u8 17), .lit (.int .u8 4), .lit (.int .u8 62), .lit (.int .u8 47), .lit (.int .u8 59), .lit (.int .u8 36), .lit (.int .u8 45), .lit (.int .u8 43), .lit (.int .u8 51), .lit (.int .u8 22), .lit (.int .u8 53), .lit (.int .u8 39), .lit (.int .u8 33), .lit (.int .u8 30), .lit (.int .u8 24), .lit (.int .u8 18), .lit (.int .u8 12), .lit (.int .u8 5), .lit (.int .u8 63), .lit (.int .u8 55), .lit (.int .u8 48), .lit (.int .u8 27), .lit (.int .u8 60), .lit (.int .u8 41), .lit (.int .u8 37), .lit (.int .u8 16), .lit (.int .u8 46), .lit (.int .u8 35), .lit (.int .u8 44), .lit (.int .u8 21), .lit (.int .u8 52), .lit (.int .u8 32), .lit (.int .u8 23), .lit (.int .u8 11), .lit (.int .u8 54), .lit (.int .u8 26), .lit (.int .u8 40), .lit (.int .u8 15), .lit (.int .u8 34), .lit (.int .u8 20), .lit (.int .u8 31), .lit (.int .u8 10), .lit (.int .u8 25), .lit (.int .u8 14), .lit (.int .u8 19), .lit (.int .u8 9), .lit (.int .u8 13), .lit (.int .u8 8), .lit (.int .u8 7), .lit (.int .u8 6)]
def laid_internal_strconv_uint64pow10 {H : Type} : DataW H := .agg [.lit (.int .u64 1), .lit (.int .u64 10), .lit (.int .u64 100), .lit (.int .u64 1000), .lit (.int .u64 10000), .lit (.int .u64 100000), .lit (.int .u64 1000000), .lit (.int .u64 10000000), .lit (.int .u64 100000000), .lit (.int .u64 1000000000), .lit (.int .u64 10000000000), .lit (.int .u64 100000000000), .lit (.int .u64 1000000000000), .lit (.int .u64 10000000000000), .lit (.int .u64 100000000000000), .lit (.int .u64 1000000000000000), .lit (.int .u64 10000000000000000), .lit (.int .u64 100000000000000000), .lit (.int .u64 1000000000000000000), .lit (.int .u64 10000000000000000000)]

/-- 'overseerlaw26.ControllableErrors': WHATEVER THE INPUT: true; the input reads as it did. -/
def controllableErrorsSpec : ChangeSpec := { name := "controllableErrors", fn := fun _ => fun
  | [d1, d2, d3] => { results := [.lit (.bool true)], args := [d1, d2, d3] }
  | _ => none }
def controllableErrorsRow : OpenClaim := { program := "ytcchnibgehonoaadoor", sum := "84b2b02329af09f005893a44aaf1f1690802c4e4952f1117a0e268a5685b8d89", func := "overseer/overseerlaw26.ControllableErrors", spec := "controllableErrors", inPlace := ["internal/abi.NoEscape"], unfollowed := true, recurses := true, named := ["internal/strconv.uint64pow10", "math/bits.deBruijn32tab", "math/bits.deBruijn64tab"], plainKeys := false, apart := false, laid := [("math/bits.deBruijn32tab", laid_math_bits_deBruijn32tab), ("math/bits.deBruijn64tab", laid_math_bits_deBruijn64tab), ("internal/strconv.uint64pow10", laid_internal_strconv_uint64pow10)] }
def ControllableErrorsSaid : Prop := controllableErrorsRow.holds Tryd.pinned (OpenSpec.ofChange controllableErrorsSpec)

/-- ITS FALSE NEIGHBOUR: 'it returns false'. Refute it at one input. -/
def controllableErrorsWrong : ChangeSpec := { name := "controllableErrors", fn := fun _ => fun
  | [d1, d2, d3] => { results := [.lit (.bool false)], args := [d1, d2, d3] }
  | _ => none }
def ControllableErrorsWrongFalsely : Prop := controllableErrorsRow.holds Tryd.pinned (OpenSpec.ofChange controllableErrorsWrong)

/-- 'overseerlaw26.ControllableInvariant': WHATEVER THE INPUT: true; the input reads as it did. -/
def controllableInvariantSpec : ChangeSpec := { name := "controllableInvariant", fn := fun _ => fun
  | [d1, d2, d3] => { results := [.lit (.bool true)], args := [d1, d2, d3] }
  | _ => none }
def controllableInvariantRow : OpenClaim := { program := "ytcchnibgehonoaadoor", sum := "84b2b02329af09f005893a44aaf1f1690802c4e4952f1117a0e268a5685b8d89", func := "overseer/overseerlaw26.ControllableInvariant", spec := "controllableInvariant", inPlace := ["internal/abi.NoEscape"], unfollowed := true, recurses := true, named := ["internal/strconv.uint64pow10", "math/bits.deBruijn32tab", "math/bits.deBruijn64tab"], plainKeys := false, apart := false, laid := [("math/bits.deBruijn32tab", laid_math_bits_deBruijn32tab), ("math/bits.deBruijn64tab", laid_math_bits_deBruijn64tab), ("internal/strconv.uint64pow10", laid_internal_strconv_uint64pow10)] }
def ControllableInvariantSaid : Prop := controllableInvariantRow.holds Tryd.pinned (OpenSpec.ofChange controllableInvariantSpec)

/-- ITS FALSE NEIGHBOUR: 'it returns false'. Refute it at one input. -/
def controllableInvariantWrong : ChangeSpec := { name := "controllableInvariant", fn := fun _ => fun
  | [d1, d2, d3] => { results := [.lit (.bool false)], args := [d1, d2, d3] }
  | _ => none }
def ControllableInvariantWrongFalsely : Prop := controllableInvariantRow.holds Tryd.pinned (OpenSpec.ofChange controllableInvariantWrong)

/-- 'overseerlaw26.ControllableSupremal': WHATEVER THE INPUT: true; the input reads as it did. -/
def controllableSupremalSpec : ChangeSpec := { name := "controllableSupremal", fn := fun _ => fun
  | [d] => { results := [.lit (.bool true)], args := [d] }
  | _ => none }
def controllableSupremalRow : OpenClaim := { program := "ytcchnibgehonoaadoor", sum := "84b2b02329af09f005893a44aaf1f1690802c4e4952f1117a0e268a5685b8d89", func := "overseer/overseerlaw26.ControllableSupremal", spec := "controllableSupremal", inPlace := ["internal/abi.NoEscape"], unfollowed := true, recurses := true, named := ["internal/strconv.uint64pow10", "math/bits.deBruijn32tab", "math/bits.deBruijn64tab"], plainKeys := false, apart := false, laid := [("math/bits.deBruijn32tab", laid_math_bits_deBruijn32tab), ("math/bits.deBruijn64tab", laid_math_bits_deBruijn64tab), ("internal/strconv.uint64pow10", laid_internal_strconv_uint64pow10)] }
def ControllableSupremalSaid : Prop := controllableSupremalRow.holds Tryd.pinned (OpenSpec.ofChange controllableSupremalSpec)

/-- ITS FALSE NEIGHBOUR: 'it returns false'. Refute it at one input. -/
def controllableSupremalWrong : ChangeSpec := { name := "controllableSupremal", fn := fun _ => fun
  | [d] => { results := [.lit (.bool false)], args := [d] }
  | _ => none }
def ControllableSupremalWrongFalsely : Prop := controllableSupremalRow.holds Tryd.pinned (OpenSpec.ofChange controllableSupremalWrong)

/-- 'overseerlaw26.ControllableAgain': WHATEVER THE INPUT: true; the input reads as it did. -/
def controllableAgainSpec : ChangeSpec := { name := "controllableAgain", fn := fun _ => fun
  | [d] => { results := [.lit (.bool true)], args := [d] }
  | _ => none }
def controllableAgainRow : OpenClaim := { program := "ytcchnibgehonoaadoor", sum := "84b2b02329af09f005893a44aaf1f1690802c4e4952f1117a0e268a5685b8d89", func := "overseer/overseerlaw26.ControllableAgain", spec := "controllableAgain", inPlace := ["internal/abi.NoEscape"], unfollowed := true, recurses := true, named := ["internal/strconv.uint64pow10", "math/bits.deBruijn32tab", "math/bits.deBruijn64tab"], plainKeys := false, apart := false, laid := [("math/bits.deBruijn32tab", laid_math_bits_deBruijn32tab), ("math/bits.deBruijn64tab", laid_math_bits_deBruijn64tab), ("internal/strconv.uint64pow10", laid_internal_strconv_uint64pow10)] }
def ControllableAgainSaid : Prop := controllableAgainRow.holds Tryd.pinned (OpenSpec.ofChange controllableAgainSpec)

/-- ITS FALSE NEIGHBOUR: 'it returns false'. Refute it at one input. -/
def controllableAgainWrong : ChangeSpec := { name := "controllableAgain", fn := fun _ => fun
  | [d] => { results := [.lit (.bool false)], args := [d] }
  | _ => none }
def ControllableAgainWrongFalsely : Prop := controllableAgainRow.holds Tryd.pinned (OpenSpec.ofChange controllableAgainWrong)

/-- 'overseerlaw26.ControllableSets': WHATEVER THE INPUT: true; the input reads as it did. -/
def controllableSetsSpec : ChangeSpec := { name := "controllableSets", fn := fun _ => fun
  | [d1, d2, d3] => { results := [.lit (.bool true)], args := [d1, d2, d3] }
  | _ => none }
def controllableSetsRow : OpenClaim := { program := "ytcchnibgehonoaadoor", sum := "84b2b02329af09f005893a44aaf1f1690802c4e4952f1117a0e268a5685b8d89", func := "overseer/overseerlaw26.ControllableSets", spec := "controllableSets", inPlace := ["internal/abi.NoEscape"], unfollowed := true, recurses := true, named := ["internal/strconv.uint64pow10", "math/bits.deBruijn32tab", "math/bits.deBruijn64tab"], plainKeys := false, apart := false, laid := [("math/bits.deBruijn32tab", laid_math_bits_deBruijn32tab), ("math/bits.deBruijn64tab", laid_math_bits_deBruijn64tab), ("internal/strconv.uint64pow10", laid_internal_strconv_uint64pow10)] }
def ControllableSetsSaid : Prop := controllableSetsRow.holds Tryd.pinned (OpenSpec.ofChange controllableSetsSpec)

/-- ITS FALSE NEIGHBOUR: 'it returns false'. Refute it at one input. -/
def controllableSetsWrong : ChangeSpec := { name := "controllableSets", fn := fun _ => fun
  | [d1, d2, d3] => { results := [.lit (.bool false)], args := [d1, d2, d3] }
  | _ => none }
def ControllableSetsWrongFalsely : Prop := controllableSetsRow.holds Tryd.pinned (OpenSpec.ofChange controllableSetsWrong)

/-- 'overseerlaw26.ControllableWords': WHATEVER THE INPUT: true; the input reads as it did. -/
def controllableWordsSpec : ChangeSpec := { name := "controllableWords", fn := fun _ => fun
  | [d1, d2] => { results := [.lit (.bool true)], args := [d1, d2] }
  | _ => none }
def controllableWordsRow : OpenClaim := { program := "ytcchnibgehonoaadoor", sum := "84b2b02329af09f005893a44aaf1f1690802c4e4952f1117a0e268a5685b8d89", func := "overseer/overseerlaw26.ControllableWords", spec := "controllableWords", inPlace := ["internal/abi.NoEscape"], unfollowed := true, recurses := true, named := ["internal/strconv.uint64pow10", "math/bits.deBruijn32tab", "math/bits.deBruijn64tab"], plainKeys := false, apart := false, laid := [("math/bits.deBruijn32tab", laid_math_bits_deBruijn32tab), ("math/bits.deBruijn64tab", laid_math_bits_deBruijn64tab), ("internal/strconv.uint64pow10", laid_internal_strconv_uint64pow10)] }
def ControllableWordsSaid : Prop := controllableWordsRow.holds Tryd.pinned (OpenSpec.ofChange controllableWordsSpec)

/-- ITS FALSE NEIGHBOUR: 'it returns false'. Refute it at one input. -/
def controllableWordsWrong : ChangeSpec := { name := "controllableWords", fn := fun _ => fun
  | [d1, d2] => { results := [.lit (.bool false)], args := [d1, d2] }
  | _ => none }
def ControllableWordsWrongFalsely : Prop := controllableWordsRow.holds Tryd.pinned (OpenSpec.ofChange controllableWordsWrong)

/-- 'overseerlaw26.ControllableLess': WHATEVER THE INPUT: true; the input reads as it did. -/
def controllableLessSpec : ChangeSpec := { name := "controllableLess", fn := fun _ => fun
  | [d1, d2] => { results := [.lit (.bool true)], args := [d1, d2] }
  | _ => none }
def controllableLessRow : OpenClaim := { program := "ytcchnibgehonoaadoor", sum := "84b2b02329af09f005893a44aaf1f1690802c4e4952f1117a0e268a5685b8d89", func := "overseer/overseerlaw26.ControllableLess", spec := "controllableLess", inPlace := ["internal/abi.NoEscape"], unfollowed := true, recurses := true, named := ["internal/strconv.uint64pow10", "math/bits.deBruijn32tab", "math/bits.deBruijn64tab"], plainKeys := false, apart := false, laid := [("math/bits.deBruijn32tab", laid_math_bits_deBruijn32tab), ("math/bits.deBruijn64tab", laid_math_bits_deBruijn64tab), ("internal/strconv.uint64pow10", laid_internal_strconv_uint64pow10)] }
def ControllableLessSaid : Prop := controllableLessRow.holds Tryd.pinned (OpenSpec.ofChange controllableLessSpec)

/-- ITS FALSE NEIGHBOUR: 'it returns false'. Refute it at one input. -/
def controllableLessWrong : ChangeSpec := { name := "controllableLess", fn := fun _ => fun
  | [d1, d2] => { results := [.lit (.bool false)], args := [d1, d2] }
  | _ => none }
def ControllableLessWrongFalsely : Prop := controllableLessRow.holds Tryd.pinned (OpenSpec.ofChange controllableLessWrong)

/-- 'overseerlaw26.ControllableChecks': WHATEVER THE INPUT: true; the input reads as it did. -/
def controllableChecksSpec : ChangeSpec := { name := "controllableChecks", fn := fun _ => fun
  | [d] => { results := [.lit (.bool true)], args := [d] }
  | _ => none }
def controllableChecksRow : OpenClaim := { program := "ytcchnibgehonoaadoor", sum := "84b2b02329af09f005893a44aaf1f1690802c4e4952f1117a0e268a5685b8d89", func := "overseer/overseerlaw26.ControllableChecks", spec := "controllableChecks", inPlace := ["internal/abi.NoEscape"], unfollowed := true, recurses := true, named := ["internal/strconv.uint64pow10", "math/bits.deBruijn32tab", "math/bits.deBruijn64tab"], plainKeys := false, apart := false, laid := [("math/bits.deBruijn32tab", laid_math_bits_deBruijn32tab), ("math/bits.deBruijn64tab", laid_math_bits_deBruijn64tab), ("internal/strconv.uint64pow10", laid_internal_strconv_uint64pow10)] }
def ControllableChecksSaid : Prop := controllableChecksRow.holds Tryd.pinned (OpenSpec.ofChange controllableChecksSpec)

/-- ITS FALSE NEIGHBOUR: 'it returns false'. Refute it at one input. -/
def controllableChecksWrong : ChangeSpec := { name := "controllableChecks", fn := fun _ => fun
  | [d] => { results := [.lit (.bool false)], args := [d] }
  | _ => none }
def ControllableChecksWrongFalsely : Prop := controllableChecksRow.holds Tryd.pinned (OpenSpec.ofChange controllableChecksWrong)

/- THE SECOND FORM. 'bulk': how many values and letters a reading holds, each counted each time it is reached (what is shared counts as often as it is met; a slice's spare places count too). A statement '..UptoSaid' is the law's where the arguments, and the package variables that the reading takes, are together of bulk at most 1048576: NARROWER than '..Said'. Prove '..Said' where nothing that the law and all that it calls make is longer than what came in: it says more and counts as full. Else prove '..UptoSaid'. A law counts once. -/
mutual
def uptoBulk {H : Type} : DataW H → Nat
  | .lit (.string bytes) => bytes.length + 1
  | .lit _ => 1
  | .nil => 1
  | .ptr d => uptoBulk d + 1
  | .slice elems spare => uptoBulkAll elems + uptoBulkAll spare + 1
  | .agg parts => uptoBulkAll parts + 1
  | .iface _ d => uptoBulk d + 1
  | .map entries => uptoBulkEntries entries + 1
  | .held _ => 1
def uptoBulkAll {H : Type} : List (DataW H) → Nat
  | [] => 0
  | d :: r => uptoBulk d + uptoBulkAll r
def uptoBulkEntries {H : Type} : List (Lit × DataW H) → Nat
  | [] => 0
  | x :: r => uptoBulkEntry x + uptoBulkEntries r
def uptoBulkEntry {H : Type} : Lit × DataW H → Nat
  | (.string bytes, d) => bytes.length + uptoBulk d + 1
  | (_, d) => uptoBulk d + 1
 end
def uptoSmall : (H : Type) → List (DataW H) → Bool := fun _ ds => decide (uptoBulkAll ds ≤ 1048576)
def OpenSpec.upto (s : _root_.Go.ChangeSpec) : _root_.Go.OpenSpec := { _root_.Go.OpenSpec.ofChange s with cond := some uptoSmall }

/-- 'overseerlaw26.ControllableErrors', WHERE WHAT IT READS IS OF BULK AT MOST 1048576: true; the input reads as it did. -/
def controllableErrorsUptoRow : OpenClaim := { program := "ytcchnibgehonoaadoor", sum := "84b2b02329af09f005893a44aaf1f1690802c4e4952f1117a0e268a5685b8d89", func := "overseer/overseerlaw26.ControllableErrors", spec := "controllableErrors", inPlace := ["internal/abi.NoEscape"], unfollowed := true, recurses := true, named := ["internal/strconv.uint64pow10", "math/bits.deBruijn32tab", "math/bits.deBruijn64tab"], plainKeys := false, apart := false, laid := [("math/bits.deBruijn32tab", laid_math_bits_deBruijn32tab), ("math/bits.deBruijn64tab", laid_math_bits_deBruijn64tab), ("internal/strconv.uint64pow10", laid_internal_strconv_uint64pow10)], narrowed := true }
def ControllableErrorsUptoSaid : Prop := controllableErrorsUptoRow.holds Tryd.pinned (OpenSpec.upto controllableErrorsSpec)

/-- 'overseerlaw26.ControllableInvariant', WHERE WHAT IT READS IS OF BULK AT MOST 1048576: true; the input reads as it did. -/
def controllableInvariantUptoRow : OpenClaim := { program := "ytcchnibgehonoaadoor", sum := "84b2b02329af09f005893a44aaf1f1690802c4e4952f1117a0e268a5685b8d89", func := "overseer/overseerlaw26.ControllableInvariant", spec := "controllableInvariant", inPlace := ["internal/abi.NoEscape"], unfollowed := true, recurses := true, named := ["internal/strconv.uint64pow10", "math/bits.deBruijn32tab", "math/bits.deBruijn64tab"], plainKeys := false, apart := false, laid := [("math/bits.deBruijn32tab", laid_math_bits_deBruijn32tab), ("math/bits.deBruijn64tab", laid_math_bits_deBruijn64tab), ("internal/strconv.uint64pow10", laid_internal_strconv_uint64pow10)], narrowed := true }
def ControllableInvariantUptoSaid : Prop := controllableInvariantUptoRow.holds Tryd.pinned (OpenSpec.upto controllableInvariantSpec)

/-- 'overseerlaw26.ControllableSupremal', WHERE WHAT IT READS IS OF BULK AT MOST 1048576: true; the input reads as it did. -/
def controllableSupremalUptoRow : OpenClaim := { program := "ytcchnibgehonoaadoor", sum := "84b2b02329af09f005893a44aaf1f1690802c4e4952f1117a0e268a5685b8d89", func := "overseer/overseerlaw26.ControllableSupremal", spec := "controllableSupremal", inPlace := ["internal/abi.NoEscape"], unfollowed := true, recurses := true, named := ["internal/strconv.uint64pow10", "math/bits.deBruijn32tab", "math/bits.deBruijn64tab"], plainKeys := false, apart := false, laid := [("math/bits.deBruijn32tab", laid_math_bits_deBruijn32tab), ("math/bits.deBruijn64tab", laid_math_bits_deBruijn64tab), ("internal/strconv.uint64pow10", laid_internal_strconv_uint64pow10)], narrowed := true }
def ControllableSupremalUptoSaid : Prop := controllableSupremalUptoRow.holds Tryd.pinned (OpenSpec.upto controllableSupremalSpec)

/-- 'overseerlaw26.ControllableAgain', WHERE WHAT IT READS IS OF BULK AT MOST 1048576: true; the input reads as it did. -/
def controllableAgainUptoRow : OpenClaim := { program := "ytcchnibgehonoaadoor", sum := "84b2b02329af09f005893a44aaf1f1690802c4e4952f1117a0e268a5685b8d89", func := "overseer/overseerlaw26.ControllableAgain", spec := "controllableAgain", inPlace := ["internal/abi.NoEscape"], unfollowed := true, recurses := true, named := ["internal/strconv.uint64pow10", "math/bits.deBruijn32tab", "math/bits.deBruijn64tab"], plainKeys := false, apart := false, laid := [("math/bits.deBruijn32tab", laid_math_bits_deBruijn32tab), ("math/bits.deBruijn64tab", laid_math_bits_deBruijn64tab), ("internal/strconv.uint64pow10", laid_internal_strconv_uint64pow10)], narrowed := true }
def ControllableAgainUptoSaid : Prop := controllableAgainUptoRow.holds Tryd.pinned (OpenSpec.upto controllableAgainSpec)

/-- 'overseerlaw26.ControllableSets', WHERE WHAT IT READS IS OF BULK AT MOST 1048576: true; the input reads as it did. -/
def controllableSetsUptoRow : OpenClaim := { program := "ytcchnibgehonoaadoor", sum := "84b2b02329af09f005893a44aaf1f1690802c4e4952f1117a0e268a5685b8d89", func := "overseer/overseerlaw26.ControllableSets", spec := "controllableSets", inPlace := ["internal/abi.NoEscape"], unfollowed := true, recurses := true, named := ["internal/strconv.uint64pow10", "math/bits.deBruijn32tab", "math/bits.deBruijn64tab"], plainKeys := false, apart := false, laid := [("math/bits.deBruijn32tab", laid_math_bits_deBruijn32tab), ("math/bits.deBruijn64tab", laid_math_bits_deBruijn64tab), ("internal/strconv.uint64pow10", laid_internal_strconv_uint64pow10)], narrowed := true }
def ControllableSetsUptoSaid : Prop := controllableSetsUptoRow.holds Tryd.pinned (OpenSpec.upto controllableSetsSpec)

/-- 'overseerlaw26.ControllableWords', WHERE WHAT IT READS IS OF BULK AT MOST 1048576: true; the input reads as it did. -/
def controllableWordsUptoRow : OpenClaim := { program := "ytcchnibgehonoaadoor", sum := "84b2b02329af09f005893a44aaf1f1690802c4e4952f1117a0e268a5685b8d89", func := "overseer/overseerlaw26.ControllableWords", spec := "controllableWords", inPlace := ["internal/abi.NoEscape"], unfollowed := true, recurses := true, named := ["internal/strconv.uint64pow10", "math/bits.deBruijn32tab", "math/bits.deBruijn64tab"], plainKeys := false, apart := false, laid := [("math/bits.deBruijn32tab", laid_math_bits_deBruijn32tab), ("math/bits.deBruijn64tab", laid_math_bits_deBruijn64tab), ("internal/strconv.uint64pow10", laid_internal_strconv_uint64pow10)], narrowed := true }
def ControllableWordsUptoSaid : Prop := controllableWordsUptoRow.holds Tryd.pinned (OpenSpec.upto controllableWordsSpec)

/-- 'overseerlaw26.ControllableLess', WHERE WHAT IT READS IS OF BULK AT MOST 1048576: true; the input reads as it did. -/
def controllableLessUptoRow : OpenClaim := { program := "ytcchnibgehonoaadoor", sum := "84b2b02329af09f005893a44aaf1f1690802c4e4952f1117a0e268a5685b8d89", func := "overseer/overseerlaw26.ControllableLess", spec := "controllableLess", inPlace := ["internal/abi.NoEscape"], unfollowed := true, recurses := true, named := ["internal/strconv.uint64pow10", "math/bits.deBruijn32tab", "math/bits.deBruijn64tab"], plainKeys := false, apart := false, laid := [("math/bits.deBruijn32tab", laid_math_bits_deBruijn32tab), ("math/bits.deBruijn64tab", laid_math_bits_deBruijn64tab), ("internal/strconv.uint64pow10", laid_internal_strconv_uint64pow10)], narrowed := true }
def ControllableLessUptoSaid : Prop := controllableLessUptoRow.holds Tryd.pinned (OpenSpec.upto controllableLessSpec)

/-- 'overseerlaw26.ControllableChecks', WHERE WHAT IT READS IS OF BULK AT MOST 1048576: true; the input reads as it did. -/
def controllableChecksUptoRow : OpenClaim := { program := "ytcchnibgehonoaadoor", sum := "84b2b02329af09f005893a44aaf1f1690802c4e4952f1117a0e268a5685b8d89", func := "overseer/overseerlaw26.ControllableChecks", spec := "controllableChecks", inPlace := ["internal/abi.NoEscape"], unfollowed := true, recurses := true, named := ["internal/strconv.uint64pow10", "math/bits.deBruijn32tab", "math/bits.deBruijn64tab"], plainKeys := false, apart := false, laid := [("math/bits.deBruijn32tab", laid_math_bits_deBruijn32tab), ("math/bits.deBruijn64tab", laid_math_bits_deBruijn64tab), ("internal/strconv.uint64pow10", laid_internal_strconv_uint64pow10)], narrowed := true }
def ControllableChecksUptoSaid : Prop := controllableChecksUptoRow.holds Tryd.pinned (OpenSpec.upto controllableChecksSpec)

end Rows
end Go.Proofs.YtcchnibgehonoaaDoor
