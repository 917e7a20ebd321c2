/-
  NARROWER THAN 'FOR EVERY INPUT', by the rows' own cells (each row's printed sentence says how): ProductComposes: laid · ProductLimits: laid · ProductSelf: laid · ProductMeets: laid · ProductFinds: laid · ProductRuns: laid · ProductSteps: laid · ProductOrders: laid · ProductChecks: laid · ProductLanguages: laid.
  DERIVED. THE GIVEN ROWS OF THIS SEAT. 10 by the template 'for every input the law returns true; each argument reads behind the call as it read before'; 0 by the template 'total and deterministic' (their statements: YtbdliebjalghmaaDoorTotals.lean).
  GIVEN WITH THE SEED: the statements are not yours to turn. If you find one false, say at which input.
  Laid BY PROGRAM, IN A SANDBOX (cutbox-rows.mjs): the forced cells as the released guide's own fill.sh prints them over the translation ebe2a793a28e632f… (all of the seat's roots in one cut). By AI agents, Wed Nov 11 2026. No macro, syntax, notation, axiom, sorry.
-/
import Derived.Test.YtbdliebjalghmaaDoorChecked
import GoSem.Claim
import GoSem.ClaimJoined
import GoSem.ClaimMapViews
import Derived.JoinedTies
import Derived.KernelRfl
namespace Go.Proofs.YtbdliebjalghmaaDoor
/- THE CELL 'sum', in the pinned program and in every row, IS THE sha256 OF THE DUMP (.gsa) THAT YtbdliebjalghmaaDoorProg.lean LOADS. Nothing in Lean hashes anything: it is a label: what it is worth is what the hold of that sum in a sandbox is worth. -/
noncomputable def Tryd.pinned : Pinned := { name := "ytbdliebjalghmaadoor", sum := "ebe2a793a28e632f2d28c1c1d0d6f2a2a643edc17fa238f27308b3d51e8d9e31", checked := Tryd.checked }
namespace Rows
def none {H : Type} : Left H := { results := [], args := [] }

/- WHAT THE LISTED PACKAGE-LEVEL VARIABLES READ AS WHEN THE CALL BEGINS. Each datum BY PROGRAM (the guide's laid-datum.mjs) off the statement by which the dump's own 'gosem.cut.vars' lays the variable. In a bare row this is a premise. The card (YtbdliebjalghmaaDoorCards.lean) ties it to the program's text. -/
def laid_math_bits_deBruijn32tab {H : Type} : DataW H := .agg [.lit (.int .u8 0), .lit (.int .u8 1), .lit (.int .u8 28), .lit (.int .u8 2), .lit (.int .u8 29), .lit (.int .u8 14), .lit (.int .u8 24), .lit (.int .u8 3), .lit (.int .u8 30), .lit (.int .u8 22), .lit (.int .u8 20), .lit (.int .u8 15), .lit (.int .u8 25), .lit (.int .u8 17), .lit (.int .u8 4), .lit (.int .u8 8), .lit (.int .u8 31), .lit (.int .u8 27), .lit (.int .u8 13), .lit (.int .u8 23), .lit (.int .u8 21), .lit (.int .u8 19), .lit (.int .u8 16), .lit (.int .u8 7), .lit (.int .u8 26), .lit (.int .u8 12), .lit (.int .u8 18), .lit (.int .u8 6), .lit (.int .u8 11), .lit (.int .u8 5), .lit (.int .u8 10), .lit (.int .u8 9)]
def laid_math_bits_deBruijn64tab {H : Type} : DataW H := .agg [.lit (.int .u8 0), .lit (.int .u8 1), .lit (.int .u8 56), .lit (.int .u8 2), .lit (.int .u8 57), .lit (.int .u8 49), .lit (.int .u8 28), .lit (.int .u8 3), .lit (.int .u8 61), .lit (.int .u8 58), .lit (.int .u8 42), .lit (.int .u8 50), .lit (.int .u8 38), .lit (.int .u8 29), .lit (.int .u8 17), .lit (.int .u8 4), .lit (.int .u8 62), .lit (.int .u8 47), .lit (.int .u8 59), .lit (.int .u8 36), .lit (.int .u8 45), .lit (.int .u8 43), .lit (.int .u8 51), .lit (.int .u8 22), .lit (.int .u8 53), .lit (.int .u8 39), .lit (.int .u8 33), .lit (.int .u8 30), .lit (.int .u8 24), .lit (.int .u8 18), .lit (.int .u8 12), .lit (.int .u8 5), .lit (.int .u8 63), .lit (.int .u8 55), .lit (.int .u8 48), .lit (.int .u8 27), .lit (.int .u8 60), .lit (.int .u8 41), .lit (.int .u8 37), .lit (.int .u8 16), .lit (.int .u8 46), .lit (.int .u8 35), .lit (.int .u8 44), .lit (.int .u8 21), .lit (.int .u8 52), .lit (.int .u8 32), .lit (.int .u8 23), .lit (.int .u8 11), .lit (.int .u8 54), .lit (.int .u8 26), .lit (.int .u8 40), .lit (.int .u8 15), .lit (.int .u8 34), .lit (.int .u8 20), .lit (.int .u8 31), .lit (.int .u8 10), .lit (.int .u8 25), .lit (.int .u8 14), .lit (.int .u8 19), .lit (.int .u8 9), .lit (.int .u8 13), .lit (.int .u8 8), .lit (.int .u8 7), .lit (.int .u8 6)]
def laid_internal_strconv_uint64pow10 {H : Type} : DataW H := .agg [.lit (.int .u64 1), .lit (.int .u64 10), .lit (.int .u64 100), .lit (.int .u64 1000), .lit (.int .u64 10000), .lit (.int .u64 100000), .lit (.int .u64 1000000), .lit (.int .u64 10000000), .lit (.int .u64 100000000), .lit (.int .u64 1000000000), .lit (.int .u64 10000000000), .lit (.int .u64 100000000000), .lit (.int .u64 1000000000000), .lit (.int .u64 10000000000000), .lit (.int .u64 100000000000000), .lit (.int .u64 1000000000000000), .lit (.int .u64 10000000000000000), .lit (.int .u64 100000000000000000), .lit (.int .u64 1000000000000000000), .lit (.int .u64 10000000000000000000)]

/-- 'overseerlaw06.ProductComposes': WHATEVER THE INPUT: true; the input reads as it did. -/
def productComposesSpec : ChangeSpec := { name := "productComposes", fn := fun _ => fun
  | [d] => { results := [.lit (.bool true)], args := [d] }
  | _ => none }
def productComposesRow : OpenClaim := { program := "ytbdliebjalghmaadoor", sum := "ebe2a793a28e632f2d28c1c1d0d6f2a2a643edc17fa238f27308b3d51e8d9e31", func := "overseer/overseerlaw06.ProductComposes", spec := "productComposes", inPlace := ["internal/abi.NoEscape"], unfollowed := true, recurses := true, named := ["internal/strconv.uint64pow10", "math/bits.deBruijn32tab", "math/bits.deBruijn64tab"], plainKeys := false, apart := false, laid := [("math/bits.deBruijn32tab", laid_math_bits_deBruijn32tab), ("math/bits.deBruijn64tab", laid_math_bits_deBruijn64tab), ("internal/strconv.uint64pow10", laid_internal_strconv_uint64pow10)] }
def ProductComposesSaid : Prop := productComposesRow.holds Tryd.pinned (OpenSpec.ofChange productComposesSpec)

/-- ITS FALSE NEIGHBOUR: 'it returns false'. Refute it at one input. -/
def productComposesWrong : ChangeSpec := { name := "productComposes", fn := fun _ => fun
  | [d] => { results := [.lit (.bool false)], args := [d] }
  | _ => none }
def ProductComposesWrongFalsely : Prop := productComposesRow.holds Tryd.pinned (OpenSpec.ofChange productComposesWrong)

/-- 'overseerlaw06.ProductLimits': WHATEVER THE INPUT: true; the input reads as it did. -/
def productLimitsSpec : ChangeSpec := { name := "productLimits", fn := fun _ => fun
  | [d] => { results := [.lit (.bool true)], args := [d] }
  | _ => none }
def productLimitsRow : OpenClaim := { program := "ytbdliebjalghmaadoor", sum := "ebe2a793a28e632f2d28c1c1d0d6f2a2a643edc17fa238f27308b3d51e8d9e31", func := "overseer/overseerlaw06.ProductLimits", spec := "productLimits", inPlace := ["internal/abi.NoEscape"], unfollowed := true, recurses := true, named := ["internal/strconv.uint64pow10", "math/bits.deBruijn32tab", "math/bits.deBruijn64tab"], plainKeys := false, apart := false, laid := [("math/bits.deBruijn32tab", laid_math_bits_deBruijn32tab), ("math/bits.deBruijn64tab", laid_math_bits_deBruijn64tab), ("internal/strconv.uint64pow10", laid_internal_strconv_uint64pow10)] }
def ProductLimitsSaid : Prop := productLimitsRow.holds Tryd.pinned (OpenSpec.ofChange productLimitsSpec)

/-- ITS FALSE NEIGHBOUR: 'it returns false'. Refute it at one input. -/
def productLimitsWrong : ChangeSpec := { name := "productLimits", fn := fun _ => fun
  | [d] => { results := [.lit (.bool false)], args := [d] }
  | _ => none }
def ProductLimitsWrongFalsely : Prop := productLimitsRow.holds Tryd.pinned (OpenSpec.ofChange productLimitsWrong)

/-- 'overseerlaw06.ProductSelf': WHATEVER THE INPUT: true; the input reads as it did. -/
def productSelfSpec : ChangeSpec := { name := "productSelf", fn := fun _ => fun
  | [d] => { results := [.lit (.bool true)], args := [d] }
  | _ => none }
def productSelfRow : OpenClaim := { program := "ytbdliebjalghmaadoor", sum := "ebe2a793a28e632f2d28c1c1d0d6f2a2a643edc17fa238f27308b3d51e8d9e31", func := "overseer/overseerlaw06.ProductSelf", spec := "productSelf", inPlace := ["internal/abi.NoEscape"], unfollowed := true, recurses := true, named := ["internal/strconv.uint64pow10", "math/bits.deBruijn32tab", "math/bits.deBruijn64tab"], plainKeys := false, apart := false, laid := [("math/bits.deBruijn32tab", laid_math_bits_deBruijn32tab), ("math/bits.deBruijn64tab", laid_math_bits_deBruijn64tab), ("internal/strconv.uint64pow10", laid_internal_strconv_uint64pow10)] }
def ProductSelfSaid : Prop := productSelfRow.holds Tryd.pinned (OpenSpec.ofChange productSelfSpec)

/-- ITS FALSE NEIGHBOUR: 'it returns false'. Refute it at one input. -/
def productSelfWrong : ChangeSpec := { name := "productSelf", fn := fun _ => fun
  | [d] => { results := [.lit (.bool false)], args := [d] }
  | _ => none }
def ProductSelfWrongFalsely : Prop := productSelfRow.holds Tryd.pinned (OpenSpec.ofChange productSelfWrong)

/-- 'overseerlaw06.ProductMeets': WHATEVER THE INPUT: true; the input reads as it did. -/
def productMeetsSpec : ChangeSpec := { name := "productMeets", fn := fun _ => fun
  | [d1, d2, d3] => { results := [.lit (.bool true)], args := [d1, d2, d3] }
  | _ => none }
def productMeetsRow : OpenClaim := { program := "ytbdliebjalghmaadoor", sum := "ebe2a793a28e632f2d28c1c1d0d6f2a2a643edc17fa238f27308b3d51e8d9e31", func := "overseer/overseerlaw06.ProductMeets", spec := "productMeets", inPlace := ["internal/abi.NoEscape"], unfollowed := true, recurses := true, named := ["internal/strconv.uint64pow10", "math/bits.deBruijn32tab", "math/bits.deBruijn64tab"], plainKeys := false, apart := false, laid := [("math/bits.deBruijn32tab", laid_math_bits_deBruijn32tab), ("math/bits.deBruijn64tab", laid_math_bits_deBruijn64tab), ("internal/strconv.uint64pow10", laid_internal_strconv_uint64pow10)] }
def ProductMeetsSaid : Prop := productMeetsRow.holds Tryd.pinned (OpenSpec.ofChange productMeetsSpec)

/-- ITS FALSE NEIGHBOUR: 'it returns false'. Refute it at one input. -/
def productMeetsWrong : ChangeSpec := { name := "productMeets", fn := fun _ => fun
  | [d1, d2, d3] => { results := [.lit (.bool false)], args := [d1, d2, d3] }
  | _ => none }
def ProductMeetsWrongFalsely : Prop := productMeetsRow.holds Tryd.pinned (OpenSpec.ofChange productMeetsWrong)

/-- 'overseerlaw06.ProductFinds': WHATEVER THE INPUT: true; the input reads as it did. -/
def productFindsSpec : ChangeSpec := { name := "productFinds", fn := fun _ => fun
  | [d1, d2] => { results := [.lit (.bool true)], args := [d1, d2] }
  | _ => none }
def productFindsRow : OpenClaim := { program := "ytbdliebjalghmaadoor", sum := "ebe2a793a28e632f2d28c1c1d0d6f2a2a643edc17fa238f27308b3d51e8d9e31", func := "overseer/overseerlaw06.ProductFinds", spec := "productFinds", inPlace := ["internal/abi.NoEscape"], unfollowed := true, recurses := true, named := ["internal/strconv.uint64pow10", "math/bits.deBruijn32tab", "math/bits.deBruijn64tab"], plainKeys := false, apart := false, laid := [("math/bits.deBruijn32tab", laid_math_bits_deBruijn32tab), ("math/bits.deBruijn64tab", laid_math_bits_deBruijn64tab), ("internal/strconv.uint64pow10", laid_internal_strconv_uint64pow10)] }
def ProductFindsSaid : Prop := productFindsRow.holds Tryd.pinned (OpenSpec.ofChange productFindsSpec)

/-- ITS FALSE NEIGHBOUR: 'it returns false'. Refute it at one input. -/
def productFindsWrong : ChangeSpec := { name := "productFinds", fn := fun _ => fun
  | [d1, d2] => { results := [.lit (.bool false)], args := [d1, d2] }
  | _ => none }
def ProductFindsWrongFalsely : Prop := productFindsRow.holds Tryd.pinned (OpenSpec.ofChange productFindsWrong)

/-- 'overseerlaw06.ProductRuns': WHATEVER THE INPUT: true; the input reads as it did. -/
def productRunsSpec : ChangeSpec := { name := "productRuns", fn := fun _ => fun
  | [d1, d2] => { results := [.lit (.bool true)], args := [d1, d2] }
  | _ => none }
def productRunsRow : OpenClaim := { program := "ytbdliebjalghmaadoor", sum := "ebe2a793a28e632f2d28c1c1d0d6f2a2a643edc17fa238f27308b3d51e8d9e31", func := "overseer/overseerlaw06.ProductRuns", spec := "productRuns", inPlace := ["internal/abi.NoEscape"], unfollowed := true, recurses := true, named := ["internal/strconv.uint64pow10", "math/bits.deBruijn32tab", "math/bits.deBruijn64tab"], plainKeys := false, apart := false, laid := [("math/bits.deBruijn32tab", laid_math_bits_deBruijn32tab), ("math/bits.deBruijn64tab", laid_math_bits_deBruijn64tab), ("internal/strconv.uint64pow10", laid_internal_strconv_uint64pow10)] }
def ProductRunsSaid : Prop := productRunsRow.holds Tryd.pinned (OpenSpec.ofChange productRunsSpec)

/-- ITS FALSE NEIGHBOUR: 'it returns false'. Refute it at one input. -/
def productRunsWrong : ChangeSpec := { name := "productRuns", fn := fun _ => fun
  | [d1, d2] => { results := [.lit (.bool false)], args := [d1, d2] }
  | _ => none }
def ProductRunsWrongFalsely : Prop := productRunsRow.holds Tryd.pinned (OpenSpec.ofChange productRunsWrong)

/-- 'overseerlaw06.ProductSteps': WHATEVER THE INPUT: true; the input reads as it did. -/
def productStepsSpec : ChangeSpec := { name := "productSteps", fn := fun _ => fun
  | [d1, d2, d3] => { results := [.lit (.bool true)], args := [d1, d2, d3] }
  | _ => none }
def productStepsRow : OpenClaim := { program := "ytbdliebjalghmaadoor", sum := "ebe2a793a28e632f2d28c1c1d0d6f2a2a643edc17fa238f27308b3d51e8d9e31", func := "overseer/overseerlaw06.ProductSteps", spec := "productSteps", inPlace := ["internal/abi.NoEscape"], unfollowed := true, recurses := true, named := ["internal/strconv.uint64pow10", "math/bits.deBruijn32tab", "math/bits.deBruijn64tab"], plainKeys := false, apart := false, laid := [("math/bits.deBruijn32tab", laid_math_bits_deBruijn32tab), ("math/bits.deBruijn64tab", laid_math_bits_deBruijn64tab), ("internal/strconv.uint64pow10", laid_internal_strconv_uint64pow10)] }
def ProductStepsSaid : Prop := productStepsRow.holds Tryd.pinned (OpenSpec.ofChange productStepsSpec)

/-- ITS FALSE NEIGHBOUR: 'it returns false'. Refute it at one input. -/
def productStepsWrong : ChangeSpec := { name := "productSteps", fn := fun _ => fun
  | [d1, d2, d3] => { results := [.lit (.bool false)], args := [d1, d2, d3] }
  | _ => none }
def ProductStepsWrongFalsely : Prop := productStepsRow.holds Tryd.pinned (OpenSpec.ofChange productStepsWrong)

/-- 'overseerlaw06.ProductOrders': WHATEVER THE INPUT: true; the input reads as it did. -/
def productOrdersSpec : ChangeSpec := { name := "productOrders", fn := fun _ => fun
  | [d1, d2] => { results := [.lit (.bool true)], args := [d1, d2] }
  | _ => none }
def productOrdersRow : OpenClaim := { program := "ytbdliebjalghmaadoor", sum := "ebe2a793a28e632f2d28c1c1d0d6f2a2a643edc17fa238f27308b3d51e8d9e31", func := "overseer/overseerlaw06.ProductOrders", spec := "productOrders", inPlace := ["internal/abi.NoEscape"], unfollowed := true, recurses := true, named := ["internal/strconv.uint64pow10", "math/bits.deBruijn32tab", "math/bits.deBruijn64tab"], plainKeys := false, apart := false, laid := [("math/bits.deBruijn32tab", laid_math_bits_deBruijn32tab), ("math/bits.deBruijn64tab", laid_math_bits_deBruijn64tab), ("internal/strconv.uint64pow10", laid_internal_strconv_uint64pow10)] }
def ProductOrdersSaid : Prop := productOrdersRow.holds Tryd.pinned (OpenSpec.ofChange productOrdersSpec)

/-- ITS FALSE NEIGHBOUR: 'it returns false'. Refute it at one input. -/
def productOrdersWrong : ChangeSpec := { name := "productOrders", fn := fun _ => fun
  | [d1, d2] => { results := [.lit (.bool false)], args := [d1, d2] }
  | _ => none }
def ProductOrdersWrongFalsely : Prop := productOrdersRow.holds Tryd.pinned (OpenSpec.ofChange productOrdersWrong)

/-- 'overseerlaw06.ProductChecks': WHATEVER THE INPUT: true; the input reads as it did. -/
def productChecksSpec : ChangeSpec := { name := "productChecks", fn := fun _ => fun
  | [d] => { results := [.lit (.bool true)], args := [d] }
  | _ => none }
def productChecksRow : OpenClaim := { program := "ytbdliebjalghmaadoor", sum := "ebe2a793a28e632f2d28c1c1d0d6f2a2a643edc17fa238f27308b3d51e8d9e31", func := "overseer/overseerlaw06.ProductChecks", spec := "productChecks", inPlace := ["internal/abi.NoEscape"], unfollowed := true, recurses := true, named := ["internal/strconv.uint64pow10", "math/bits.deBruijn32tab", "math/bits.deBruijn64tab"], plainKeys := false, apart := false, laid := [("math/bits.deBruijn32tab", laid_math_bits_deBruijn32tab), ("math/bits.deBruijn64tab", laid_math_bits_deBruijn64tab), ("internal/strconv.uint64pow10", laid_internal_strconv_uint64pow10)] }
def ProductChecksSaid : Prop := productChecksRow.holds Tryd.pinned (OpenSpec.ofChange productChecksSpec)

/-- ITS FALSE NEIGHBOUR: 'it returns false'. Refute it at one input. -/
def productChecksWrong : ChangeSpec := { name := "productChecks", fn := fun _ => fun
  | [d] => { results := [.lit (.bool false)], args := [d] }
  | _ => none }
def ProductChecksWrongFalsely : Prop := productChecksRow.holds Tryd.pinned (OpenSpec.ofChange productChecksWrong)

/-- 'overseerlaw06.ProductLanguages': WHATEVER THE INPUT: true; the input reads as it did. -/
def productLanguagesSpec : ChangeSpec := { name := "productLanguages", fn := fun _ => fun
  | [d1, d2] => { results := [.lit (.bool true)], args := [d1, d2] }
  | _ => none }
def productLanguagesRow : OpenClaim := { program := "ytbdliebjalghmaadoor", sum := "ebe2a793a28e632f2d28c1c1d0d6f2a2a643edc17fa238f27308b3d51e8d9e31", func := "overseer/overseerlaw06.ProductLanguages", spec := "productLanguages", inPlace := ["internal/abi.NoEscape"], unfollowed := true, recurses := true, named := ["internal/strconv.uint64pow10", "math/bits.deBruijn32tab", "math/bits.deBruijn64tab"], plainKeys := false, apart := false, laid := [("math/bits.deBruijn32tab", laid_math_bits_deBruijn32tab), ("math/bits.deBruijn64tab", laid_math_bits_deBruijn64tab), ("internal/strconv.uint64pow10", laid_internal_strconv_uint64pow10)] }
def ProductLanguagesSaid : Prop := productLanguagesRow.holds Tryd.pinned (OpenSpec.ofChange productLanguagesSpec)

/-- ITS FALSE NEIGHBOUR: 'it returns false'. Refute it at one input. -/
def productLanguagesWrong : ChangeSpec := { name := "productLanguages", fn := fun _ => fun
  | [d1, d2] => { results := [.lit (.bool false)], args := [d1, d2] }
  | _ => none }
def ProductLanguagesWrongFalsely : Prop := productLanguagesRow.holds Tryd.pinned (OpenSpec.ofChange productLanguagesWrong)

/- THE SECOND FORM. 'bulk': how many values and letters a reading holds, each counted each time it is reached (what is shared counts as often as it is met; a slice's spare places count too). A statement '..UptoSaid' is the law's where the arguments, and the package variables that the reading takes, are together of bulk at most 1048576: NARROWER than '..Said'. Prove '..Said' where nothing that the law and all that it calls make is longer than what came in: it says more and counts as full. Else prove '..UptoSaid'. A law counts once. -/
mutual
def uptoBulk {H : Type} : DataW H → Nat
  | .lit (.string bytes) => bytes.length + 1
  | .lit _ => 1
  | .nil => 1
  | .ptr d => uptoBulk d + 1
  | .slice elems spare => uptoBulkAll elems + uptoBulkAll spare + 1
  | .agg parts => uptoBulkAll parts + 1
  | .iface _ d => uptoBulk d + 1
  | .map entries => uptoBulkEntries entries + 1
  | .held _ => 1
def uptoBulkAll {H : Type} : List (DataW H) → Nat
  | [] => 0
  | d :: r => uptoBulk d + uptoBulkAll r
def uptoBulkEntries {H : Type} : List (Lit × DataW H) → Nat
  | [] => 0
  | x :: r => uptoBulkEntry x + uptoBulkEntries r
def uptoBulkEntry {H : Type} : Lit × DataW H → Nat
  | (.string bytes, d) => bytes.length + uptoBulk d + 1
  | (_, d) => uptoBulk d + 1
 end
def uptoSmall : (H : Type) → List (DataW H) → Bool := fun _ ds => decide (uptoBulkAll ds ≤ 1048576)
def OpenSpec.upto (s : _root_.Go.ChangeSpec) : _root_.Go.OpenSpec := { _root_.Go.OpenSpec.ofChange s with cond := some uptoSmall }

/-- 'overseerlaw06.ProductComposes', WHERE WHAT IT READS IS OF BULK AT MOST 1048576: true; the input reads as it did. -/
def productComposesUptoRow : OpenClaim := { program := "ytbdliebjalghmaadoor", sum := "ebe2a793a28e632f2d28c1c1d0d6f2a2a643edc17fa238f27308b3d51e8d9e31", func := "overseer/overseerlaw06.ProductComposes", spec := "productComposes", inPlace := ["internal/abi.NoEscape"], unfollowed := true, recurses := true, named := ["internal/strconv.uint64pow10", "math/bits.deBruijn32tab", "math/bits.deBruijn64tab"], plainKeys := false, apart := false, laid := [("math/bits.deBruijn32tab", laid_math_bits_deBruijn32tab), ("math/bits.deBruijn64tab", laid_math_bits_deBruijn64tab), ("internal/strconv.uint64pow10", laid_internal_strconv_uint64pow10)], narrowed := true }
def ProductComposesUptoSaid : Prop := productComposesUptoRow.holds Tryd.pinned (OpenSpec.upto productComposesSpec)

/-- 'overseerlaw06.ProductLimits', WHERE WHAT IT READS IS OF BULK AT MOST 1048576: true; the input reads as it did. -/
def productLimitsUptoRow : OpenClaim := { program := "ytbdliebjalghmaadoor", sum := "ebe2a793a28e632f2d28c1c1d0d6f2a2a643edc17fa238f27308b3d51e8d9e31", func := "overseer/overseerlaw06.ProductLimits", spec := "productLimits", inPlace := ["internal/abi.NoEscape"], unfollowed := true, recurses := true, named := ["internal/strconv.uint64pow10", "math/bits.deBruijn32tab", "math/bits.deBruijn64tab"], plainKeys := false, apart := false, laid := [("math/bits.deBruijn32tab", laid_math_bits_deBruijn32tab), ("math/bits.deBruijn64tab", laid_math_bits_deBruijn64tab), ("internal/strconv.uint64pow10", laid_internal_strconv_uint64pow10)], narrowed := true }
def ProductLimitsUptoSaid : Prop := productLimitsUptoRow.holds Tryd.pinned (OpenSpec.upto productLimitsSpec)

/-- 'overseerlaw06.ProductSelf', WHERE WHAT IT READS IS OF BULK AT MOST 1048576: true; the input reads as it did. -/
def productSelfUptoRow : OpenClaim := { program := "ytbdliebjalghmaadoor", sum := "ebe2a793a28e632f2d28c1c1d0d6f2a2a643edc17fa238f27308b3d51e8d9e31", func := "overseer/overseerlaw06.ProductSelf", spec := "productSelf", inPlace := ["internal/abi.NoEscape"], unfollowed := true, recurses := true, named := ["internal/strconv.uint64pow10", "math/bits.deBruijn32tab", "math/bits.deBruijn64tab"], plainKeys := false, apart := false, laid := [("math/bits.deBruijn32tab", laid_math_bits_deBruijn32tab), ("math/bits.deBruijn64tab", laid_math_bits_deBruijn64tab), ("internal/strconv.uint64pow10", laid_internal_strconv_uint64pow10)], narrowed := true }
def ProductSelfUptoSaid : Prop := productSelfUptoRow.holds Tryd.pinned (OpenSpec.upto productSelfSpec)

/-- 'overseerlaw06.ProductMeets', WHERE WHAT IT READS IS OF BULK AT MOST 1048576: true; the input reads as it did. -/
def productMeetsUptoRow : OpenClaim := { program := "ytbdliebjalghmaadoor", sum := "ebe2a793a28e632f2d28c1c1d0d6f2a2a643edc17fa238f27308b3d51e8d9e31", func := "overseer/overseerlaw06.ProductMeets", spec := "productMeets", inPlace := ["internal/abi.NoEscape"], unfollowed := true, recurses := true, named := ["internal/strconv.uint64pow10", "math/bits.deBruijn32tab", "math/bits.deBruijn64tab"], plainKeys := false, apart := false, laid := [("math/bits.deBruijn32tab", laid_math_bits_deBruijn32tab), ("math/bits.deBruijn64tab", laid_math_bits_deBruijn64tab), ("internal/strconv.uint64pow10", laid_internal_strconv_uint64pow10)], narrowed := true }
def ProductMeetsUptoSaid : Prop := productMeetsUptoRow.holds Tryd.pinned (OpenSpec.upto productMeetsSpec)

/-- 'overseerlaw06.ProductFinds', WHERE WHAT IT READS IS OF BULK AT MOST 1048576: true; the input reads as it did. -/
def productFindsUptoRow : OpenClaim := { program := "ytbdliebjalghmaadoor", sum := "ebe2a793a28e632f2d28c1c1d0d6f2a2a643edc17fa238f27308b3d51e8d9e31", func := "overseer/overseerlaw06.ProductFinds", spec := "productFinds", inPlace := ["internal/abi.NoEscape"], unfollowed := true, recurses := true, named := ["internal/strconv.uint64pow10", "math/bits.deBruijn32tab", "math/bits.deBruijn64tab"], plainKeys := false, apart := false, laid := [("math/bits.deBruijn32tab", laid_math_bits_deBruijn32tab), ("math/bits.deBruijn64tab", laid_math_bits_deBruijn64tab), ("internal/strconv.uint64pow10", laid_internal_strconv_uint64pow10)], narrowed := true }
def ProductFindsUptoSaid : Prop := productFindsUptoRow.holds Tryd.pinned (OpenSpec.upto productFindsSpec)

/-- 'overseerlaw06.ProductRuns', WHERE WHAT IT READS IS OF BULK AT MOST 1048576: true; the input reads as it did. -/
def productRunsUptoRow : OpenClaim := { program := "ytbdliebjalghmaadoor", sum := "ebe2a793a28e632f2d28c1c1d0d6f2a2a643edc17fa238f27308b3d51e8d9e31", func := "overseer/overseerlaw06.ProductRuns", spec := "productRuns", inPlace := ["internal/abi.NoEscape"], unfollowed := true, recurses := true, named := ["internal/strconv.uint64pow10", "math/bits.deBruijn32tab", "math/bits.deBruijn64tab"], plainKeys := false, apart := false, laid := [("math/bits.deBruijn32tab", laid_math_bits_deBruijn32tab), ("math/bits.deBruijn64tab", laid_math_bits_deBruijn64tab), ("internal/strconv.uint64pow10", laid_internal_strconv_uint64pow10)], narrowed := true }
def ProductRunsUptoSaid : Prop := productRunsUptoRow.holds Tryd.pinned (OpenSpec.upto productRunsSpec)

/-- 'overseerlaw06.ProductSteps', WHERE WHAT IT READS IS OF BULK AT MOST 1048576: true; the input reads as it did. -/
def productStepsUptoRow : OpenClaim := { program := "ytbdliebjalghmaadoor", sum := "ebe2a793a28e632f2d28c1c1d0d6f2a2a643edc17fa238f27308b3d51e8d9e31", func := "overseer/overseerlaw06.ProductSteps", spec := "productSteps", inPlace := ["internal/abi.NoEscape"], unfollowed := true, recurses := true, named := ["internal/strconv.uint64pow10", "math/bits.deBruijn32tab", "math/bits.deBruijn64tab"], plainKeys := false, apart := false, laid := [("math/bits.deBruijn32tab", laid_math_bits_deBruijn32tab), ("math/bits.deBruijn64tab", laid_math_bits_deBruijn64tab), ("internal/strconv.uint64pow10", laid_internal_strconv_uint64pow10)], narrowed := true }
def ProductStepsUptoSaid : Prop := productStepsUptoRow.holds Tryd.pinned (OpenSpec.upto productStepsSpec)

/-- 'overseerlaw06.ProductOrders', WHERE WHAT IT READS IS OF BULK AT MOST 1048576: true; the input reads as it did. -/
def productOrdersUptoRow : OpenClaim := { program := "ytbdliebjalghmaadoor", sum := "ebe2a793a28e632f2d28c1c1d0d6f2a2a643edc17fa238f27308b3d51e8d9e31", func := "overseer/overseerlaw06.ProductOrders", spec := "productOrders", inPlace := ["internal/abi.NoEscape"], unfollowed := true, recurses := true, named := ["internal/strconv.uint64pow10", "math/bits.deBruijn32tab", "math/bits.deBruijn64tab"], plainKeys := false, apart := false, laid := [("math/bits.deBruijn32tab", laid_math_bits_deBruijn32tab), ("math/bits.deBruijn64tab", laid_math_bits_deBruijn64tab), ("internal/strconv.uint64pow10", laid_internal_strconv_uint64pow10)], narrowed := true }
def ProductOrdersUptoSaid : Prop := productOrdersUptoRow.holds Tryd.pinned (OpenSpec.upto productOrdersSpec)

/-- 'overseerlaw06.ProductChecks', WHERE WHAT IT READS IS OF BULK AT MOST 1048576: true; the input reads as it did. -/
def productChecksUptoRow : OpenClaim := { program := "ytbdliebjalghmaadoor", sum := "ebe2a793a28e632f2d28c1c1d0d6f2a2a643edc17fa238f27308b3d51e8d9e31", func := "overseer/overseerlaw06.ProductChecks", spec := "productChecks", inPlace := ["internal/abi.NoEscape"], unfollowed := true, recurses := true, named := ["internal/strconv.uint64pow10", "math/bits.deBruijn32tab", "math/bits.deBruijn64tab"], plainKeys := false, apart := false, laid := [("math/bits.deBruijn32tab", laid_math_bits_deBruijn32tab), ("math/bits.deBruijn64tab", laid_math_bits_deBruijn64tab), ("internal/strconv.uint64pow10", laid_internal_strconv_uint64pow10)], narrowed := true }
def ProductChecksUptoSaid : Prop := productChecksUptoRow.holds Tryd.pinned (OpenSpec.upto productChecksSpec)

/-- 'overseerlaw06.ProductLanguages', WHERE WHAT IT READS IS OF BULK AT MOST 1048576: true; the input reads as it did. -/
def productLanguagesUptoRow : OpenClaim := { program := "ytbdliebjalghmaadoor", sum := "ebe2a793a28e632f2d28c1c1d0d6f2a2a643edc17fa238f27308b3d51e8d9e31", func := "overseer/overseerlaw06.ProductLanguages", spec := "productLanguages", inPlace := ["internal/abi.NoEscape"], unfollowed := true, recurses := true, named := ["internal/strconv.uint64pow10", "math/bits.deBruijn32tab", "math/bits.deBruijn64tab"], plainKeys := false, apart := false, laid := [("math/bits.deBruijn32tab", laid_math_bits_deBruijn32tab), ("math/bits.deBruijn64tab", laid_math_bits_deBruijn64tab), ("internal/strconv.uint64pow10", laid_internal_strconv_uint64pow10)], narrowed := true }
def ProductLanguagesUptoSaid : Prop := productLanguagesUptoRow.holds Tryd.pinned (OpenSpec.upto productLanguagesSpec)

end Rows
end Go.Proofs.YtbdliebjalghmaaDoor
