/-
  No cell of these rows narrows 'for every input' (looked for: loops, veiled, ifaces, maps, wideKeys, modest, calm, conditions, laid).
  DERIVED. THE GIVEN ROWS OF THIS SEAT. 11 by the template 'for every input the law returns true; each argument reads behind the call as it read before'; 0 by the template 'total and deterministic' (their statements: YtcbhencebflgcaaTotals.lean).
  GIVEN WITH THE SEED: the statements are not yours to turn. If you find one false, say at which input.
  Laid BY PROGRAM, IN A SANDBOX (cutbox-rows.mjs): the forced cells as the released guide's own fill.sh prints them over the translation a582e648c92ed406… (all of the seat's roots in one cut). By AI agents, Wed Nov 11 2026. No macro, syntax, notation, axiom, sorry.
-/
import Derived.Test.YtcbhencebflgcaaChecked
import GoSem.Claim
import GoSem.ClaimJoined
import GoSem.ClaimMapViews
import Derived.JoinedTies
import Derived.KernelRfl
namespace Go.Proofs.Ytcbhencebflgcaa
/- THE CELL 'sum', in the pinned program and in every row, IS THE sha256 OF THE DUMP (.gsa) THAT YtcbhencebflgcaaProg.lean LOADS. Nothing in Lean hashes anything: it is a label: what it is worth is what the hold of that sum in a sandbox is worth. -/
noncomputable def Try.pinned : Pinned := { name := "ytcbhencebflgcaa", sum := "a582e648c92ed406ff66f7d664c2c7bcb3a756d60deaef89dddd203401a86f78", checked := Try.checked }
namespace Rows
def none {H : Type} : Left H := { results := [], args := [] }

/-- 'overseerlaw02.WordChecks': WHATEVER THE INPUT: true; the input reads as it did. -/
def wordChecksSpec : ChangeSpec := { name := "wordChecks", fn := fun _ => fun
  | [d1, d2] => { results := [.lit (.bool true)], args := [d1, d2] }
  | _ => none }
def wordChecksRow : OpenClaim := { program := "ytcbhencebflgcaa", sum := "a582e648c92ed406ff66f7d664c2c7bcb3a756d60deaef89dddd203401a86f78", func := "overseer/overseerlaw02.WordChecks", spec := "wordChecks", unfollowed := true, recurses := true, apart := false }
def WordChecksSaid : Prop := wordChecksRow.holds Try.pinned (OpenSpec.ofChange wordChecksSpec)

/-- ITS FALSE NEIGHBOUR: 'it returns false'. Refute it at one input. -/
def wordChecksWrong : ChangeSpec := { name := "wordChecks", fn := fun _ => fun
  | [d1, d2] => { results := [.lit (.bool false)], args := [d1, d2] }
  | _ => none }
def WordChecksWrongFalsely : Prop := wordChecksRow.holds Try.pinned (OpenSpec.ofChange wordChecksWrong)

/-- 'overseerlaw02.WordProjects': WHATEVER THE INPUT: true; the input reads as it did. -/
def wordProjectsSpec : ChangeSpec := { name := "wordProjects", fn := fun _ => fun
  | [d1, d2, d3] => { results := [.lit (.bool true)], args := [d1, d2, d3] }
  | _ => none }
def wordProjectsRow : OpenClaim := { program := "ytcbhencebflgcaa", sum := "a582e648c92ed406ff66f7d664c2c7bcb3a756d60deaef89dddd203401a86f78", func := "overseer/overseerlaw02.WordProjects", spec := "wordProjects", unfollowed := true, recurses := true, apart := false }
def WordProjectsSaid : Prop := wordProjectsRow.holds Try.pinned (OpenSpec.ofChange wordProjectsSpec)

/-- ITS FALSE NEIGHBOUR: 'it returns false'. Refute it at one input. -/
def wordProjectsWrong : ChangeSpec := { name := "wordProjects", fn := fun _ => fun
  | [d1, d2, d3] => { results := [.lit (.bool false)], args := [d1, d2, d3] }
  | _ => none }
def WordProjectsWrongFalsely : Prop := wordProjectsRow.holds Try.pinned (OpenSpec.ofChange wordProjectsWrong)

/-- 'overseerlaw02.WordMatches': WHATEVER THE INPUT: true; the input reads as it did. -/
def wordMatchesSpec : ChangeSpec := { name := "wordMatches", fn := fun _ => fun
  | [d1, d2, d3] => { results := [.lit (.bool true)], args := [d1, d2, d3] }
  | _ => none }
def wordMatchesRow : OpenClaim := { program := "ytcbhencebflgcaa", sum := "a582e648c92ed406ff66f7d664c2c7bcb3a756d60deaef89dddd203401a86f78", func := "overseer/overseerlaw02.WordMatches", spec := "wordMatches", unfollowed := true, recurses := true, apart := false }
def WordMatchesSaid : Prop := wordMatchesRow.holds Try.pinned (OpenSpec.ofChange wordMatchesSpec)

/-- ITS FALSE NEIGHBOUR: 'it returns false'. Refute it at one input. -/
def wordMatchesWrong : ChangeSpec := { name := "wordMatches", fn := fun _ => fun
  | [d1, d2, d3] => { results := [.lit (.bool false)], args := [d1, d2, d3] }
  | _ => none }
def WordMatchesWrongFalsely : Prop := wordMatchesRow.holds Try.pinned (OpenSpec.ofChange wordMatchesWrong)

/-- 'overseerlaw02.WordRefuses': WHATEVER THE INPUT: true; the input reads as it did. -/
def wordRefusesSpec : ChangeSpec := { name := "wordRefuses", fn := fun _ => fun
  | [d1, d2] => { results := [.lit (.bool true)], args := [d1, d2] }
  | _ => none }
def wordRefusesRow : OpenClaim := { program := "ytcbhencebflgcaa", sum := "a582e648c92ed406ff66f7d664c2c7bcb3a756d60deaef89dddd203401a86f78", func := "overseer/overseerlaw02.WordRefuses", spec := "wordRefuses", unfollowed := true, recurses := true, apart := false }
def WordRefusesSaid : Prop := wordRefusesRow.holds Try.pinned (OpenSpec.ofChange wordRefusesSpec)

/-- ITS FALSE NEIGHBOUR: 'it returns false'. Refute it at one input. -/
def wordRefusesWrong : ChangeSpec := { name := "wordRefuses", fn := fun _ => fun
  | [d1, d2] => { results := [.lit (.bool false)], args := [d1, d2] }
  | _ => none }
def WordRefusesWrongFalsely : Prop := wordRefusesRow.holds Try.pinned (OpenSpec.ofChange wordRefusesWrong)

/-- 'overseerlaw02.WordCompares': WHATEVER THE INPUT: true; the input reads as it did. -/
def wordComparesSpec : ChangeSpec := { name := "wordCompares", fn := fun _ => fun
  | [d1, d2, d3] => { results := [.lit (.bool true)], args := [d1, d2, d3] }
  | _ => none }
def wordComparesRow : OpenClaim := { program := "ytcbhencebflgcaa", sum := "a582e648c92ed406ff66f7d664c2c7bcb3a756d60deaef89dddd203401a86f78", func := "overseer/overseerlaw02.WordCompares", spec := "wordCompares", unfollowed := true, recurses := true, apart := false }
def WordComparesSaid : Prop := wordComparesRow.holds Try.pinned (OpenSpec.ofChange wordComparesSpec)

/-- ITS FALSE NEIGHBOUR: 'it returns false'. Refute it at one input. -/
def wordComparesWrong : ChangeSpec := { name := "wordCompares", fn := fun _ => fun
  | [d1, d2, d3] => { results := [.lit (.bool false)], args := [d1, d2, d3] }
  | _ => none }
def WordComparesWrongFalsely : Prop := wordComparesRow.holds Try.pinned (OpenSpec.ofChange wordComparesWrong)

/-- 'overseerlaw02.WordConcats': WHATEVER THE INPUT: true; the input reads as it did. -/
def wordConcatsSpec : ChangeSpec := { name := "wordConcats", fn := fun _ => fun
  | [d1, d2] => { results := [.lit (.bool true)], args := [d1, d2] }
  | _ => none }
def wordConcatsRow : OpenClaim := { program := "ytcbhencebflgcaa", sum := "a582e648c92ed406ff66f7d664c2c7bcb3a756d60deaef89dddd203401a86f78", func := "overseer/overseerlaw02.WordConcats", spec := "wordConcats", unfollowed := true, recurses := true, apart := false }
def WordConcatsSaid : Prop := wordConcatsRow.holds Try.pinned (OpenSpec.ofChange wordConcatsSpec)

/-- ITS FALSE NEIGHBOUR: 'it returns false'. Refute it at one input. -/
def wordConcatsWrong : ChangeSpec := { name := "wordConcats", fn := fun _ => fun
  | [d1, d2] => { results := [.lit (.bool false)], args := [d1, d2] }
  | _ => none }
def WordConcatsWrongFalsely : Prop := wordConcatsRow.holds Try.pinned (OpenSpec.ofChange wordConcatsWrong)

/-- 'overseerlaw02.WordPrefixes': WHATEVER THE INPUT: true; the input reads as it did. -/
def wordPrefixesSpec : ChangeSpec := { name := "wordPrefixes", fn := fun _ => fun
  | [d1, d2] => { results := [.lit (.bool true)], args := [d1, d2] }
  | _ => none }
def wordPrefixesRow : OpenClaim := { program := "ytcbhencebflgcaa", sum := "a582e648c92ed406ff66f7d664c2c7bcb3a756d60deaef89dddd203401a86f78", func := "overseer/overseerlaw02.WordPrefixes", spec := "wordPrefixes", unfollowed := true, recurses := true, apart := false }
def WordPrefixesSaid : Prop := wordPrefixesRow.holds Try.pinned (OpenSpec.ofChange wordPrefixesSpec)

/-- ITS FALSE NEIGHBOUR: 'it returns false'. Refute it at one input. -/
def wordPrefixesWrong : ChangeSpec := { name := "wordPrefixes", fn := fun _ => fun
  | [d1, d2] => { results := [.lit (.bool false)], args := [d1, d2] }
  | _ => none }
def WordPrefixesWrongFalsely : Prop := wordPrefixesRow.holds Try.pinned (OpenSpec.ofChange wordPrefixesWrong)

/-- 'overseerlaw02.WordShuffles': WHATEVER THE INPUT: true; the input reads as it did. -/
def wordShufflesSpec : ChangeSpec := { name := "wordShuffles", fn := fun _ => fun
  | [d1, d2] => { results := [.lit (.bool true)], args := [d1, d2] }
  | _ => none }
def wordShufflesRow : OpenClaim := { program := "ytcbhencebflgcaa", sum := "a582e648c92ed406ff66f7d664c2c7bcb3a756d60deaef89dddd203401a86f78", func := "overseer/overseerlaw02.WordShuffles", spec := "wordShuffles", unfollowed := true, recurses := true, apart := false }
def WordShufflesSaid : Prop := wordShufflesRow.holds Try.pinned (OpenSpec.ofChange wordShufflesSpec)

/-- ITS FALSE NEIGHBOUR: 'it returns false'. Refute it at one input. -/
def wordShufflesWrong : ChangeSpec := { name := "wordShuffles", fn := fun _ => fun
  | [d1, d2] => { results := [.lit (.bool false)], args := [d1, d2] }
  | _ => none }
def WordShufflesWrongFalsely : Prop := wordShufflesRow.holds Try.pinned (OpenSpec.ofChange wordShufflesWrong)

/-- 'overseerlaw02.WordIsShuffle': WHATEVER THE INPUT: true; the input reads as it did. -/
def wordIsShuffleSpec : ChangeSpec := { name := "wordIsShuffle", fn := fun _ => fun
  | [d1, d2, d3] => { results := [.lit (.bool true)], args := [d1, d2, d3] }
  | _ => none }
def wordIsShuffleRow : OpenClaim := { program := "ytcbhencebflgcaa", sum := "a582e648c92ed406ff66f7d664c2c7bcb3a756d60deaef89dddd203401a86f78", func := "overseer/overseerlaw02.WordIsShuffle", spec := "wordIsShuffle", unfollowed := true, recurses := true, apart := false }
def WordIsShuffleSaid : Prop := wordIsShuffleRow.holds Try.pinned (OpenSpec.ofChange wordIsShuffleSpec)

/-- ITS FALSE NEIGHBOUR: 'it returns false'. Refute it at one input. -/
def wordIsShuffleWrong : ChangeSpec := { name := "wordIsShuffle", fn := fun _ => fun
  | [d1, d2, d3] => { results := [.lit (.bool false)], args := [d1, d2, d3] }
  | _ => none }
def WordIsShuffleWrongFalsely : Prop := wordIsShuffleRow.holds Try.pinned (OpenSpec.ofChange wordIsShuffleWrong)

/-- 'overseerlaw02.WordParses': WHATEVER THE INPUT: true; the input reads as it did. -/
def wordParsesSpec : ChangeSpec := { name := "wordParses", fn := fun _ => fun
  | [d1, d2] => { results := [.lit (.bool true)], args := [d1, d2] }
  | _ => none }
def wordParsesRow : OpenClaim := { program := "ytcbhencebflgcaa", sum := "a582e648c92ed406ff66f7d664c2c7bcb3a756d60deaef89dddd203401a86f78", func := "overseer/overseerlaw02.WordParses", spec := "wordParses", inPlace := ["internal/bytealg.IndexByteString", "internal/bytealg.IndexString"], unfollowed := true, recurses := true, named := ["internal/bytealg.MaxLen"], apart := false }
def WordParsesSaid : Prop := wordParsesRow.holds Try.pinned (OpenSpec.ofChange wordParsesSpec)

/-- ITS FALSE NEIGHBOUR: 'it returns false'. Refute it at one input. -/
def wordParsesWrong : ChangeSpec := { name := "wordParses", fn := fun _ => fun
  | [d1, d2] => { results := [.lit (.bool false)], args := [d1, d2] }
  | _ => none }
def WordParsesWrongFalsely : Prop := wordParsesRow.holds Try.pinned (OpenSpec.ofChange wordParsesWrong)

/-- 'overseerlaw02.WordTexts': WHATEVER THE INPUT: true; the input reads as it did. -/
def wordTextsSpec : ChangeSpec := { name := "wordTexts", fn := fun _ => fun
  | [d1, d2] => { results := [.lit (.bool true)], args := [d1, d2] }
  | _ => none }
def wordTextsRow : OpenClaim := { program := "ytcbhencebflgcaa", sum := "a582e648c92ed406ff66f7d664c2c7bcb3a756d60deaef89dddd203401a86f78", func := "overseer/overseerlaw02.WordTexts", spec := "wordTexts", inPlace := ["internal/abi.NoEscape", "internal/bytealg.MakeNoZero", "internal/bytealg.IndexByteString", "internal/bytealg.IndexString"], unfollowed := true, recurses := true, named := ["internal/bytealg.MaxLen"], apart := false }
def WordTextsSaid : Prop := wordTextsRow.holds Try.pinned (OpenSpec.ofChange wordTextsSpec)

/-- ITS FALSE NEIGHBOUR: 'it returns false'. Refute it at one input. -/
def wordTextsWrong : ChangeSpec := { name := "wordTexts", fn := fun _ => fun
  | [d1, d2] => { results := [.lit (.bool false)], args := [d1, d2] }
  | _ => none }
def WordTextsWrongFalsely : Prop := wordTextsRow.holds Try.pinned (OpenSpec.ofChange wordTextsWrong)

/- THE SECOND FORM. 'bulk': how many values and letters a reading holds, each counted each time it is reached (what is shared counts as often as it is met; a slice's spare places count too). A statement '..UptoSaid' is the law's where the arguments, and the package variables that the reading takes, are together of bulk at most 1048576: NARROWER than '..Said'. Prove '..Said' where nothing that the law and all that it calls make is longer than what came in: it says more and counts as full. Else prove '..UptoSaid'. A law counts once. -/
mutual
def uptoBulk {H : Type} : DataW H → Nat
  | .lit (.string bytes) => bytes.length + 1
  | .lit _ => 1
  | .nil => 1
  | .ptr d => uptoBulk d + 1
  | .slice elems spare => uptoBulkAll elems + uptoBulkAll spare + 1
  | .agg parts => uptoBulkAll parts + 1
  | .iface _ d => uptoBulk d + 1
  | .map entries => uptoBulkEntries entries + 1
  | .held _ => 1
def uptoBulkAll {H : Type} : List (DataW H) → Nat
  | [] => 0
  | d :: r => uptoBulk d + uptoBulkAll r
def uptoBulkEntries {H : Type} : List (Lit × DataW H) → Nat
  | [] => 0
  | x :: r => uptoBulkEntry x + uptoBulkEntries r
def uptoBulkEntry {H : Type} : Lit × DataW H → Nat
  | (.string bytes, d) => bytes.length + uptoBulk d + 1
  | (_, d) => uptoBulk d + 1
 end
def uptoSmall : (H : Type) → List (DataW H) → Bool := fun _ ds => decide (uptoBulkAll ds ≤ 1048576)
def OpenSpec.upto (s : _root_.Go.ChangeSpec) : _root_.Go.OpenSpec := { _root_.Go.OpenSpec.ofChange s with cond := some uptoSmall }

/-- 'overseerlaw02.WordChecks', WHERE WHAT IT READS IS OF BULK AT MOST 1048576: true; the input reads as it did. -/
def wordChecksUptoRow : OpenClaim := { program := "ytcbhencebflgcaa", sum := "a582e648c92ed406ff66f7d664c2c7bcb3a756d60deaef89dddd203401a86f78", func := "overseer/overseerlaw02.WordChecks", spec := "wordChecks", unfollowed := true, recurses := true, apart := false, narrowed := true }
def WordChecksUptoSaid : Prop := wordChecksUptoRow.holds Try.pinned (OpenSpec.upto wordChecksSpec)

/-- 'overseerlaw02.WordProjects', WHERE WHAT IT READS IS OF BULK AT MOST 1048576: true; the input reads as it did. -/
def wordProjectsUptoRow : OpenClaim := { program := "ytcbhencebflgcaa", sum := "a582e648c92ed406ff66f7d664c2c7bcb3a756d60deaef89dddd203401a86f78", func := "overseer/overseerlaw02.WordProjects", spec := "wordProjects", unfollowed := true, recurses := true, apart := false, narrowed := true }
def WordProjectsUptoSaid : Prop := wordProjectsUptoRow.holds Try.pinned (OpenSpec.upto wordProjectsSpec)

/-- 'overseerlaw02.WordMatches', WHERE WHAT IT READS IS OF BULK AT MOST 1048576: true; the input reads as it did. -/
def wordMatchesUptoRow : OpenClaim := { program := "ytcbhencebflgcaa", sum := "a582e648c92ed406ff66f7d664c2c7bcb3a756d60deaef89dddd203401a86f78", func := "overseer/overseerlaw02.WordMatches", spec := "wordMatches", unfollowed := true, recurses := true, apart := false, narrowed := true }
def WordMatchesUptoSaid : Prop := wordMatchesUptoRow.holds Try.pinned (OpenSpec.upto wordMatchesSpec)

/-- 'overseerlaw02.WordRefuses', WHERE WHAT IT READS IS OF BULK AT MOST 1048576: true; the input reads as it did. -/
def wordRefusesUptoRow : OpenClaim := { program := "ytcbhencebflgcaa", sum := "a582e648c92ed406ff66f7d664c2c7bcb3a756d60deaef89dddd203401a86f78", func := "overseer/overseerlaw02.WordRefuses", spec := "wordRefuses", unfollowed := true, recurses := true, apart := false, narrowed := true }
def WordRefusesUptoSaid : Prop := wordRefusesUptoRow.holds Try.pinned (OpenSpec.upto wordRefusesSpec)

/-- 'overseerlaw02.WordCompares', WHERE WHAT IT READS IS OF BULK AT MOST 1048576: true; the input reads as it did. -/
def wordComparesUptoRow : OpenClaim := { program := "ytcbhencebflgcaa", sum := "a582e648c92ed406ff66f7d664c2c7bcb3a756d60deaef89dddd203401a86f78", func := "overseer/overseerlaw02.WordCompares", spec := "wordCompares", unfollowed := true, recurses := true, apart := false, narrowed := true }
def WordComparesUptoSaid : Prop := wordComparesUptoRow.holds Try.pinned (OpenSpec.upto wordComparesSpec)

/-- 'overseerlaw02.WordConcats', WHERE WHAT IT READS IS OF BULK AT MOST 1048576: true; the input reads as it did. -/
def wordConcatsUptoRow : OpenClaim := { program := "ytcbhencebflgcaa", sum := "a582e648c92ed406ff66f7d664c2c7bcb3a756d60deaef89dddd203401a86f78", func := "overseer/overseerlaw02.WordConcats", spec := "wordConcats", unfollowed := true, recurses := true, apart := false, narrowed := true }
def WordConcatsUptoSaid : Prop := wordConcatsUptoRow.holds Try.pinned (OpenSpec.upto wordConcatsSpec)

/-- 'overseerlaw02.WordPrefixes', WHERE WHAT IT READS IS OF BULK AT MOST 1048576: true; the input reads as it did. -/
def wordPrefixesUptoRow : OpenClaim := { program := "ytcbhencebflgcaa", sum := "a582e648c92ed406ff66f7d664c2c7bcb3a756d60deaef89dddd203401a86f78", func := "overseer/overseerlaw02.WordPrefixes", spec := "wordPrefixes", unfollowed := true, recurses := true, apart := false, narrowed := true }
def WordPrefixesUptoSaid : Prop := wordPrefixesUptoRow.holds Try.pinned (OpenSpec.upto wordPrefixesSpec)

/-- 'overseerlaw02.WordShuffles', WHERE WHAT IT READS IS OF BULK AT MOST 1048576: true; the input reads as it did. -/
def wordShufflesUptoRow : OpenClaim := { program := "ytcbhencebflgcaa", sum := "a582e648c92ed406ff66f7d664c2c7bcb3a756d60deaef89dddd203401a86f78", func := "overseer/overseerlaw02.WordShuffles", spec := "wordShuffles", unfollowed := true, recurses := true, apart := false, narrowed := true }
def WordShufflesUptoSaid : Prop := wordShufflesUptoRow.holds Try.pinned (OpenSpec.upto wordShufflesSpec)

/-- 'overseerlaw02.WordIsShuffle', WHERE WHAT IT READS IS OF BULK AT MOST 1048576: true; the input reads as it did. -/
def wordIsShuffleUptoRow : OpenClaim := { program := "ytcbhencebflgcaa", sum := "a582e648c92ed406ff66f7d664c2c7bcb3a756d60deaef89dddd203401a86f78", func := "overseer/overseerlaw02.WordIsShuffle", spec := "wordIsShuffle", unfollowed := true, recurses := true, apart := false, narrowed := true }
def WordIsShuffleUptoSaid : Prop := wordIsShuffleUptoRow.holds Try.pinned (OpenSpec.upto wordIsShuffleSpec)

/-- 'overseerlaw02.WordParses', WHERE WHAT IT READS IS OF BULK AT MOST 1048576: true; the input reads as it did. -/
def wordParsesUptoRow : OpenClaim := { program := "ytcbhencebflgcaa", sum := "a582e648c92ed406ff66f7d664c2c7bcb3a756d60deaef89dddd203401a86f78", func := "overseer/overseerlaw02.WordParses", spec := "wordParses", inPlace := ["internal/bytealg.IndexByteString", "internal/bytealg.IndexString"], unfollowed := true, recurses := true, named := ["internal/bytealg.MaxLen"], apart := false, narrowed := true }
def WordParsesUptoSaid : Prop := wordParsesUptoRow.holds Try.pinned (OpenSpec.upto wordParsesSpec)

/-- 'overseerlaw02.WordTexts', WHERE WHAT IT READS IS OF BULK AT MOST 1048576: true; the input reads as it did. -/
def wordTextsUptoRow : OpenClaim := { program := "ytcbhencebflgcaa", sum := "a582e648c92ed406ff66f7d664c2c7bcb3a756d60deaef89dddd203401a86f78", func := "overseer/overseerlaw02.WordTexts", spec := "wordTexts", inPlace := ["internal/abi.NoEscape", "internal/bytealg.MakeNoZero", "internal/bytealg.IndexByteString", "internal/bytealg.IndexString"], unfollowed := true, recurses := true, named := ["internal/bytealg.MaxLen"], apart := false, narrowed := true }
def WordTextsUptoSaid : Prop := wordTextsUptoRow.holds Try.pinned (OpenSpec.upto wordTextsSpec)

end Rows
end Go.Proofs.Ytcbhencebflgcaa
