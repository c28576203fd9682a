/-
  No cell of these rows narrows 'for every input' (looked for: loops, veiled, ifaces, maps, wideKeys, modest, calm, conditions, laid).
  DERIVED. THE GIVEN ROWS OF THIS SEAT. 10 by the template 'for every input the law returns true; each argument reads behind the call as it read before'; 0 by the template 'total and deterministic' (their statements: YtcfaammnkbkfcaaTotals.lean).
  GIVEN WITH THE SEED: the statements are not yours to turn. If you find one false, say at which input.
  Laid BY PROGRAM, IN A SANDBOX (cutbox-rows.mjs): the forced cells as the released guide's own fill.sh prints them over the translation 9cd8b697683c0f08… (all of the seat's roots in one cut). By AI agents, Wed Nov 11 2026. No macro, syntax, notation, axiom, sorry.
-/
import Derived.Test.YtcfaammnkbkfcaaChecked
import GoSem.Claim
import GoSem.ClaimJoined
import GoSem.ClaimMapViews
import Derived.JoinedTies
import Derived.KernelRfl
namespace Go.Proofs.Ytcfaammnkbkfcaa
/- THE CELL 'sum', in the pinned program and in every row, IS THE sha256 OF THE DUMP (.gsa) THAT YtcfaammnkbkfcaaProg.lean LOADS. Nothing in Lean hashes anything: it is a label: what it is worth is what the hold of that sum in a sandbox is worth. -/
noncomputable def Try.pinned : Pinned := { name := "ytcfaammnkbkfcaa", sum := "9cd8b697683c0f0815035fce96d1ae6de753134dca2db3f265ecd004c16623cb", checked := Try.checked }
namespace Rows
def none {H : Type} : Left H := { results := [], args := [] }

/-- 'laws.FnExactAverageOf': WHATEVER THE INPUT: true; the input reads as it did. -/
def fnExactAverageOfSpec : ChangeSpec := { name := "fnExactAverageOf", fn := fun _ => fun
  | [d1, d2] => { results := [.lit (.bool true)], args := [d1, d2] }
  | _ => none }
def fnExactAverageOfRow : OpenClaim := { program := "ytcfaammnkbkfcaa", sum := "9cd8b697683c0f0815035fce96d1ae6de753134dca2db3f265ecd004c16623cb", func := "loop.example/g01242/laws.FnExactAverageOf", spec := "fnExactAverageOf", unfollowed := true, recurses := true, plainKeys := false, apart := false }
def FnExactAverageOfSaid : Prop := fnExactAverageOfRow.holds Try.pinned (OpenSpec.ofChange fnExactAverageOfSpec)

/-- ITS FALSE NEIGHBOUR: 'it returns false'. Refute it at one input. -/
def fnExactAverageOfWrong : ChangeSpec := { name := "fnExactAverageOf", fn := fun _ => fun
  | [d1, d2] => { results := [.lit (.bool false)], args := [d1, d2] }
  | _ => none }
def FnExactAverageOfWrongFalsely : Prop := fnExactAverageOfRow.holds Try.pinned (OpenSpec.ofChange fnExactAverageOfWrong)

/-- 'laws.FnExactPathOf': WHATEVER THE INPUT: true; the input reads as it did. -/
def fnExactPathOfSpec : ChangeSpec := { name := "fnExactPathOf", fn := fun _ => fun
  | [d] => { results := [.lit (.bool true)], args := [d] }
  | _ => none }
def fnExactPathOfRow : OpenClaim := { program := "ytcfaammnkbkfcaa", sum := "9cd8b697683c0f0815035fce96d1ae6de753134dca2db3f265ecd004c16623cb", func := "loop.example/g01242/laws.FnExactPathOf", spec := "fnExactPathOf", inPlace := ["internal/abi.NoEscape", "internal/bytealg.MakeNoZero"], plainKeys := false, apart := false }
def FnExactPathOfSaid : Prop := fnExactPathOfRow.holds Try.pinned (OpenSpec.ofChange fnExactPathOfSpec)

/-- ITS FALSE NEIGHBOUR: 'it returns false'. Refute it at one input. -/
def fnExactPathOfWrong : ChangeSpec := { name := "fnExactPathOf", fn := fun _ => fun
  | [d] => { results := [.lit (.bool false)], args := [d] }
  | _ => none }
def FnExactPathOfWrongFalsely : Prop := fnExactPathOfRow.holds Try.pinned (OpenSpec.ofChange fnExactPathOfWrong)

/-- 'laws.FnExactPairTerms': WHATEVER THE INPUT: true; the input reads as it did. -/
def fnExactPairTermsSpec : ChangeSpec := { name := "fnExactPairTerms", fn := fun _ => fun
  | [d1, d2] => { results := [.lit (.bool true)], args := [d1, d2] }
  | _ => none }
def fnExactPairTermsRow : OpenClaim := { program := "ytcfaammnkbkfcaa", sum := "9cd8b697683c0f0815035fce96d1ae6de753134dca2db3f265ecd004c16623cb", func := "loop.example/g01242/laws.FnExactPairTerms", spec := "fnExactPairTerms", plainKeys := false, apart := false }
def FnExactPairTermsSaid : Prop := fnExactPairTermsRow.holds Try.pinned (OpenSpec.ofChange fnExactPairTermsSpec)

/-- ITS FALSE NEIGHBOUR: 'it returns false'. Refute it at one input. -/
def fnExactPairTermsWrong : ChangeSpec := { name := "fnExactPairTerms", fn := fun _ => fun
  | [d1, d2] => { results := [.lit (.bool false)], args := [d1, d2] }
  | _ => none }
def FnExactPairTermsWrongFalsely : Prop := fnExactPairTermsRow.holds Try.pinned (OpenSpec.ofChange fnExactPairTermsWrong)

/-- 'laws.FnExactPairMoves': WHATEVER THE INPUT: true; the input reads as it did. -/
def fnExactPairMovesSpec : ChangeSpec := { name := "fnExactPairMoves", fn := fun _ => fun
  | [d1, d2] => { results := [.lit (.bool true)], args := [d1, d2] }
  | _ => none }
def fnExactPairMovesRow : OpenClaim := { program := "ytcfaammnkbkfcaa", sum := "9cd8b697683c0f0815035fce96d1ae6de753134dca2db3f265ecd004c16623cb", func := "loop.example/g01242/laws.FnExactPairMoves", spec := "fnExactPairMoves", plainKeys := false, apart := false }
def FnExactPairMovesSaid : Prop := fnExactPairMovesRow.holds Try.pinned (OpenSpec.ofChange fnExactPairMovesSpec)

/-- ITS FALSE NEIGHBOUR: 'it returns false'. Refute it at one input. -/
def fnExactPairMovesWrong : ChangeSpec := { name := "fnExactPairMoves", fn := fun _ => fun
  | [d1, d2] => { results := [.lit (.bool false)], args := [d1, d2] }
  | _ => none }
def FnExactPairMovesWrongFalsely : Prop := fnExactPairMovesRow.holds Try.pinned (OpenSpec.ofChange fnExactPairMovesWrong)

/-- 'laws.FnPairs': WHATEVER THE INPUT: true; the input reads as it did. -/
def fnPairsSpec : ChangeSpec := { name := "fnPairs", fn := fun _ => fun
  | [d1, d2] => { results := [.lit (.bool true)], args := [d1, d2] }
  | _ => none }
def fnPairsRow : OpenClaim := { program := "ytcfaammnkbkfcaa", sum := "9cd8b697683c0f0815035fce96d1ae6de753134dca2db3f265ecd004c16623cb", func := "loop.example/g01242/laws.FnPairs", spec := "fnPairs", plainKeys := false, apart := false }
def FnPairsSaid : Prop := fnPairsRow.holds Try.pinned (OpenSpec.ofChange fnPairsSpec)

/-- ITS FALSE NEIGHBOUR: 'it returns false'. Refute it at one input. -/
def fnPairsWrong : ChangeSpec := { name := "fnPairs", fn := fun _ => fun
  | [d1, d2] => { results := [.lit (.bool false)], args := [d1, d2] }
  | _ => none }
def FnPairsWrongFalsely : Prop := fnPairsRow.holds Try.pinned (OpenSpec.ofChange fnPairsWrong)

/-- 'laws.FnAverages': WHATEVER THE INPUT: true; the input reads as it did. -/
def fnAveragesSpec : ChangeSpec := { name := "fnAverages", fn := fun _ => fun
  | [d1, d2] => { results := [.lit (.bool true)], args := [d1, d2] }
  | _ => none }
def fnAveragesRow : OpenClaim := { program := "ytcfaammnkbkfcaa", sum := "9cd8b697683c0f0815035fce96d1ae6de753134dca2db3f265ecd004c16623cb", func := "loop.example/g01242/laws.FnAverages", spec := "fnAverages", unfollowed := true, recurses := true, plainKeys := false, apart := false }
def FnAveragesSaid : Prop := fnAveragesRow.holds Try.pinned (OpenSpec.ofChange fnAveragesSpec)

/-- ITS FALSE NEIGHBOUR: 'it returns false'. Refute it at one input. -/
def fnAveragesWrong : ChangeSpec := { name := "fnAverages", fn := fun _ => fun
  | [d1, d2] => { results := [.lit (.bool false)], args := [d1, d2] }
  | _ => none }
def FnAveragesWrongFalsely : Prop := fnAveragesRow.holds Try.pinned (OpenSpec.ofChange fnAveragesWrong)

/-- 'laws.FnStreams': WHATEVER THE INPUT: true; the input reads as it did. -/
def fnStreamsSpec : ChangeSpec := { name := "fnStreams", fn := fun _ => fun
  | [d1, d2] => { results := [.lit (.bool true)], args := [d1, d2] }
  | _ => none }
def fnStreamsRow : OpenClaim := { program := "ytcfaammnkbkfcaa", sum := "9cd8b697683c0f0815035fce96d1ae6de753134dca2db3f265ecd004c16623cb", func := "loop.example/g01242/laws.FnStreams", spec := "fnStreams", inPlace := ["internal/bytealg.IndexByteString", "internal/bytealg.IndexString"], unfollowed := true, recurses := true, named := ["internal/bytealg.MaxLen"], plainKeys := false, apart := false }
def FnStreamsSaid : Prop := fnStreamsRow.holds Try.pinned (OpenSpec.ofChange fnStreamsSpec)

/-- ITS FALSE NEIGHBOUR: 'it returns false'. Refute it at one input. -/
def fnStreamsWrong : ChangeSpec := { name := "fnStreams", fn := fun _ => fun
  | [d1, d2] => { results := [.lit (.bool false)], args := [d1, d2] }
  | _ => none }
def FnStreamsWrongFalsely : Prop := fnStreamsRow.holds Try.pinned (OpenSpec.ofChange fnStreamsWrong)

/-- 'laws.FnExactEightTerms': WHATEVER THE INPUT: true; the input reads as it did. -/
def fnExactEightTermsSpec : ChangeSpec := { name := "fnExactEightTerms", fn := fun _ => fun
  | [d1, d2, d3] => { results := [.lit (.bool true)], args := [d1, d2, d3] }
  | _ => none }
def fnExactEightTermsRow : OpenClaim := { program := "ytcfaammnkbkfcaa", sum := "9cd8b697683c0f0815035fce96d1ae6de753134dca2db3f265ecd004c16623cb", func := "loop.example/g01242/laws.FnExactEightTerms", spec := "fnExactEightTerms", plainKeys := false, apart := false }
def FnExactEightTermsSaid : Prop := fnExactEightTermsRow.holds Try.pinned (OpenSpec.ofChange fnExactEightTermsSpec)

/-- ITS FALSE NEIGHBOUR: 'it returns false'. Refute it at one input. -/
def fnExactEightTermsWrong : ChangeSpec := { name := "fnExactEightTerms", fn := fun _ => fun
  | [d1, d2, d3] => { results := [.lit (.bool false)], args := [d1, d2, d3] }
  | _ => none }
def FnExactEightTermsWrongFalsely : Prop := fnExactEightTermsRow.holds Try.pinned (OpenSpec.ofChange fnExactEightTermsWrong)

/-- 'laws.FnExactEightMoves': WHATEVER THE INPUT: true; the input reads as it did. -/
def fnExactEightMovesSpec : ChangeSpec := { name := "fnExactEightMoves", fn := fun _ => fun
  | [d1, d2, d3] => { results := [.lit (.bool true)], args := [d1, d2, d3] }
  | _ => none }
def fnExactEightMovesRow : OpenClaim := { program := "ytcfaammnkbkfcaa", sum := "9cd8b697683c0f0815035fce96d1ae6de753134dca2db3f265ecd004c16623cb", func := "loop.example/g01242/laws.FnExactEightMoves", spec := "fnExactEightMoves", plainKeys := false, apart := false }
def FnExactEightMovesSaid : Prop := fnExactEightMovesRow.holds Try.pinned (OpenSpec.ofChange fnExactEightMovesSpec)

/-- ITS FALSE NEIGHBOUR: 'it returns false'. Refute it at one input. -/
def fnExactEightMovesWrong : ChangeSpec := { name := "fnExactEightMoves", fn := fun _ => fun
  | [d1, d2, d3] => { results := [.lit (.bool false)], args := [d1, d2, d3] }
  | _ => none }
def FnExactEightMovesWrongFalsely : Prop := fnExactEightMovesRow.holds Try.pinned (OpenSpec.ofChange fnExactEightMovesWrong)

/-- 'laws.FnEights': WHATEVER THE INPUT: true; the input reads as it did. -/
def fnEightsSpec : ChangeSpec := { name := "fnEights", fn := fun _ => fun
  | [d1, d2] => { results := [.lit (.bool true)], args := [d1, d2] }
  | _ => none }
def fnEightsRow : OpenClaim := { program := "ytcfaammnkbkfcaa", sum := "9cd8b697683c0f0815035fce96d1ae6de753134dca2db3f265ecd004c16623cb", func := "loop.example/g01242/laws.FnEights", spec := "fnEights", plainKeys := false, apart := false }
def FnEightsSaid : Prop := fnEightsRow.holds Try.pinned (OpenSpec.ofChange fnEightsSpec)

/-- ITS FALSE NEIGHBOUR: 'it returns false'. Refute it at one input. -/
def fnEightsWrong : ChangeSpec := { name := "fnEights", fn := fun _ => fun
  | [d1, d2] => { results := [.lit (.bool false)], args := [d1, d2] }
  | _ => none }
def FnEightsWrongFalsely : Prop := fnEightsRow.holds Try.pinned (OpenSpec.ofChange fnEightsWrong)

/- THE SECOND FORM. 'bulk': how many values and letters a reading holds, each counted each time it is reached (what is shared counts as often as it is met; a slice's spare places count too). A statement '..UptoSaid' is the law's where the arguments, and the package variables that the reading takes, are together of bulk at most 1048576: NARROWER than '..Said'. Prove '..Said' where nothing that the law and all that it calls make is longer than what came in: it says more and counts as full. Else prove '..UptoSaid'. A law counts once. -/
mutual
def uptoBulk {H : Type} : DataW H → Nat
  | .lit (.string bytes) => bytes.length + 1
  | .lit _ => 1
  | .nil => 1
  | .ptr d => uptoBulk d + 1
  | .slice elems spare => uptoBulkAll elems + uptoBulkAll spare + 1
  | .agg parts => uptoBulkAll parts + 1
  | .iface _ d => uptoBulk d + 1
  | .map entries => uptoBulkEntries entries + 1
  | .held _ => 1
def uptoBulkAll {H : Type} : List (DataW H) → Nat
  | [] => 0
  | d :: r => uptoBulk d + uptoBulkAll r
def uptoBulkEntries {H : Type} : List (Lit × DataW H) → Nat
  | [] => 0
  | x :: r => uptoBulkEntry x + uptoBulkEntries r
def uptoBulkEntry {H : Type} : Lit × DataW H → Nat
  | (.string bytes, d) => bytes.length + uptoBulk d + 1
  | (_, d) => uptoBulk d + 1
 end
def uptoSmall : (H : Type) → List (DataW H) → Bool := fun _ ds => decide (uptoBulkAll ds ≤ 1048576)
def OpenSpec.upto (s : _root_.Go.ChangeSpec) : _root_.Go.OpenSpec := { _root_.Go.OpenSpec.ofChange s with cond := some uptoSmall }

/-- 'laws.FnExactAverageOf', WHERE WHAT IT READS IS OF BULK AT MOST 1048576: true; the input reads as it did. -/
def fnExactAverageOfUptoRow : OpenClaim := { program := "ytcfaammnkbkfcaa", sum := "9cd8b697683c0f0815035fce96d1ae6de753134dca2db3f265ecd004c16623cb", func := "loop.example/g01242/laws.FnExactAverageOf", spec := "fnExactAverageOf", unfollowed := true, recurses := true, plainKeys := false, apart := false, narrowed := true }
def FnExactAverageOfUptoSaid : Prop := fnExactAverageOfUptoRow.holds Try.pinned (OpenSpec.upto fnExactAverageOfSpec)

/-- 'laws.FnExactPathOf', WHERE WHAT IT READS IS OF BULK AT MOST 1048576: true; the input reads as it did. -/
def fnExactPathOfUptoRow : OpenClaim := { program := "ytcfaammnkbkfcaa", sum := "9cd8b697683c0f0815035fce96d1ae6de753134dca2db3f265ecd004c16623cb", func := "loop.example/g01242/laws.FnExactPathOf", spec := "fnExactPathOf", inPlace := ["internal/abi.NoEscape", "internal/bytealg.MakeNoZero"], plainKeys := false, apart := false, narrowed := true }
def FnExactPathOfUptoSaid : Prop := fnExactPathOfUptoRow.holds Try.pinned (OpenSpec.upto fnExactPathOfSpec)

/-- 'laws.FnExactPairTerms', WHERE WHAT IT READS IS OF BULK AT MOST 1048576: true; the input reads as it did. -/
def fnExactPairTermsUptoRow : OpenClaim := { program := "ytcfaammnkbkfcaa", sum := "9cd8b697683c0f0815035fce96d1ae6de753134dca2db3f265ecd004c16623cb", func := "loop.example/g01242/laws.FnExactPairTerms", spec := "fnExactPairTerms", plainKeys := false, apart := false, narrowed := true }
def FnExactPairTermsUptoSaid : Prop := fnExactPairTermsUptoRow.holds Try.pinned (OpenSpec.upto fnExactPairTermsSpec)

/-- 'laws.FnExactPairMoves', WHERE WHAT IT READS IS OF BULK AT MOST 1048576: true; the input reads as it did. -/
def fnExactPairMovesUptoRow : OpenClaim := { program := "ytcfaammnkbkfcaa", sum := "9cd8b697683c0f0815035fce96d1ae6de753134dca2db3f265ecd004c16623cb", func := "loop.example/g01242/laws.FnExactPairMoves", spec := "fnExactPairMoves", plainKeys := false, apart := false, narrowed := true }
def FnExactPairMovesUptoSaid : Prop := fnExactPairMovesUptoRow.holds Try.pinned (OpenSpec.upto fnExactPairMovesSpec)

/-- 'laws.FnPairs', WHERE WHAT IT READS IS OF BULK AT MOST 1048576: true; the input reads as it did. -/
def fnPairsUptoRow : OpenClaim := { program := "ytcfaammnkbkfcaa", sum := "9cd8b697683c0f0815035fce96d1ae6de753134dca2db3f265ecd004c16623cb", func := "loop.example/g01242/laws.FnPairs", spec := "fnPairs", plainKeys := false, apart := false, narrowed := true }
def FnPairsUptoSaid : Prop := fnPairsUptoRow.holds Try.pinned (OpenSpec.upto fnPairsSpec)

/-- 'laws.FnAverages', WHERE WHAT IT READS IS OF BULK AT MOST 1048576: true; the input reads as it did. -/
def fnAveragesUptoRow : OpenClaim := { program := "ytcfaammnkbkfcaa", sum := "9cd8b697683c0f0815035fce96d1ae6de753134dca2db3f265ecd004c16623cb", func := "loop.example/g01242/laws.FnAverages", spec := "fnAverages", unfollowed := true, recurses := true, plainKeys := false, apart := false, narrowed := true }
def FnAveragesUptoSaid : Prop := fnAveragesUptoRow.holds Try.pinned (OpenSpec.upto fnAveragesSpec)

/-- 'laws.FnStreams', WHERE WHAT IT READS IS OF BULK AT MOST 1048576: true; the input reads as it did. -/
def fnStreamsUptoRow : OpenClaim := { program := "ytcfaammnkbkfcaa", sum := "9cd8b697683c0f0815035fce96d1ae6de753134dca2db3f265ecd004c16623cb", func := "loop.example/g01242/laws.FnStreams", spec := "fnStreams", inPlace := ["internal/bytealg.IndexByteString", "internal/bytealg.IndexString"], unfollowed := true, recurses := true, named := ["internal/bytealg.MaxLen"], plainKeys := false, apart := false, narrowed := true }
def FnStreamsUptoSaid : Prop := fnStreamsUptoRow.holds Try.pinned (OpenSpec.upto fnStreamsSpec)

/-- 'laws.FnExactEightTerms', WHERE WHAT IT READS IS OF BULK AT MOST 1048576: true; the input reads as it did. -/
def fnExactEightTermsUptoRow : OpenClaim := { program := "ytcfaammnkbkfcaa", sum := "9cd8b697683c0f0815035fce96d1ae6de753134dca2db3f265ecd004c16623cb", func := "loop.example/g01242/laws.FnExactEightTerms", spec := "fnExactEightTerms", plainKeys := false, apart := false, narrowed := true }
def FnExactEightTermsUptoSaid : Prop := fnExactEightTermsUptoRow.holds Try.pinned (OpenSpec.upto fnExactEightTermsSpec)

/-- 'laws.FnExactEightMoves', WHERE WHAT IT READS IS OF BULK AT MOST 1048576: true; the input reads as it did. -/
def fnExactEightMovesUptoRow : OpenClaim := { program := "ytcfaammnkbkfcaa", sum := "9cd8b697683c0f0815035fce96d1ae6de753134dca2db3f265ecd004c16623cb", func := "loop.example/g01242/laws.FnExactEightMoves", spec := "fnExactEightMoves", plainKeys := false, apart := false, narrowed := true }
def FnExactEightMovesUptoSaid : Prop := fnExactEightMovesUptoRow.holds Try.pinned (OpenSpec.upto fnExactEightMovesSpec)

/-- 'laws.FnEights', WHERE WHAT IT READS IS OF BULK AT MOST 1048576: true; the input reads as it did. -/
def fnEightsUptoRow : OpenClaim := { program := "ytcfaammnkbkfcaa", sum := "9cd8b697683c0f0815035fce96d1ae6de753134dca2db3f265ecd004c16623cb", func := "loop.example/g01242/laws.FnEights", spec := "fnEights", plainKeys := false, apart := false, narrowed := true }
def FnEightsUptoSaid : Prop := fnEightsUptoRow.holds Try.pinned (OpenSpec.upto fnEightsSpec)

end Rows
end Go.Proofs.Ytcfaammnkbkfcaa
