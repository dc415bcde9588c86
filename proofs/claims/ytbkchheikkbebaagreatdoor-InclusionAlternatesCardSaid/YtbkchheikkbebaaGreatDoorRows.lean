/-
  NARROWER THAN 'FOR EVERY INPUT', by the rows' own cells (each row's printed sentence says how): DisjointCubes: laid · DisjointProbs: laid · DisjointStates: laid · DisjointBefore: laid · InclusionBounds: laid · InclusionAlternates: laid · DisjointRange: laid · InclusionSums: laid · InclusionNarrows: laid · InclusionTotals: laid · DisjointTops: laid · DisjointExact: laid · EsaryProducts: laid · EsaryBounds: laid · EsaryLikeliest: laid · EsaryRises: laid · EsaryApart: laid · EsaryEncloses: laid.
  DERIVED. THE GIVEN ROWS OF THIS SEAT. 18 by the template 'for every input the law returns true; each argument reads behind the call as it read before'; 0 by the template 'total and deterministic' (their statements: YtbkchheikkbebaaGreatDoorTotals.lean).
  GIVEN WITH THE SEED: the statements are not yours to turn. If you find one false, say at which input.
  Laid BY PROGRAM, IN A SANDBOX (cutbox-rows.mjs): the forced cells as the released guide's own fill.sh prints them over the translation 7d6102e351132fe3… (all of the seat's roots in one cut). By AI agents, Wed Nov 11 2026. No macro, syntax, notation, axiom, sorry.
-/
import Derived.Test.YtbkchheikkbebaaGreatDoorChecked
import GoSem.PinnedTables
import GoSem.Claim
import GoSem.ClaimJoined
import GoSem.ClaimMapViews
import Derived.JoinedTies
import Derived.KernelRfl
namespace Go.Proofs.YtbkchheikkbebaaGreatDoor
/- THE CELL 'sum', in the pinned program and in every row, IS THE sha256 OF THE DUMP (.gsa) THAT YtbkchheikkbebaaGreatDoorProg.lean LOADS. Nothing in Lean hashes anything: it is a label: what it is worth is what the hold of that sum in a sandbox is worth. -/
noncomputable def Tryz.pinned : Pinned := { name := "ytbkchheikkbebaagreatdoor", sum := "7d6102e351132fe33474d8a418c56bfa5cc277bb85271577f2c29419423777cf", checked := Tryz.checked }
namespace Rows
def none {H : Type} : Left H := { results := [], args := [] }

/- WHAT THE LISTED PACKAGE-LEVEL VARIABLES READ AS WHEN THE CALL BEGINS. Each datum BY PROGRAM (the guide's laid-datum.mjs) off the statement by which the dump's own 'gosem.cut.vars' lays the variable. In a bare row this is a premise. The card (YtbkchheikkbebaaGreatDoorCards.lean) ties it to the program's text. -/
def laid_unicode_utf8_acceptRanges {H : Type} : DataW H := .agg [.agg [.lit (.int .u8 128), .lit (.int .u8 191)], .agg [.lit (.int .u8 160), .lit (.int .u8 191)], .agg [.lit (.int .u8 128), .lit (.int .u8 159)], .agg [.lit (.int .u8 144), .lit (.int .u8 191)], .agg [.lit (.int .u8 128), .lit (.int .u8 143)], .agg [.lit (.int .u8 0), .lit (.int .u8 0)], .agg [.lit (.int .u8 0), .lit (.int .u8 0)], .agg [.lit (.int .u8 0), .lit (.int .u8 0)], .agg [.lit (.int .u8 0), .lit (.int .u8 0)], .agg [.lit (.int .u8 0), .lit (.int .u8 0)], .agg [.lit (.int .u8 0), .lit (.int .u8 0)], .agg [.lit (.int .u8 0), .lit (.int .u8 0)], .agg [.lit (.int .u8 0), .lit (.int .u8 0)], .agg [.lit (.int .u8 0), .lit (.int .u8 0)], .agg [.lit (.int .u8 0), .lit (.int .u8 0)], .agg [.lit (.int .u8 0), .lit (.int .u8 0)]]
/-- One of Go's own tables, pinned by name: the form's constant. -/
def laid_unicode_utf8_first : DataW Unit := Go.Pinned.utf8First

/-- 'faultlinelaw38.DisjointCubes': WHATEVER THE INPUT: true; the input reads as it did. -/
def disjointCubesSpec : ChangeSpec := { name := "disjointCubes", fn := fun _ => fun
  | [d] => { results := [.lit (.bool true)], args := [d] }
  | _ => none }
def disjointCubesRow : OpenClaim := { program := "ytbkchheikkbebaagreatdoor", sum := "7d6102e351132fe33474d8a418c56bfa5cc277bb85271577f2c29419423777cf", func := "faultline/faultlinelaw38.DisjointCubes", spec := "disjointCubes", inPlace := ["internal/abi.NoEscape", "internal/bytealg.IndexByteString", "internal/bytealg.IndexString"], unfollowed := true, recurses := true, named := ["unicode/utf8.first", "unicode/utf8.acceptRanges", "internal/bytealg.MaxLen"], apart := false, laid := [("unicode/utf8.acceptRanges", laid_unicode_utf8_acceptRanges), ("unicode/utf8.first", laid_unicode_utf8_first)] }
def DisjointCubesSaid : Prop := disjointCubesRow.holds Tryz.pinned (OpenSpec.ofChange disjointCubesSpec)

/-- ITS FALSE NEIGHBOUR: 'it returns false'. Refute it at one input. -/
def disjointCubesWrong : ChangeSpec := { name := "disjointCubes", fn := fun _ => fun
  | [d] => { results := [.lit (.bool false)], args := [d] }
  | _ => none }
def DisjointCubesWrongFalsely : Prop := disjointCubesRow.holds Tryz.pinned (OpenSpec.ofChange disjointCubesWrong)

/-- 'faultlinelaw38.DisjointProbs': WHATEVER THE INPUT: true; the input reads as it did. -/
def disjointProbsSpec : ChangeSpec := { name := "disjointProbs", fn := fun _ => fun
  | [d1, d2] => { results := [.lit (.bool true)], args := [d1, d2] }
  | _ => none }
def disjointProbsRow : OpenClaim := { program := "ytbkchheikkbebaagreatdoor", sum := "7d6102e351132fe33474d8a418c56bfa5cc277bb85271577f2c29419423777cf", func := "faultline/faultlinelaw38.DisjointProbs", spec := "disjointProbs", inPlace := ["internal/abi.NoEscape", "internal/bytealg.IndexByteString", "internal/bytealg.IndexString"], unfollowed := true, recurses := true, named := ["unicode/utf8.first", "unicode/utf8.acceptRanges", "internal/bytealg.MaxLen"], apart := false, laid := [("unicode/utf8.acceptRanges", laid_unicode_utf8_acceptRanges), ("unicode/utf8.first", laid_unicode_utf8_first)] }
def DisjointProbsSaid : Prop := disjointProbsRow.holds Tryz.pinned (OpenSpec.ofChange disjointProbsSpec)

/-- ITS FALSE NEIGHBOUR: 'it returns false'. Refute it at one input. -/
def disjointProbsWrong : ChangeSpec := { name := "disjointProbs", fn := fun _ => fun
  | [d1, d2] => { results := [.lit (.bool false)], args := [d1, d2] }
  | _ => none }
def DisjointProbsWrongFalsely : Prop := disjointProbsRow.holds Tryz.pinned (OpenSpec.ofChange disjointProbsWrong)

/-- 'faultlinelaw38.DisjointStates': WHATEVER THE INPUT: true; the input reads as it did. -/
def disjointStatesSpec : ChangeSpec := { name := "disjointStates", fn := fun _ => fun
  | [d1, d2] => { results := [.lit (.bool true)], args := [d1, d2] }
  | _ => none }
def disjointStatesRow : OpenClaim := { program := "ytbkchheikkbebaagreatdoor", sum := "7d6102e351132fe33474d8a418c56bfa5cc277bb85271577f2c29419423777cf", func := "faultline/faultlinelaw38.DisjointStates", spec := "disjointStates", inPlace := ["internal/abi.NoEscape", "internal/bytealg.IndexByteString", "internal/bytealg.IndexString"], unfollowed := true, recurses := true, named := ["unicode/utf8.first", "unicode/utf8.acceptRanges", "internal/bytealg.MaxLen"], apart := false, laid := [("unicode/utf8.acceptRanges", laid_unicode_utf8_acceptRanges), ("unicode/utf8.first", laid_unicode_utf8_first)] }
def DisjointStatesSaid : Prop := disjointStatesRow.holds Tryz.pinned (OpenSpec.ofChange disjointStatesSpec)

/-- ITS FALSE NEIGHBOUR: 'it returns false'. Refute it at one input. -/
def disjointStatesWrong : ChangeSpec := { name := "disjointStates", fn := fun _ => fun
  | [d1, d2] => { results := [.lit (.bool false)], args := [d1, d2] }
  | _ => none }
def DisjointStatesWrongFalsely : Prop := disjointStatesRow.holds Tryz.pinned (OpenSpec.ofChange disjointStatesWrong)

/-- 'faultlinelaw38.DisjointBefore': WHATEVER THE INPUT: true; the input reads as it did. -/
def disjointBeforeSpec : ChangeSpec := { name := "disjointBefore", fn := fun _ => fun
  | [d1, d2] => { results := [.lit (.bool true)], args := [d1, d2] }
  | _ => none }
def disjointBeforeRow : OpenClaim := { program := "ytbkchheikkbebaagreatdoor", sum := "7d6102e351132fe33474d8a418c56bfa5cc277bb85271577f2c29419423777cf", func := "faultline/faultlinelaw38.DisjointBefore", spec := "disjointBefore", inPlace := ["internal/abi.NoEscape", "internal/bytealg.IndexByteString", "internal/bytealg.IndexString"], unfollowed := true, recurses := true, named := ["unicode/utf8.first", "unicode/utf8.acceptRanges", "internal/bytealg.MaxLen"], apart := false, laid := [("unicode/utf8.acceptRanges", laid_unicode_utf8_acceptRanges), ("unicode/utf8.first", laid_unicode_utf8_first)] }
def DisjointBeforeSaid : Prop := disjointBeforeRow.holds Tryz.pinned (OpenSpec.ofChange disjointBeforeSpec)

/-- ITS FALSE NEIGHBOUR: 'it returns false'. Refute it at one input. -/
def disjointBeforeWrong : ChangeSpec := { name := "disjointBefore", fn := fun _ => fun
  | [d1, d2] => { results := [.lit (.bool false)], args := [d1, d2] }
  | _ => none }
def DisjointBeforeWrongFalsely : Prop := disjointBeforeRow.holds Tryz.pinned (OpenSpec.ofChange disjointBeforeWrong)

/-- 'faultlinelaw39.InclusionBounds': WHATEVER THE INPUT: true; the input reads as it did. -/
def inclusionBoundsSpec : ChangeSpec := { name := "inclusionBounds", fn := fun _ => fun
  | [d1, d2, d3] => { results := [.lit (.bool true)], args := [d1, d2, d3] }
  | _ => none }
def inclusionBoundsRow : OpenClaim := { program := "ytbkchheikkbebaagreatdoor", sum := "7d6102e351132fe33474d8a418c56bfa5cc277bb85271577f2c29419423777cf", func := "faultline/faultlinelaw39.InclusionBounds", spec := "inclusionBounds", inPlace := ["internal/abi.NoEscape", "internal/bytealg.IndexByteString", "internal/bytealg.IndexString"], unfollowed := true, recurses := true, named := ["unicode/utf8.first", "unicode/utf8.acceptRanges", "internal/bytealg.MaxLen"], apart := false, laid := [("unicode/utf8.acceptRanges", laid_unicode_utf8_acceptRanges), ("unicode/utf8.first", laid_unicode_utf8_first)] }
def InclusionBoundsSaid : Prop := inclusionBoundsRow.holds Tryz.pinned (OpenSpec.ofChange inclusionBoundsSpec)

/-- ITS FALSE NEIGHBOUR: 'it returns false'. Refute it at one input. -/
def inclusionBoundsWrong : ChangeSpec := { name := "inclusionBounds", fn := fun _ => fun
  | [d1, d2, d3] => { results := [.lit (.bool false)], args := [d1, d2, d3] }
  | _ => none }
def InclusionBoundsWrongFalsely : Prop := inclusionBoundsRow.holds Tryz.pinned (OpenSpec.ofChange inclusionBoundsWrong)

/-- 'faultlinelaw39.InclusionAlternates': WHATEVER THE INPUT: true; the input reads as it did. -/
def inclusionAlternatesSpec : ChangeSpec := { name := "inclusionAlternates", fn := fun _ => fun
  | [d1, d2] => { results := [.lit (.bool true)], args := [d1, d2] }
  | _ => none }
def inclusionAlternatesRow : OpenClaim := { program := "ytbkchheikkbebaagreatdoor", sum := "7d6102e351132fe33474d8a418c56bfa5cc277bb85271577f2c29419423777cf", func := "faultline/faultlinelaw39.InclusionAlternates", spec := "inclusionAlternates", inPlace := ["internal/abi.NoEscape", "internal/bytealg.IndexByteString", "internal/bytealg.IndexString"], unfollowed := true, recurses := true, named := ["unicode/utf8.first", "unicode/utf8.acceptRanges", "internal/bytealg.MaxLen"], apart := false, laid := [("unicode/utf8.acceptRanges", laid_unicode_utf8_acceptRanges), ("unicode/utf8.first", laid_unicode_utf8_first)] }
def InclusionAlternatesSaid : Prop := inclusionAlternatesRow.holds Tryz.pinned (OpenSpec.ofChange inclusionAlternatesSpec)

/-- ITS FALSE NEIGHBOUR: 'it returns false'. Refute it at one input. -/
def inclusionAlternatesWrong : ChangeSpec := { name := "inclusionAlternates", fn := fun _ => fun
  | [d1, d2] => { results := [.lit (.bool false)], args := [d1, d2] }
  | _ => none }
def InclusionAlternatesWrongFalsely : Prop := inclusionAlternatesRow.holds Tryz.pinned (OpenSpec.ofChange inclusionAlternatesWrong)

/-- 'faultlinelaw38.DisjointRange': WHATEVER THE INPUT: true; the input reads as it did. -/
def disjointRangeSpec : ChangeSpec := { name := "disjointRange", fn := fun _ => fun
  | [d1, d2] => { results := [.lit (.bool true)], args := [d1, d2] }
  | _ => none }
def disjointRangeRow : OpenClaim := { program := "ytbkchheikkbebaagreatdoor", sum := "7d6102e351132fe33474d8a418c56bfa5cc277bb85271577f2c29419423777cf", func := "faultline/faultlinelaw38.DisjointRange", spec := "disjointRange", inPlace := ["internal/abi.NoEscape", "internal/bytealg.IndexByteString", "internal/bytealg.IndexString"], unfollowed := true, recurses := true, named := ["unicode/utf8.first", "unicode/utf8.acceptRanges", "internal/bytealg.MaxLen"], apart := false, laid := [("unicode/utf8.acceptRanges", laid_unicode_utf8_acceptRanges), ("unicode/utf8.first", laid_unicode_utf8_first)] }
def DisjointRangeSaid : Prop := disjointRangeRow.holds Tryz.pinned (OpenSpec.ofChange disjointRangeSpec)

/-- ITS FALSE NEIGHBOUR: 'it returns false'. Refute it at one input. -/
def disjointRangeWrong : ChangeSpec := { name := "disjointRange", fn := fun _ => fun
  | [d1, d2] => { results := [.lit (.bool false)], args := [d1, d2] }
  | _ => none }
def DisjointRangeWrongFalsely : Prop := disjointRangeRow.holds Tryz.pinned (OpenSpec.ofChange disjointRangeWrong)

/-- 'faultlinelaw39.InclusionSums': WHATEVER THE INPUT: true; the input reads as it did. -/
def inclusionSumsSpec : ChangeSpec := { name := "inclusionSums", fn := fun _ => fun
  | [d1, d2, d3] => { results := [.lit (.bool true)], args := [d1, d2, d3] }
  | _ => none }
def inclusionSumsRow : OpenClaim := { program := "ytbkchheikkbebaagreatdoor", sum := "7d6102e351132fe33474d8a418c56bfa5cc277bb85271577f2c29419423777cf", func := "faultline/faultlinelaw39.InclusionSums", spec := "inclusionSums", inPlace := ["internal/abi.NoEscape", "internal/bytealg.IndexByteString", "internal/bytealg.IndexString"], unfollowed := true, recurses := true, named := ["unicode/utf8.first", "unicode/utf8.acceptRanges", "internal/bytealg.MaxLen"], apart := false, laid := [("unicode/utf8.acceptRanges", laid_unicode_utf8_acceptRanges), ("unicode/utf8.first", laid_unicode_utf8_first)] }
def InclusionSumsSaid : Prop := inclusionSumsRow.holds Tryz.pinned (OpenSpec.ofChange inclusionSumsSpec)

/-- ITS FALSE NEIGHBOUR: 'it returns false'. Refute it at one input. -/
def inclusionSumsWrong : ChangeSpec := { name := "inclusionSums", fn := fun _ => fun
  | [d1, d2, d3] => { results := [.lit (.bool false)], args := [d1, d2, d3] }
  | _ => none }
def InclusionSumsWrongFalsely : Prop := inclusionSumsRow.holds Tryz.pinned (OpenSpec.ofChange inclusionSumsWrong)

/-- 'faultlinelaw39.InclusionNarrows': WHATEVER THE INPUT: true; the input reads as it did. -/
def inclusionNarrowsSpec : ChangeSpec := { name := "inclusionNarrows", fn := fun _ => fun
  | [d1, d2] => { results := [.lit (.bool true)], args := [d1, d2] }
  | _ => none }
def inclusionNarrowsRow : OpenClaim := { program := "ytbkchheikkbebaagreatdoor", sum := "7d6102e351132fe33474d8a418c56bfa5cc277bb85271577f2c29419423777cf", func := "faultline/faultlinelaw39.InclusionNarrows", spec := "inclusionNarrows", inPlace := ["internal/abi.NoEscape", "internal/bytealg.IndexByteString", "internal/bytealg.IndexString"], unfollowed := true, recurses := true, named := ["unicode/utf8.first", "unicode/utf8.acceptRanges", "internal/bytealg.MaxLen"], apart := false, laid := [("unicode/utf8.acceptRanges", laid_unicode_utf8_acceptRanges), ("unicode/utf8.first", laid_unicode_utf8_first)] }
def InclusionNarrowsSaid : Prop := inclusionNarrowsRow.holds Tryz.pinned (OpenSpec.ofChange inclusionNarrowsSpec)

/-- ITS FALSE NEIGHBOUR: 'it returns false'. Refute it at one input. -/
def inclusionNarrowsWrong : ChangeSpec := { name := "inclusionNarrows", fn := fun _ => fun
  | [d1, d2] => { results := [.lit (.bool false)], args := [d1, d2] }
  | _ => none }
def InclusionNarrowsWrongFalsely : Prop := inclusionNarrowsRow.holds Tryz.pinned (OpenSpec.ofChange inclusionNarrowsWrong)

/-- 'faultlinelaw39.InclusionTotals': WHATEVER THE INPUT: true; the input reads as it did. -/
def inclusionTotalsSpec : ChangeSpec := { name := "inclusionTotals", fn := fun _ => fun
  | [d1, d2] => { results := [.lit (.bool true)], args := [d1, d2] }
  | _ => none }
def inclusionTotalsRow : OpenClaim := { program := "ytbkchheikkbebaagreatdoor", sum := "7d6102e351132fe33474d8a418c56bfa5cc277bb85271577f2c29419423777cf", func := "faultline/faultlinelaw39.InclusionTotals", spec := "inclusionTotals", inPlace := ["internal/abi.NoEscape", "internal/bytealg.IndexByteString", "internal/bytealg.IndexString"], unfollowed := true, recurses := true, named := ["unicode/utf8.first", "unicode/utf8.acceptRanges", "internal/bytealg.MaxLen"], apart := false, laid := [("unicode/utf8.acceptRanges", laid_unicode_utf8_acceptRanges), ("unicode/utf8.first", laid_unicode_utf8_first)] }
def InclusionTotalsSaid : Prop := inclusionTotalsRow.holds Tryz.pinned (OpenSpec.ofChange inclusionTotalsSpec)

/-- ITS FALSE NEIGHBOUR: 'it returns false'. Refute it at one input. -/
def inclusionTotalsWrong : ChangeSpec := { name := "inclusionTotals", fn := fun _ => fun
  | [d1, d2] => { results := [.lit (.bool false)], args := [d1, d2] }
  | _ => none }
def InclusionTotalsWrongFalsely : Prop := inclusionTotalsRow.holds Tryz.pinned (OpenSpec.ofChange inclusionTotalsWrong)

/-- 'faultlinelaw38.DisjointTops': WHATEVER THE INPUT: true; the input reads as it did. -/
def disjointTopsSpec : ChangeSpec := { name := "disjointTops", fn := fun _ => fun
  | [d1, d2] => { results := [.lit (.bool true)], args := [d1, d2] }
  | _ => none }
def disjointTopsRow : OpenClaim := { program := "ytbkchheikkbebaagreatdoor", sum := "7d6102e351132fe33474d8a418c56bfa5cc277bb85271577f2c29419423777cf", func := "faultline/faultlinelaw38.DisjointTops", spec := "disjointTops", inPlace := ["internal/abi.NoEscape", "internal/bytealg.IndexByteString", "internal/bytealg.IndexString"], unfollowed := true, recurses := true, named := ["unicode/utf8.first", "unicode/utf8.acceptRanges", "internal/bytealg.MaxLen"], apart := false, laid := [("unicode/utf8.acceptRanges", laid_unicode_utf8_acceptRanges), ("unicode/utf8.first", laid_unicode_utf8_first)] }
def DisjointTopsSaid : Prop := disjointTopsRow.holds Tryz.pinned (OpenSpec.ofChange disjointTopsSpec)

/-- ITS FALSE NEIGHBOUR: 'it returns false'. Refute it at one input. -/
def disjointTopsWrong : ChangeSpec := { name := "disjointTops", fn := fun _ => fun
  | [d1, d2] => { results := [.lit (.bool false)], args := [d1, d2] }
  | _ => none }
def DisjointTopsWrongFalsely : Prop := disjointTopsRow.holds Tryz.pinned (OpenSpec.ofChange disjointTopsWrong)

/-- 'faultlinelaw38.DisjointExact': WHATEVER THE INPUT: true; the input reads as it did. -/
def disjointExactSpec : ChangeSpec := { name := "disjointExact", fn := fun _ => fun
  | [d1, d2] => { results := [.lit (.bool true)], args := [d1, d2] }
  | _ => none }
def disjointExactRow : OpenClaim := { program := "ytbkchheikkbebaagreatdoor", sum := "7d6102e351132fe33474d8a418c56bfa5cc277bb85271577f2c29419423777cf", func := "faultline/faultlinelaw38.DisjointExact", spec := "disjointExact", inPlace := ["internal/abi.NoEscape", "internal/bytealg.IndexByteString", "internal/bytealg.IndexString"], unfollowed := true, recurses := true, named := ["unicode/utf8.first", "unicode/utf8.acceptRanges", "internal/bytealg.MaxLen"], apart := false, laid := [("unicode/utf8.acceptRanges", laid_unicode_utf8_acceptRanges), ("unicode/utf8.first", laid_unicode_utf8_first)] }
def DisjointExactSaid : Prop := disjointExactRow.holds Tryz.pinned (OpenSpec.ofChange disjointExactSpec)

/-- ITS FALSE NEIGHBOUR: 'it returns false'. Refute it at one input. -/
def disjointExactWrong : ChangeSpec := { name := "disjointExact", fn := fun _ => fun
  | [d1, d2] => { results := [.lit (.bool false)], args := [d1, d2] }
  | _ => none }
def DisjointExactWrongFalsely : Prop := disjointExactRow.holds Tryz.pinned (OpenSpec.ofChange disjointExactWrong)

/-- 'faultlinelaw40.EsaryProducts': WHATEVER THE INPUT: true; the input reads as it did. -/
def esaryProductsSpec : ChangeSpec := { name := "esaryProducts", fn := fun _ => fun
  | [d1, d2] => { results := [.lit (.bool true)], args := [d1, d2] }
  | _ => none }
def esaryProductsRow : OpenClaim := { program := "ytbkchheikkbebaagreatdoor", sum := "7d6102e351132fe33474d8a418c56bfa5cc277bb85271577f2c29419423777cf", func := "faultline/faultlinelaw40.EsaryProducts", spec := "esaryProducts", inPlace := ["internal/abi.NoEscape", "internal/bytealg.IndexByteString", "internal/bytealg.IndexString"], unfollowed := true, recurses := true, named := ["unicode/utf8.first", "unicode/utf8.acceptRanges", "internal/bytealg.MaxLen"], apart := false, laid := [("unicode/utf8.acceptRanges", laid_unicode_utf8_acceptRanges), ("unicode/utf8.first", laid_unicode_utf8_first)] }
def EsaryProductsSaid : Prop := esaryProductsRow.holds Tryz.pinned (OpenSpec.ofChange esaryProductsSpec)

/-- ITS FALSE NEIGHBOUR: 'it returns false'. Refute it at one input. -/
def esaryProductsWrong : ChangeSpec := { name := "esaryProducts", fn := fun _ => fun
  | [d1, d2] => { results := [.lit (.bool false)], args := [d1, d2] }
  | _ => none }
def EsaryProductsWrongFalsely : Prop := esaryProductsRow.holds Tryz.pinned (OpenSpec.ofChange esaryProductsWrong)

/-- 'faultlinelaw40.EsaryBounds': WHATEVER THE INPUT: true; the input reads as it did. -/
def esaryBoundsSpec : ChangeSpec := { name := "esaryBounds", fn := fun _ => fun
  | [d1, d2] => { results := [.lit (.bool true)], args := [d1, d2] }
  | _ => none }
def esaryBoundsRow : OpenClaim := { program := "ytbkchheikkbebaagreatdoor", sum := "7d6102e351132fe33474d8a418c56bfa5cc277bb85271577f2c29419423777cf", func := "faultline/faultlinelaw40.EsaryBounds", spec := "esaryBounds", inPlace := ["internal/abi.NoEscape", "internal/bytealg.IndexByteString", "internal/bytealg.IndexString"], unfollowed := true, recurses := true, named := ["unicode/utf8.first", "unicode/utf8.acceptRanges", "internal/bytealg.MaxLen"], apart := false, laid := [("unicode/utf8.acceptRanges", laid_unicode_utf8_acceptRanges), ("unicode/utf8.first", laid_unicode_utf8_first)] }
def EsaryBoundsSaid : Prop := esaryBoundsRow.holds Tryz.pinned (OpenSpec.ofChange esaryBoundsSpec)

/-- ITS FALSE NEIGHBOUR: 'it returns false'. Refute it at one input. -/
def esaryBoundsWrong : ChangeSpec := { name := "esaryBounds", fn := fun _ => fun
  | [d1, d2] => { results := [.lit (.bool false)], args := [d1, d2] }
  | _ => none }
def EsaryBoundsWrongFalsely : Prop := esaryBoundsRow.holds Tryz.pinned (OpenSpec.ofChange esaryBoundsWrong)

/-- 'faultlinelaw40.EsaryLikeliest': WHATEVER THE INPUT: true; the input reads as it did. -/
def esaryLikeliestSpec : ChangeSpec := { name := "esaryLikeliest", fn := fun _ => fun
  | [d1, d2] => { results := [.lit (.bool true)], args := [d1, d2] }
  | _ => none }
def esaryLikeliestRow : OpenClaim := { program := "ytbkchheikkbebaagreatdoor", sum := "7d6102e351132fe33474d8a418c56bfa5cc277bb85271577f2c29419423777cf", func := "faultline/faultlinelaw40.EsaryLikeliest", spec := "esaryLikeliest", inPlace := ["internal/abi.NoEscape", "internal/bytealg.IndexByteString", "internal/bytealg.IndexString"], unfollowed := true, recurses := true, named := ["unicode/utf8.first", "unicode/utf8.acceptRanges", "internal/bytealg.MaxLen"], apart := false, laid := [("unicode/utf8.acceptRanges", laid_unicode_utf8_acceptRanges), ("unicode/utf8.first", laid_unicode_utf8_first)] }
def EsaryLikeliestSaid : Prop := esaryLikeliestRow.holds Tryz.pinned (OpenSpec.ofChange esaryLikeliestSpec)

/-- ITS FALSE NEIGHBOUR: 'it returns false'. Refute it at one input. -/
def esaryLikeliestWrong : ChangeSpec := { name := "esaryLikeliest", fn := fun _ => fun
  | [d1, d2] => { results := [.lit (.bool false)], args := [d1, d2] }
  | _ => none }
def EsaryLikeliestWrongFalsely : Prop := esaryLikeliestRow.holds Tryz.pinned (OpenSpec.ofChange esaryLikeliestWrong)

/-- 'faultlinelaw40.EsaryRises': WHATEVER THE INPUT: true; the input reads as it did. -/
def esaryRisesSpec : ChangeSpec := { name := "esaryRises", fn := fun _ => fun
  | [d1, d2, d3] => { results := [.lit (.bool true)], args := [d1, d2, d3] }
  | _ => none }
def esaryRisesRow : OpenClaim := { program := "ytbkchheikkbebaagreatdoor", sum := "7d6102e351132fe33474d8a418c56bfa5cc277bb85271577f2c29419423777cf", func := "faultline/faultlinelaw40.EsaryRises", spec := "esaryRises", inPlace := ["internal/abi.NoEscape", "internal/bytealg.IndexByteString", "internal/bytealg.IndexString"], unfollowed := true, recurses := true, named := ["unicode/utf8.first", "unicode/utf8.acceptRanges", "internal/bytealg.MaxLen"], apart := false, laid := [("unicode/utf8.acceptRanges", laid_unicode_utf8_acceptRanges), ("unicode/utf8.first", laid_unicode_utf8_first)] }
def EsaryRisesSaid : Prop := esaryRisesRow.holds Tryz.pinned (OpenSpec.ofChange esaryRisesSpec)

/-- ITS FALSE NEIGHBOUR: 'it returns false'. Refute it at one input. -/
def esaryRisesWrong : ChangeSpec := { name := "esaryRises", fn := fun _ => fun
  | [d1, d2, d3] => { results := [.lit (.bool false)], args := [d1, d2, d3] }
  | _ => none }
def EsaryRisesWrongFalsely : Prop := esaryRisesRow.holds Tryz.pinned (OpenSpec.ofChange esaryRisesWrong)

/-- 'faultlinelaw40.EsaryApart': WHATEVER THE INPUT: true; the input reads as it did. -/
def esaryApartSpec : ChangeSpec := { name := "esaryApart", fn := fun _ => fun
  | [d1, d2] => { results := [.lit (.bool true)], args := [d1, d2] }
  | _ => none }
def esaryApartRow : OpenClaim := { program := "ytbkchheikkbebaagreatdoor", sum := "7d6102e351132fe33474d8a418c56bfa5cc277bb85271577f2c29419423777cf", func := "faultline/faultlinelaw40.EsaryApart", spec := "esaryApart", inPlace := ["internal/abi.NoEscape", "internal/bytealg.IndexByteString", "internal/bytealg.IndexString"], unfollowed := true, recurses := true, named := ["unicode/utf8.first", "unicode/utf8.acceptRanges", "internal/bytealg.MaxLen"], apart := false, laid := [("unicode/utf8.acceptRanges", laid_unicode_utf8_acceptRanges), ("unicode/utf8.first", laid_unicode_utf8_first)] }
def EsaryApartSaid : Prop := esaryApartRow.holds Tryz.pinned (OpenSpec.ofChange esaryApartSpec)

/-- ITS FALSE NEIGHBOUR: 'it returns false'. Refute it at one input. -/
def esaryApartWrong : ChangeSpec := { name := "esaryApart", fn := fun _ => fun
  | [d1, d2] => { results := [.lit (.bool false)], args := [d1, d2] }
  | _ => none }
def EsaryApartWrongFalsely : Prop := esaryApartRow.holds Tryz.pinned (OpenSpec.ofChange esaryApartWrong)

/-- 'faultlinelaw40.EsaryEncloses': WHATEVER THE INPUT: true; the input reads as it did. -/
def esaryEnclosesSpec : ChangeSpec := { name := "esaryEncloses", fn := fun _ => fun
  | [d1, d2] => { results := [.lit (.bool true)], args := [d1, d2] }
  | _ => none }
def esaryEnclosesRow : OpenClaim := { program := "ytbkchheikkbebaagreatdoor", sum := "7d6102e351132fe33474d8a418c56bfa5cc277bb85271577f2c29419423777cf", func := "faultline/faultlinelaw40.EsaryEncloses", spec := "esaryEncloses", inPlace := ["internal/abi.NoEscape", "internal/bytealg.IndexByteString", "internal/bytealg.IndexString"], unfollowed := true, recurses := true, named := ["unicode/utf8.first", "unicode/utf8.acceptRanges", "internal/bytealg.MaxLen"], apart := false, laid := [("unicode/utf8.acceptRanges", laid_unicode_utf8_acceptRanges), ("unicode/utf8.first", laid_unicode_utf8_first)] }
def EsaryEnclosesSaid : Prop := esaryEnclosesRow.holds Tryz.pinned (OpenSpec.ofChange esaryEnclosesSpec)

/-- ITS FALSE NEIGHBOUR: 'it returns false'. Refute it at one input. -/
def esaryEnclosesWrong : ChangeSpec := { name := "esaryEncloses", fn := fun _ => fun
  | [d1, d2] => { results := [.lit (.bool false)], args := [d1, d2] }
  | _ => none }
def EsaryEnclosesWrongFalsely : Prop := esaryEnclosesRow.holds Tryz.pinned (OpenSpec.ofChange esaryEnclosesWrong)

/- THE SECOND FORM. 'bulk': how many values and letters a reading holds, each counted each time it is reached (what is shared counts as often as it is met; a slice's spare places count too). A statement '..UptoSaid' is the law's where the arguments, and the package variables that the reading takes, are together of bulk at most 1048576: NARROWER than '..Said'. Prove '..Said' where nothing that the law and all that it calls make is longer than what came in: it says more and counts as full. Else prove '..UptoSaid'. A law counts once. -/
mutual
def uptoBulk {H : Type} : DataW H → Nat
  | .lit (.string bytes) => bytes.length + 1
  | .lit _ => 1
  | .nil => 1
  | .ptr d => uptoBulk d + 1
  | .slice elems spare => uptoBulkAll elems + uptoBulkAll spare + 1
  | .agg parts => uptoBulkAll parts + 1
  | .iface _ d => uptoBulk d + 1
  | .map entries => uptoBulkEntries entries + 1
  | .held _ => 1
def uptoBulkAll {H : Type} : List (DataW H) → Nat
  | [] => 0
  | d :: r => uptoBulk d + uptoBulkAll r
def uptoBulkEntries {H : Type} : List (Lit × DataW H) → Nat
  | [] => 0
  | x :: r => uptoBulkEntry x + uptoBulkEntries r
def uptoBulkEntry {H : Type} : Lit × DataW H → Nat
  | (.string bytes, d) => bytes.length + uptoBulk d + 1
  | (_, d) => uptoBulk d + 1
 end
def uptoSmall : (H : Type) → List (DataW H) → Bool := fun _ ds => decide (uptoBulkAll ds ≤ 1048576)
def OpenSpec.upto (s : _root_.Go.ChangeSpec) : _root_.Go.OpenSpec := { _root_.Go.OpenSpec.ofChange s with cond := some uptoSmall }

/-- 'faultlinelaw38.DisjointCubes', WHERE WHAT IT READS IS OF BULK AT MOST 1048576: true; the input reads as it did. -/
def disjointCubesUptoRow : OpenClaim := { program := "ytbkchheikkbebaagreatdoor", sum := "7d6102e351132fe33474d8a418c56bfa5cc277bb85271577f2c29419423777cf", func := "faultline/faultlinelaw38.DisjointCubes", spec := "disjointCubes", inPlace := ["internal/abi.NoEscape", "internal/bytealg.IndexByteString", "internal/bytealg.IndexString"], unfollowed := true, recurses := true, named := ["unicode/utf8.first", "unicode/utf8.acceptRanges", "internal/bytealg.MaxLen"], apart := false, laid := [("unicode/utf8.acceptRanges", laid_unicode_utf8_acceptRanges), ("unicode/utf8.first", laid_unicode_utf8_first)], narrowed := true }
def DisjointCubesUptoSaid : Prop := disjointCubesUptoRow.holds Tryz.pinned (OpenSpec.upto disjointCubesSpec)

/-- 'faultlinelaw38.DisjointProbs', WHERE WHAT IT READS IS OF BULK AT MOST 1048576: true; the input reads as it did. -/
def disjointProbsUptoRow : OpenClaim := { program := "ytbkchheikkbebaagreatdoor", sum := "7d6102e351132fe33474d8a418c56bfa5cc277bb85271577f2c29419423777cf", func := "faultline/faultlinelaw38.DisjointProbs", spec := "disjointProbs", inPlace := ["internal/abi.NoEscape", "internal/bytealg.IndexByteString", "internal/bytealg.IndexString"], unfollowed := true, recurses := true, named := ["unicode/utf8.first", "unicode/utf8.acceptRanges", "internal/bytealg.MaxLen"], apart := false, laid := [("unicode/utf8.acceptRanges", laid_unicode_utf8_acceptRanges), ("unicode/utf8.first", laid_unicode_utf8_first)], narrowed := true }
def DisjointProbsUptoSaid : Prop := disjointProbsUptoRow.holds Tryz.pinned (OpenSpec.upto disjointProbsSpec)

/-- 'faultlinelaw38.DisjointStates', WHERE WHAT IT READS IS OF BULK AT MOST 1048576: true; the input reads as it did. -/
def disjointStatesUptoRow : OpenClaim := { program := "ytbkchheikkbebaagreatdoor", sum := "7d6102e351132fe33474d8a418c56bfa5cc277bb85271577f2c29419423777cf", func := "faultline/faultlinelaw38.DisjointStates", spec := "disjointStates", inPlace := ["internal/abi.NoEscape", "internal/bytealg.IndexByteString", "internal/bytealg.IndexString"], unfollowed := true, recurses := true, named := ["unicode/utf8.first", "unicode/utf8.acceptRanges", "internal/bytealg.MaxLen"], apart := false, laid := [("unicode/utf8.acceptRanges", laid_unicode_utf8_acceptRanges), ("unicode/utf8.first", laid_unicode_utf8_first)], narrowed := true }
def DisjointStatesUptoSaid : Prop := disjointStatesUptoRow.holds Tryz.pinned (OpenSpec.upto disjointStatesSpec)

/-- 'faultlinelaw38.DisjointBefore', WHERE WHAT IT READS IS OF BULK AT MOST 1048576: true; the input reads as it did. -/
def disjointBeforeUptoRow : OpenClaim := { program := "ytbkchheikkbebaagreatdoor", sum := "7d6102e351132fe33474d8a418c56bfa5cc277bb85271577f2c29419423777cf", func := "faultline/faultlinelaw38.DisjointBefore", spec := "disjointBefore", inPlace := ["internal/abi.NoEscape", "internal/bytealg.IndexByteString", "internal/bytealg.IndexString"], unfollowed := true, recurses := true, named := ["unicode/utf8.first", "unicode/utf8.acceptRanges", "internal/bytealg.MaxLen"], apart := false, laid := [("unicode/utf8.acceptRanges", laid_unicode_utf8_acceptRanges), ("unicode/utf8.first", laid_unicode_utf8_first)], narrowed := true }
def DisjointBeforeUptoSaid : Prop := disjointBeforeUptoRow.holds Tryz.pinned (OpenSpec.upto disjointBeforeSpec)

/-- 'faultlinelaw39.InclusionBounds', WHERE WHAT IT READS IS OF BULK AT MOST 1048576: true; the input reads as it did. -/
def inclusionBoundsUptoRow : OpenClaim := { program := "ytbkchheikkbebaagreatdoor", sum := "7d6102e351132fe33474d8a418c56bfa5cc277bb85271577f2c29419423777cf", func := "faultline/faultlinelaw39.InclusionBounds", spec := "inclusionBounds", inPlace := ["internal/abi.NoEscape", "internal/bytealg.IndexByteString", "internal/bytealg.IndexString"], unfollowed := true, recurses := true, named := ["unicode/utf8.first", "unicode/utf8.acceptRanges", "internal/bytealg.MaxLen"], apart := false, laid := [("unicode/utf8.acceptRanges", laid_unicode_utf8_acceptRanges), ("unicode/utf8.first", laid_unicode_utf8_first)], narrowed := true }
def InclusionBoundsUptoSaid : Prop := inclusionBoundsUptoRow.holds Tryz.pinned (OpenSpec.upto inclusionBoundsSpec)

/-- 'faultlinelaw39.InclusionAlternates', WHERE WHAT IT READS IS OF BULK AT MOST 1048576: true; the input reads as it did. -/
def inclusionAlternatesUptoRow : OpenClaim := { program := "ytbkchheikkbebaagreatdoor", sum := "7d6102e351132fe33474d8a418c56bfa5cc277bb85271577f2c29419423777cf", func := "faultline/faultlinelaw39.InclusionAlternates", spec := "inclusionAlternates", inPlace := ["internal/abi.NoEscape", "internal/bytealg.IndexByteString", "internal/bytealg.IndexString"], unfollowed := true, recurses := true, named := ["unicode/utf8.first", "unicode/utf8.acceptRanges", "internal/bytealg.MaxLen"], apart := false, laid := [("unicode/utf8.acceptRanges", laid_unicode_utf8_acceptRanges), ("unicode/utf8.first", laid_unicode_utf8_first)], narrowed := true }
def InclusionAlternatesUptoSaid : Prop := inclusionAlternatesUptoRow.holds Tryz.pinned (OpenSpec.upto inclusionAlternatesSpec)

/-- 'faultlinelaw38.DisjointRange', WHERE WHAT IT READS IS OF BULK AT MOST 1048576: true; the input reads as it did. -/
def disjointRangeUptoRow : OpenClaim := { program := "ytbkchheikkbebaagreatdoor", sum := "7d6102e351132fe33474d8a418c56bfa5cc277bb85271577f2c29419423777cf", func := "faultline/faultlinelaw38.DisjointRange", spec := "disjointRange", inPlace := ["internal/abi.NoEscape", "internal/bytealg.IndexByteString", "internal/bytealg.IndexString"], unfollowed := true, recurses := true, named := ["unicode/utf8.first", "unicode/utf8.acceptRanges", "internal/bytealg.MaxLen"], apart := false, laid := [("unicode/utf8.acceptRanges", laid_unicode_utf8_acceptRanges), ("unicode/utf8.first", laid_unicode_utf8_first)], narrowed := true }
def DisjointRangeUptoSaid : Prop := disjointRangeUptoRow.holds Tryz.pinned (OpenSpec.upto disjointRangeSpec)

/-- 'faultlinelaw39.InclusionSums', WHERE WHAT IT READS IS OF BULK AT MOST 1048576: true; the input reads as it did. -/
def inclusionSumsUptoRow : OpenClaim := { program := "ytbkchheikkbebaagreatdoor", sum := "7d6102e351132fe33474d8a418c56bfa5cc277bb85271577f2c29419423777cf", func := "faultline/faultlinelaw39.InclusionSums", spec := "inclusionSums", inPlace := ["internal/abi.NoEscape", "internal/bytealg.IndexByteString", "internal/bytealg.IndexString"], unfollowed := true, recurses := true, named := ["unicode/utf8.first", "unicode/utf8.acceptRanges", "internal/bytealg.MaxLen"], apart := false, laid := [("unicode/utf8.acceptRanges", laid_unicode_utf8_acceptRanges), ("unicode/utf8.first", laid_unicode_utf8_first)], narrowed := true }
def InclusionSumsUptoSaid : Prop := inclusionSumsUptoRow.holds Tryz.pinned (OpenSpec.upto inclusionSumsSpec)

/-- 'faultlinelaw39.InclusionNarrows', WHERE WHAT IT READS IS OF BULK AT MOST 1048576: true; the input reads as it did. -/
def inclusionNarrowsUptoRow : OpenClaim := { program := "ytbkchheikkbebaagreatdoor", sum := "7d6102e351132fe33474d8a418c56bfa5cc277bb85271577f2c29419423777cf", func := "faultline/faultlinelaw39.InclusionNarrows", spec := "inclusionNarrows", inPlace := ["internal/abi.NoEscape", "internal/bytealg.IndexByteString", "internal/bytealg.IndexString"], unfollowed := true, recurses := true, named := ["unicode/utf8.first", "unicode/utf8.acceptRanges", "internal/bytealg.MaxLen"], apart := false, laid := [("unicode/utf8.acceptRanges", laid_unicode_utf8_acceptRanges), ("unicode/utf8.first", laid_unicode_utf8_first)], narrowed := true }
def InclusionNarrowsUptoSaid : Prop := inclusionNarrowsUptoRow.holds Tryz.pinned (OpenSpec.upto inclusionNarrowsSpec)

/-- 'faultlinelaw39.InclusionTotals', WHERE WHAT IT READS IS OF BULK AT MOST 1048576: true; the input reads as it did. -/
def inclusionTotalsUptoRow : OpenClaim := { program := "ytbkchheikkbebaagreatdoor", sum := "7d6102e351132fe33474d8a418c56bfa5cc277bb85271577f2c29419423777cf", func := "faultline/faultlinelaw39.InclusionTotals", spec := "inclusionTotals", inPlace := ["internal/abi.NoEscape", "internal/bytealg.IndexByteString", "internal/bytealg.IndexString"], unfollowed := true, recurses := true, named := ["unicode/utf8.first", "unicode/utf8.acceptRanges", "internal/bytealg.MaxLen"], apart := false, laid := [("unicode/utf8.acceptRanges", laid_unicode_utf8_acceptRanges), ("unicode/utf8.first", laid_unicode_utf8_first)], narrowed := true }
def InclusionTotalsUptoSaid : Prop := inclusionTotalsUptoRow.holds Tryz.pinned (OpenSpec.upto inclusionTotalsSpec)

/-- 'faultlinelaw38.DisjointTops', WHERE WHAT IT READS IS OF BULK AT MOST 1048576: true; the input reads as it did. -/
def disjointTopsUptoRow : OpenClaim := { program := "ytbkchheikkbebaagreatdoor", sum := "7d6102e351132fe33474d8a418c56bfa5cc277bb85271577f2c29419423777cf", func := "faultline/faultlinelaw38.DisjointTops", spec := "disjointTops", inPlace := ["internal/abi.NoEscape", "internal/bytealg.IndexByteString", "internal/bytealg.IndexString"], unfollowed := true, recurses := true, named := ["unicode/utf8.first", "unicode/utf8.acceptRanges", "internal/bytealg.MaxLen"], apart := false, laid := [("unicode/utf8.acceptRanges", laid_unicode_utf8_acceptRanges), ("unicode/utf8.first", laid_unicode_utf8_first)], narrowed := true }
def DisjointTopsUptoSaid : Prop := disjointTopsUptoRow.holds Tryz.pinned (OpenSpec.upto disjointTopsSpec)

/-- 'faultlinelaw38.DisjointExact', WHERE WHAT IT READS IS OF BULK AT MOST 1048576: true; the input reads as it did. -/
def disjointExactUptoRow : OpenClaim := { program := "ytbkchheikkbebaagreatdoor", sum := "7d6102e351132fe33474d8a418c56bfa5cc277bb85271577f2c29419423777cf", func := "faultline/faultlinelaw38.DisjointExact", spec := "disjointExact", inPlace := ["internal/abi.NoEscape", "internal/bytealg.IndexByteString", "internal/bytealg.IndexString"], unfollowed := true, recurses := true, named := ["unicode/utf8.first", "unicode/utf8.acceptRanges", "internal/bytealg.MaxLen"], apart := false, laid := [("unicode/utf8.acceptRanges", laid_unicode_utf8_acceptRanges), ("unicode/utf8.first", laid_unicode_utf8_first)], narrowed := true }
def DisjointExactUptoSaid : Prop := disjointExactUptoRow.holds Tryz.pinned (OpenSpec.upto disjointExactSpec)

/-- 'faultlinelaw40.EsaryProducts', WHERE WHAT IT READS IS OF BULK AT MOST 1048576: true; the input reads as it did. -/
def esaryProductsUptoRow : OpenClaim := { program := "ytbkchheikkbebaagreatdoor", sum := "7d6102e351132fe33474d8a418c56bfa5cc277bb85271577f2c29419423777cf", func := "faultline/faultlinelaw40.EsaryProducts", spec := "esaryProducts", inPlace := ["internal/abi.NoEscape", "internal/bytealg.IndexByteString", "internal/bytealg.IndexString"], unfollowed := true, recurses := true, named := ["unicode/utf8.first", "unicode/utf8.acceptRanges", "internal/bytealg.MaxLen"], apart := false, laid := [("unicode/utf8.acceptRanges", laid_unicode_utf8_acceptRanges), ("unicode/utf8.first", laid_unicode_utf8_first)], narrowed := true }
def EsaryProductsUptoSaid : Prop := esaryProductsUptoRow.holds Tryz.pinned (OpenSpec.upto esaryProductsSpec)

/-- 'faultlinelaw40.EsaryBounds', WHERE WHAT IT READS IS OF BULK AT MOST 1048576: true; the input reads as it did. -/
def esaryBoundsUptoRow : OpenClaim := { program := "ytbkchheikkbebaagreatdoor", sum := "7d6102e351132fe33474d8a418c56bfa5cc277bb85271577f2c29419423777cf", func := "faultline/faultlinelaw40.EsaryBounds", spec := "esaryBounds", inPlace := ["internal/abi.NoEscape", "internal/bytealg.IndexByteString", "internal/bytealg.IndexString"], unfollowed := true, recurses := true, named := ["unicode/utf8.first", "unicode/utf8.acceptRanges", "internal/bytealg.MaxLen"], apart := false, laid := [("unicode/utf8.acceptRanges", laid_unicode_utf8_acceptRanges), ("unicode/utf8.first", laid_unicode_utf8_first)], narrowed := true }
def EsaryBoundsUptoSaid : Prop := esaryBoundsUptoRow.holds Tryz.pinned (OpenSpec.upto esaryBoundsSpec)

/-- 'faultlinelaw40.EsaryLikeliest', WHERE WHAT IT READS IS OF BULK AT MOST 1048576: true; the input reads as it did. -/
def esaryLikeliestUptoRow : OpenClaim := { program := "ytbkchheikkbebaagreatdoor", sum := "7d6102e351132fe33474d8a418c56bfa5cc277bb85271577f2c29419423777cf", func := "faultline/faultlinelaw40.EsaryLikeliest", spec := "esaryLikeliest", inPlace := ["internal/abi.NoEscape", "internal/bytealg.IndexByteString", "internal/bytealg.IndexString"], unfollowed := true, recurses := true, named := ["unicode/utf8.first", "unicode/utf8.acceptRanges", "internal/bytealg.MaxLen"], apart := false, laid := [("unicode/utf8.acceptRanges", laid_unicode_utf8_acceptRanges), ("unicode/utf8.first", laid_unicode_utf8_first)], narrowed := true }
def EsaryLikeliestUptoSaid : Prop := esaryLikeliestUptoRow.holds Tryz.pinned (OpenSpec.upto esaryLikeliestSpec)

/-- 'faultlinelaw40.EsaryRises', WHERE WHAT IT READS IS OF BULK AT MOST 1048576: true; the input reads as it did. -/
def esaryRisesUptoRow : OpenClaim := { program := "ytbkchheikkbebaagreatdoor", sum := "7d6102e351132fe33474d8a418c56bfa5cc277bb85271577f2c29419423777cf", func := "faultline/faultlinelaw40.EsaryRises", spec := "esaryRises", inPlace := ["internal/abi.NoEscape", "internal/bytealg.IndexByteString", "internal/bytealg.IndexString"], unfollowed := true, recurses := true, named := ["unicode/utf8.first", "unicode/utf8.acceptRanges", "internal/bytealg.MaxLen"], apart := false, laid := [("unicode/utf8.acceptRanges", laid_unicode_utf8_acceptRanges), ("unicode/utf8.first", laid_unicode_utf8_first)], narrowed := true }
def EsaryRisesUptoSaid : Prop := esaryRisesUptoRow.holds Tryz.pinned (OpenSpec.upto esaryRisesSpec)

/-- 'faultlinelaw40.EsaryApart', WHERE WHAT IT READS IS OF BULK AT MOST 1048576: true; the input reads as it did. -/
def esaryApartUptoRow : OpenClaim := { program := "ytbkchheikkbebaagreatdoor", sum := "7d6102e351132fe33474d8a418c56bfa5cc277bb85271577f2c29419423777cf", func := "faultline/faultlinelaw40.EsaryApart", spec := "esaryApart", inPlace := ["internal/abi.NoEscape", "internal/bytealg.IndexByteString", "internal/bytealg.IndexString"], unfollowed := true, recurses := true, named := ["unicode/utf8.first", "unicode/utf8.acceptRanges", "internal/bytealg.MaxLen"], apart := false, laid := [("unicode/utf8.acceptRanges", laid_unicode_utf8_acceptRanges), ("unicode/utf8.first", laid_unicode_utf8_first)], narrowed := true }
def EsaryApartUptoSaid : Prop := esaryApartUptoRow.holds Tryz.pinned (OpenSpec.upto esaryApartSpec)

/-- 'faultlinelaw40.EsaryEncloses', WHERE WHAT IT READS IS OF BULK AT MOST 1048576: true; the input reads as it did. -/
def esaryEnclosesUptoRow : OpenClaim := { program := "ytbkchheikkbebaagreatdoor", sum := "7d6102e351132fe33474d8a418c56bfa5cc277bb85271577f2c29419423777cf", func := "faultline/faultlinelaw40.EsaryEncloses", spec := "esaryEncloses", inPlace := ["internal/abi.NoEscape", "internal/bytealg.IndexByteString", "internal/bytealg.IndexString"], unfollowed := true, recurses := true, named := ["unicode/utf8.first", "unicode/utf8.acceptRanges", "internal/bytealg.MaxLen"], apart := false, laid := [("unicode/utf8.acceptRanges", laid_unicode_utf8_acceptRanges), ("unicode/utf8.first", laid_unicode_utf8_first)], narrowed := true }
def EsaryEnclosesUptoSaid : Prop := esaryEnclosesUptoRow.holds Tryz.pinned (OpenSpec.upto esaryEnclosesSpec)

end Rows
end Go.Proofs.YtbkchheikkbebaaGreatDoor
