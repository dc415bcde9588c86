/-
  No cell of these rows narrows 'for every input' (looked for: loops, veiled, ifaces, maps, wideKeys, modest, calm, conditions, laid).
  DERIVED. THE GIVEN ROWS OF THIS SEAT. 14 by the template 'for every input the law returns true; each argument reads behind the call as it read before'; 0 by the template 'total and deterministic' (their statements: YtapniojbnochiaaTotals.lean).
  GIVEN WITH THE SEED: the statements are not yours to turn. If you find one false, say at which input.
  Laid BY PROGRAM, IN A SANDBOX (cutbox-rows.mjs): the forced cells as the released guide's own fill.sh prints them over the translation 06c908c2b886d5c4… (all of the seat's roots in one cut). By AI agents, Wed Nov 11 2026. No macro, syntax, notation, axiom, sorry.
-/
import Derived.Test.YtapniojbnochiaaChecked
import GoSem.Claim
import GoSem.ClaimJoined
import GoSem.ClaimMapViews
import Derived.JoinedTies
import Derived.KernelRfl
namespace Go.Proofs.Ytapniojbnochiaa
/- THE CELL 'sum', in the pinned program and in every row, IS THE sha256 OF THE DUMP (.gsa) THAT YtapniojbnochiaaProg.lean LOADS. Nothing in Lean hashes anything: it is a label: what it is worth is what the hold of that sum in a sandbox is worth. -/
noncomputable def Try.pinned : Pinned := { name := "ytapniojbnochiaa", sum := "06c908c2b886d5c4f4de1df2c8c233dbb7f9aae984d92b06b674bea0936b2a45", checked := Try.checked }
namespace Rows
def none {H : Type} : Left H := { results := [], args := [] }

/-- 'faultlinelaw32.BottomupCuts': WHATEVER THE INPUT: true; the input reads as it did. -/
def bottomupCutsSpec : ChangeSpec := { name := "bottomupCuts", fn := fun _ => fun
  | [d] => { results := [.lit (.bool true)], args := [d] }
  | _ => none }
def bottomupCutsRow : OpenClaim := { program := "ytapniojbnochiaa", sum := "06c908c2b886d5c4f4de1df2c8c233dbb7f9aae984d92b06b674bea0936b2a45", func := "faultline/faultlinelaw32.BottomupCuts", spec := "bottomupCuts", unfollowed := true, recurses := true, apart := false }
def BottomupCutsSaid : Prop := bottomupCutsRow.holds Try.pinned (OpenSpec.ofChange bottomupCutsSpec)

/-- ITS FALSE NEIGHBOUR: 'it returns false'. Refute it at one input. -/
def bottomupCutsWrong : ChangeSpec := { name := "bottomupCuts", fn := fun _ => fun
  | [d] => { results := [.lit (.bool false)], args := [d] }
  | _ => none }
def BottomupCutsWrongFalsely : Prop := bottomupCutsRow.holds Try.pinned (OpenSpec.ofChange bottomupCutsWrong)

/-- 'faultlinelaw32.BottomupFamilies': WHATEVER THE INPUT: true; the input reads as it did. -/
def bottomupFamiliesSpec : ChangeSpec := { name := "bottomupFamilies", fn := fun _ => fun
  | [d] => { results := [.lit (.bool true)], args := [d] }
  | _ => none }
def bottomupFamiliesRow : OpenClaim := { program := "ytapniojbnochiaa", sum := "06c908c2b886d5c4f4de1df2c8c233dbb7f9aae984d92b06b674bea0936b2a45", func := "faultline/faultlinelaw32.BottomupFamilies", spec := "bottomupFamilies", unfollowed := true, recurses := true, apart := false }
def BottomupFamiliesSaid : Prop := bottomupFamiliesRow.holds Try.pinned (OpenSpec.ofChange bottomupFamiliesSpec)

/-- ITS FALSE NEIGHBOUR: 'it returns false'. Refute it at one input. -/
def bottomupFamiliesWrong : ChangeSpec := { name := "bottomupFamilies", fn := fun _ => fun
  | [d] => { results := [.lit (.bool false)], args := [d] }
  | _ => none }
def BottomupFamiliesWrongFalsely : Prop := bottomupFamiliesRow.holds Try.pinned (OpenSpec.ofChange bottomupFamiliesWrong)

/-- 'faultlinelaw32.BottomupTop': WHATEVER THE INPUT: true; the input reads as it did. -/
def bottomupTopSpec : ChangeSpec := { name := "bottomupTop", fn := fun _ => fun
  | [d] => { results := [.lit (.bool true)], args := [d] }
  | _ => none }
def bottomupTopRow : OpenClaim := { program := "ytapniojbnochiaa", sum := "06c908c2b886d5c4f4de1df2c8c233dbb7f9aae984d92b06b674bea0936b2a45", func := "faultline/faultlinelaw32.BottomupTop", spec := "bottomupTop", unfollowed := true, recurses := true, apart := false }
def BottomupTopSaid : Prop := bottomupTopRow.holds Try.pinned (OpenSpec.ofChange bottomupTopSpec)

/-- ITS FALSE NEIGHBOUR: 'it returns false'. Refute it at one input. -/
def bottomupTopWrong : ChangeSpec := { name := "bottomupTop", fn := fun _ => fun
  | [d] => { results := [.lit (.bool false)], args := [d] }
  | _ => none }
def BottomupTopWrongFalsely : Prop := bottomupTopRow.holds Try.pinned (OpenSpec.ofChange bottomupTopWrong)

/-- 'faultlinelaw32.BottomupMore': WHATEVER THE INPUT: true; the input reads as it did. -/
def bottomupMoreSpec : ChangeSpec := { name := "bottomupMore", fn := fun _ => fun
  | [d1, d2] => { results := [.lit (.bool true)], args := [d1, d2] }
  | _ => none }
def bottomupMoreRow : OpenClaim := { program := "ytapniojbnochiaa", sum := "06c908c2b886d5c4f4de1df2c8c233dbb7f9aae984d92b06b674bea0936b2a45", func := "faultline/faultlinelaw32.BottomupMore", spec := "bottomupMore", unfollowed := true, recurses := true, apart := false }
def BottomupMoreSaid : Prop := bottomupMoreRow.holds Try.pinned (OpenSpec.ofChange bottomupMoreSpec)

/-- ITS FALSE NEIGHBOUR: 'it returns false'. Refute it at one input. -/
def bottomupMoreWrong : ChangeSpec := { name := "bottomupMore", fn := fun _ => fun
  | [d1, d2] => { results := [.lit (.bool false)], args := [d1, d2] }
  | _ => none }
def BottomupMoreWrongFalsely : Prop := bottomupMoreRow.holds Try.pinned (OpenSpec.ofChange bottomupMoreWrong)

/-- 'faultlinelaw31.TopdownCuts': WHATEVER THE INPUT: true; the input reads as it did. -/
def topdownCutsSpec : ChangeSpec := { name := "topdownCuts", fn := fun _ => fun
  | [d] => { results := [.lit (.bool true)], args := [d] }
  | _ => none }
def topdownCutsRow : OpenClaim := { program := "ytapniojbnochiaa", sum := "06c908c2b886d5c4f4de1df2c8c233dbb7f9aae984d92b06b674bea0936b2a45", func := "faultline/faultlinelaw31.TopdownCuts", spec := "topdownCuts", unfollowed := true, recurses := true, apart := false }
def TopdownCutsSaid : Prop := topdownCutsRow.holds Try.pinned (OpenSpec.ofChange topdownCutsSpec)

/-- ITS FALSE NEIGHBOUR: 'it returns false'. Refute it at one input. -/
def topdownCutsWrong : ChangeSpec := { name := "topdownCuts", fn := fun _ => fun
  | [d] => { results := [.lit (.bool false)], args := [d] }
  | _ => none }
def TopdownCutsWrongFalsely : Prop := topdownCutsRow.holds Try.pinned (OpenSpec.ofChange topdownCutsWrong)

/-- 'faultlinelaw31.TopdownSteps': WHATEVER THE INPUT: true; the input reads as it did. -/
def topdownStepsSpec : ChangeSpec := { name := "topdownSteps", fn := fun _ => fun
  | [d] => { results := [.lit (.bool true)], args := [d] }
  | _ => none }
def topdownStepsRow : OpenClaim := { program := "ytapniojbnochiaa", sum := "06c908c2b886d5c4f4de1df2c8c233dbb7f9aae984d92b06b674bea0936b2a45", func := "faultline/faultlinelaw31.TopdownSteps", spec := "topdownSteps", unfollowed := true, recurses := true, apart := false }
def TopdownStepsSaid : Prop := topdownStepsRow.holds Try.pinned (OpenSpec.ofChange topdownStepsSpec)

/-- ITS FALSE NEIGHBOUR: 'it returns false'. Refute it at one input. -/
def topdownStepsWrong : ChangeSpec := { name := "topdownSteps", fn := fun _ => fun
  | [d] => { results := [.lit (.bool false)], args := [d] }
  | _ => none }
def TopdownStepsWrongFalsely : Prop := topdownStepsRow.holds Try.pinned (OpenSpec.ofChange topdownStepsWrong)

/-- 'faultlinelaw31.TopdownTyped': WHATEVER THE INPUT: true; the input reads as it did. -/
def topdownTypedSpec : ChangeSpec := { name := "topdownTyped", fn := fun _ => fun
  | [d] => { results := [.lit (.bool true)], args := [d] }
  | _ => none }
def topdownTypedRow : OpenClaim := { program := "ytapniojbnochiaa", sum := "06c908c2b886d5c4f4de1df2c8c233dbb7f9aae984d92b06b674bea0936b2a45", func := "faultline/faultlinelaw31.TopdownTyped", spec := "topdownTyped", unfollowed := true, recurses := true, apart := false }
def TopdownTypedSaid : Prop := topdownTypedRow.holds Try.pinned (OpenSpec.ofChange topdownTypedSpec)

/-- ITS FALSE NEIGHBOUR: 'it returns false'. Refute it at one input. -/
def topdownTypedWrong : ChangeSpec := { name := "topdownTyped", fn := fun _ => fun
  | [d] => { results := [.lit (.bool false)], args := [d] }
  | _ => none }
def TopdownTypedWrongFalsely : Prop := topdownTypedRow.holds Try.pinned (OpenSpec.ofChange topdownTypedWrong)

/-- 'faultlinelaw32.BottomupNodes': WHATEVER THE INPUT: true; the input reads as it did. -/
def bottomupNodesSpec : ChangeSpec := { name := "bottomupNodes", fn := fun _ => fun
  | [d1, d2] => { results := [.lit (.bool true)], args := [d1, d2] }
  | _ => none }
def bottomupNodesRow : OpenClaim := { program := "ytapniojbnochiaa", sum := "06c908c2b886d5c4f4de1df2c8c233dbb7f9aae984d92b06b674bea0936b2a45", func := "faultline/faultlinelaw32.BottomupNodes", spec := "bottomupNodes", unfollowed := true, recurses := true, apart := false }
def BottomupNodesSaid : Prop := bottomupNodesRow.holds Try.pinned (OpenSpec.ofChange bottomupNodesSpec)

/-- ITS FALSE NEIGHBOUR: 'it returns false'. Refute it at one input. -/
def bottomupNodesWrong : ChangeSpec := { name := "bottomupNodes", fn := fun _ => fun
  | [d1, d2] => { results := [.lit (.bool false)], args := [d1, d2] }
  | _ => none }
def BottomupNodesWrongFalsely : Prop := bottomupNodesRow.holds Try.pinned (OpenSpec.ofChange bottomupNodesWrong)

/-- 'faultlinelaw31.TopdownFails': WHATEVER THE INPUT: true; the input reads as it did. -/
def topdownFailsSpec : ChangeSpec := { name := "topdownFails", fn := fun _ => fun
  | [d1, d2] => { results := [.lit (.bool true)], args := [d1, d2] }
  | _ => none }
def topdownFailsRow : OpenClaim := { program := "ytapniojbnochiaa", sum := "06c908c2b886d5c4f4de1df2c8c233dbb7f9aae984d92b06b674bea0936b2a45", func := "faultline/faultlinelaw31.TopdownFails", spec := "topdownFails", unfollowed := true, recurses := true, apart := false }
def TopdownFailsSaid : Prop := topdownFailsRow.holds Try.pinned (OpenSpec.ofChange topdownFailsSpec)

/-- ITS FALSE NEIGHBOUR: 'it returns false'. Refute it at one input. -/
def topdownFailsWrong : ChangeSpec := { name := "topdownFails", fn := fun _ => fun
  | [d1, d2] => { results := [.lit (.bool false)], args := [d1, d2] }
  | _ => none }
def TopdownFailsWrongFalsely : Prop := topdownFailsRow.holds Try.pinned (OpenSpec.ofChange topdownFailsWrong)

/-- 'faultlinelaw31.TopdownNeeds': WHATEVER THE INPUT: true; the input reads as it did. -/
def topdownNeedsSpec : ChangeSpec := { name := "topdownNeeds", fn := fun _ => fun
  | [d] => { results := [.lit (.bool true)], args := [d] }
  | _ => none }
def topdownNeedsRow : OpenClaim := { program := "ytapniojbnochiaa", sum := "06c908c2b886d5c4f4de1df2c8c233dbb7f9aae984d92b06b674bea0936b2a45", func := "faultline/faultlinelaw31.TopdownNeeds", spec := "topdownNeeds", unfollowed := true, recurses := true, apart := false }
def TopdownNeedsSaid : Prop := topdownNeedsRow.holds Try.pinned (OpenSpec.ofChange topdownNeedsSpec)

/-- ITS FALSE NEIGHBOUR: 'it returns false'. Refute it at one input. -/
def topdownNeedsWrong : ChangeSpec := { name := "topdownNeeds", fn := fun _ => fun
  | [d] => { results := [.lit (.bool false)], args := [d] }
  | _ => none }
def TopdownNeedsWrongFalsely : Prop := topdownNeedsRow.holds Try.pinned (OpenSpec.ofChange topdownNeedsWrong)

/-- 'faultlinelaw35.TruncateCovers': WHATEVER THE INPUT: true; the input reads as it did. -/
def truncateCoversSpec : ChangeSpec := { name := "truncateCovers", fn := fun _ => fun
  | [d1, d2, d3] => { results := [.lit (.bool true)], args := [d1, d2, d3] }
  | _ => none }
def truncateCoversRow : OpenClaim := { program := "ytapniojbnochiaa", sum := "06c908c2b886d5c4f4de1df2c8c233dbb7f9aae984d92b06b674bea0936b2a45", func := "faultline/faultlinelaw35.TruncateCovers", spec := "truncateCovers", unfollowed := true, recurses := true, apart := false }
def TruncateCoversSaid : Prop := truncateCoversRow.holds Try.pinned (OpenSpec.ofChange truncateCoversSpec)

/-- ITS FALSE NEIGHBOUR: 'it returns false'. Refute it at one input. -/
def truncateCoversWrong : ChangeSpec := { name := "truncateCovers", fn := fun _ => fun
  | [d1, d2, d3] => { results := [.lit (.bool false)], args := [d1, d2, d3] }
  | _ => none }
def TruncateCoversWrongFalsely : Prop := truncateCoversRow.holds Try.pinned (OpenSpec.ofChange truncateCoversWrong)

/-- 'faultlinelaw31.TopdownGates': WHATEVER THE INPUT: true; the input reads as it did. -/
def topdownGatesSpec : ChangeSpec := { name := "topdownGates", fn := fun _ => fun
  | [d1, d2, d3] => { results := [.lit (.bool true)], args := [d1, d2, d3] }
  | _ => none }
def topdownGatesRow : OpenClaim := { program := "ytapniojbnochiaa", sum := "06c908c2b886d5c4f4de1df2c8c233dbb7f9aae984d92b06b674bea0936b2a45", func := "faultline/faultlinelaw31.TopdownGates", spec := "topdownGates", unfollowed := true, recurses := true, apart := false }
def TopdownGatesSaid : Prop := topdownGatesRow.holds Try.pinned (OpenSpec.ofChange topdownGatesSpec)

/-- ITS FALSE NEIGHBOUR: 'it returns false'. Refute it at one input. -/
def topdownGatesWrong : ChangeSpec := { name := "topdownGates", fn := fun _ => fun
  | [d1, d2, d3] => { results := [.lit (.bool false)], args := [d1, d2, d3] }
  | _ => none }
def TopdownGatesWrongFalsely : Prop := topdownGatesRow.holds Try.pinned (OpenSpec.ofChange topdownGatesWrong)

/-- 'faultlinelaw31.TopdownMinimal': WHATEVER THE INPUT: true; the input reads as it did. -/
def topdownMinimalSpec : ChangeSpec := { name := "topdownMinimal", fn := fun _ => fun
  | [d] => { results := [.lit (.bool true)], args := [d] }
  | _ => none }
def topdownMinimalRow : OpenClaim := { program := "ytapniojbnochiaa", sum := "06c908c2b886d5c4f4de1df2c8c233dbb7f9aae984d92b06b674bea0936b2a45", func := "faultline/faultlinelaw31.TopdownMinimal", spec := "topdownMinimal", unfollowed := true, recurses := true, apart := false }
def TopdownMinimalSaid : Prop := topdownMinimalRow.holds Try.pinned (OpenSpec.ofChange topdownMinimalSpec)

/-- ITS FALSE NEIGHBOUR: 'it returns false'. Refute it at one input. -/
def topdownMinimalWrong : ChangeSpec := { name := "topdownMinimal", fn := fun _ => fun
  | [d] => { results := [.lit (.bool false)], args := [d] }
  | _ => none }
def TopdownMinimalWrongFalsely : Prop := topdownMinimalRow.holds Try.pinned (OpenSpec.ofChange topdownMinimalWrong)

/-- 'faultlinelaw32.BottomupSame': WHATEVER THE INPUT: true; the input reads as it did. -/
def bottomupSameSpec : ChangeSpec := { name := "bottomupSame", fn := fun _ => fun
  | [d] => { results := [.lit (.bool true)], args := [d] }
  | _ => none }
def bottomupSameRow : OpenClaim := { program := "ytapniojbnochiaa", sum := "06c908c2b886d5c4f4de1df2c8c233dbb7f9aae984d92b06b674bea0936b2a45", func := "faultline/faultlinelaw32.BottomupSame", spec := "bottomupSame", unfollowed := true, recurses := true, apart := false }
def BottomupSameSaid : Prop := bottomupSameRow.holds Try.pinned (OpenSpec.ofChange bottomupSameSpec)

/-- ITS FALSE NEIGHBOUR: 'it returns false'. Refute it at one input. -/
def bottomupSameWrong : ChangeSpec := { name := "bottomupSame", fn := fun _ => fun
  | [d] => { results := [.lit (.bool false)], args := [d] }
  | _ => none }
def BottomupSameWrongFalsely : Prop := bottomupSameRow.holds Try.pinned (OpenSpec.ofChange bottomupSameWrong)

/- THE SECOND FORM. 'bulk': how many values and letters a reading holds, each counted each time it is reached (what is shared counts as often as it is met; a slice's spare places count too). A statement '..UptoSaid' is the law's where the arguments, and the package variables that the reading takes, are together of bulk at most 1048576: NARROWER than '..Said'. Prove '..Said' where nothing that the law and all that it calls make is longer than what came in: it says more and counts as full. Else prove '..UptoSaid'. A law counts once. -/
mutual
def uptoBulk {H : Type} : DataW H → Nat
  | .lit (.string bytes) => bytes.length + 1
  | .lit _ => 1
  | .nil => 1
  | .ptr d => uptoBulk d + 1
  | .slice elems spare => uptoBulkAll elems + uptoBulkAll spare + 1
  | .agg parts => uptoBulkAll parts + 1
  | .iface _ d => uptoBulk d + 1
  | .map entries => uptoBulkEntries entries + 1
  | .held _ => 1
def uptoBulkAll {H : Type} : List (DataW H) → Nat
  | [] => 0
  | d :: r => uptoBulk d + uptoBulkAll r
def uptoBulkEntries {H : Type} : List (Lit × DataW H) → Nat
  | [] => 0
  | x :: r => uptoBulkEntry x + uptoBulkEntries r
def uptoBulkEntry {H : Type} : Lit × DataW H → Nat
  | (.string bytes, d) => bytes.length + uptoBulk d + 1
  | (_, d) => uptoBulk d + 1
 end
def uptoSmall : (H : Type) → List (DataW H) → Bool := fun _ ds => decide (uptoBulkAll ds ≤ 1048576)
def OpenSpec.upto (s : _root_.Go.ChangeSpec) : _root_.Go.OpenSpec := { _root_.Go.OpenSpec.ofChange s with cond := some uptoSmall }

/-- 'faultlinelaw32.BottomupCuts', WHERE WHAT IT READS IS OF BULK AT MOST 1048576: true; the input reads as it did. -/
def bottomupCutsUptoRow : OpenClaim := { program := "ytapniojbnochiaa", sum := "06c908c2b886d5c4f4de1df2c8c233dbb7f9aae984d92b06b674bea0936b2a45", func := "faultline/faultlinelaw32.BottomupCuts", spec := "bottomupCuts", unfollowed := true, recurses := true, apart := false, narrowed := true }
def BottomupCutsUptoSaid : Prop := bottomupCutsUptoRow.holds Try.pinned (OpenSpec.upto bottomupCutsSpec)

/-- 'faultlinelaw32.BottomupFamilies', WHERE WHAT IT READS IS OF BULK AT MOST 1048576: true; the input reads as it did. -/
def bottomupFamiliesUptoRow : OpenClaim := { program := "ytapniojbnochiaa", sum := "06c908c2b886d5c4f4de1df2c8c233dbb7f9aae984d92b06b674bea0936b2a45", func := "faultline/faultlinelaw32.BottomupFamilies", spec := "bottomupFamilies", unfollowed := true, recurses := true, apart := false, narrowed := true }
def BottomupFamiliesUptoSaid : Prop := bottomupFamiliesUptoRow.holds Try.pinned (OpenSpec.upto bottomupFamiliesSpec)

/-- 'faultlinelaw32.BottomupTop', WHERE WHAT IT READS IS OF BULK AT MOST 1048576: true; the input reads as it did. -/
def bottomupTopUptoRow : OpenClaim := { program := "ytapniojbnochiaa", sum := "06c908c2b886d5c4f4de1df2c8c233dbb7f9aae984d92b06b674bea0936b2a45", func := "faultline/faultlinelaw32.BottomupTop", spec := "bottomupTop", unfollowed := true, recurses := true, apart := false, narrowed := true }
def BottomupTopUptoSaid : Prop := bottomupTopUptoRow.holds Try.pinned (OpenSpec.upto bottomupTopSpec)

/-- 'faultlinelaw32.BottomupMore', WHERE WHAT IT READS IS OF BULK AT MOST 1048576: true; the input reads as it did. -/
def bottomupMoreUptoRow : OpenClaim := { program := "ytapniojbnochiaa", sum := "06c908c2b886d5c4f4de1df2c8c233dbb7f9aae984d92b06b674bea0936b2a45", func := "faultline/faultlinelaw32.BottomupMore", spec := "bottomupMore", unfollowed := true, recurses := true, apart := false, narrowed := true }
def BottomupMoreUptoSaid : Prop := bottomupMoreUptoRow.holds Try.pinned (OpenSpec.upto bottomupMoreSpec)

/-- 'faultlinelaw31.TopdownCuts', WHERE WHAT IT READS IS OF BULK AT MOST 1048576: true; the input reads as it did. -/
def topdownCutsUptoRow : OpenClaim := { program := "ytapniojbnochiaa", sum := "06c908c2b886d5c4f4de1df2c8c233dbb7f9aae984d92b06b674bea0936b2a45", func := "faultline/faultlinelaw31.TopdownCuts", spec := "topdownCuts", unfollowed := true, recurses := true, apart := false, narrowed := true }
def TopdownCutsUptoSaid : Prop := topdownCutsUptoRow.holds Try.pinned (OpenSpec.upto topdownCutsSpec)

/-- 'faultlinelaw31.TopdownSteps', WHERE WHAT IT READS IS OF BULK AT MOST 1048576: true; the input reads as it did. -/
def topdownStepsUptoRow : OpenClaim := { program := "ytapniojbnochiaa", sum := "06c908c2b886d5c4f4de1df2c8c233dbb7f9aae984d92b06b674bea0936b2a45", func := "faultline/faultlinelaw31.TopdownSteps", spec := "topdownSteps", unfollowed := true, recurses := true, apart := false, narrowed := true }
def TopdownStepsUptoSaid : Prop := topdownStepsUptoRow.holds Try.pinned (OpenSpec.upto topdownStepsSpec)

/-- 'faultlinelaw31.TopdownTyped', WHERE WHAT IT READS IS OF BULK AT MOST 1048576: true; the input reads as it did. -/
def topdownTypedUptoRow : OpenClaim := { program := "ytapniojbnochiaa", sum := "06c908c2b886d5c4f4de1df2c8c233dbb7f9aae984d92b06b674bea0936b2a45", func := "faultline/faultlinelaw31.TopdownTyped", spec := "topdownTyped", unfollowed := true, recurses := true, apart := false, narrowed := true }
def TopdownTypedUptoSaid : Prop := topdownTypedUptoRow.holds Try.pinned (OpenSpec.upto topdownTypedSpec)

/-- 'faultlinelaw32.BottomupNodes', WHERE WHAT IT READS IS OF BULK AT MOST 1048576: true; the input reads as it did. -/
def bottomupNodesUptoRow : OpenClaim := { program := "ytapniojbnochiaa", sum := "06c908c2b886d5c4f4de1df2c8c233dbb7f9aae984d92b06b674bea0936b2a45", func := "faultline/faultlinelaw32.BottomupNodes", spec := "bottomupNodes", unfollowed := true, recurses := true, apart := false, narrowed := true }
def BottomupNodesUptoSaid : Prop := bottomupNodesUptoRow.holds Try.pinned (OpenSpec.upto bottomupNodesSpec)

/-- 'faultlinelaw31.TopdownFails', WHERE WHAT IT READS IS OF BULK AT MOST 1048576: true; the input reads as it did. -/
def topdownFailsUptoRow : OpenClaim := { program := "ytapniojbnochiaa", sum := "06c908c2b886d5c4f4de1df2c8c233dbb7f9aae984d92b06b674bea0936b2a45", func := "faultline/faultlinelaw31.TopdownFails", spec := "topdownFails", unfollowed := true, recurses := true, apart := false, narrowed := true }
def TopdownFailsUptoSaid : Prop := topdownFailsUptoRow.holds Try.pinned (OpenSpec.upto topdownFailsSpec)

/-- 'faultlinelaw31.TopdownNeeds', WHERE WHAT IT READS IS OF BULK AT MOST 1048576: true; the input reads as it did. -/
def topdownNeedsUptoRow : OpenClaim := { program := "ytapniojbnochiaa", sum := "06c908c2b886d5c4f4de1df2c8c233dbb7f9aae984d92b06b674bea0936b2a45", func := "faultline/faultlinelaw31.TopdownNeeds", spec := "topdownNeeds", unfollowed := true, recurses := true, apart := false, narrowed := true }
def TopdownNeedsUptoSaid : Prop := topdownNeedsUptoRow.holds Try.pinned (OpenSpec.upto topdownNeedsSpec)

/-- 'faultlinelaw35.TruncateCovers', WHERE WHAT IT READS IS OF BULK AT MOST 1048576: true; the input reads as it did. -/
def truncateCoversUptoRow : OpenClaim := { program := "ytapniojbnochiaa", sum := "06c908c2b886d5c4f4de1df2c8c233dbb7f9aae984d92b06b674bea0936b2a45", func := "faultline/faultlinelaw35.TruncateCovers", spec := "truncateCovers", unfollowed := true, recurses := true, apart := false, narrowed := true }
def TruncateCoversUptoSaid : Prop := truncateCoversUptoRow.holds Try.pinned (OpenSpec.upto truncateCoversSpec)

/-- 'faultlinelaw31.TopdownGates', WHERE WHAT IT READS IS OF BULK AT MOST 1048576: true; the input reads as it did. -/
def topdownGatesUptoRow : OpenClaim := { program := "ytapniojbnochiaa", sum := "06c908c2b886d5c4f4de1df2c8c233dbb7f9aae984d92b06b674bea0936b2a45", func := "faultline/faultlinelaw31.TopdownGates", spec := "topdownGates", unfollowed := true, recurses := true, apart := false, narrowed := true }
def TopdownGatesUptoSaid : Prop := topdownGatesUptoRow.holds Try.pinned (OpenSpec.upto topdownGatesSpec)

/-- 'faultlinelaw31.TopdownMinimal', WHERE WHAT IT READS IS OF BULK AT MOST 1048576: true; the input reads as it did. -/
def topdownMinimalUptoRow : OpenClaim := { program := "ytapniojbnochiaa", sum := "06c908c2b886d5c4f4de1df2c8c233dbb7f9aae984d92b06b674bea0936b2a45", func := "faultline/faultlinelaw31.TopdownMinimal", spec := "topdownMinimal", unfollowed := true, recurses := true, apart := false, narrowed := true }
def TopdownMinimalUptoSaid : Prop := topdownMinimalUptoRow.holds Try.pinned (OpenSpec.upto topdownMinimalSpec)

/-- 'faultlinelaw32.BottomupSame', WHERE WHAT IT READS IS OF BULK AT MOST 1048576: true; the input reads as it did. -/
def bottomupSameUptoRow : OpenClaim := { program := "ytapniojbnochiaa", sum := "06c908c2b886d5c4f4de1df2c8c233dbb7f9aae984d92b06b674bea0936b2a45", func := "faultline/faultlinelaw32.BottomupSame", spec := "bottomupSame", unfollowed := true, recurses := true, apart := false, narrowed := true }
def BottomupSameUptoSaid : Prop := bottomupSameUptoRow.holds Try.pinned (OpenSpec.upto bottomupSameSpec)

end Rows
end Go.Proofs.Ytapniojbnochiaa
