/-
  NARROWER THAN 'FOR EVERY INPUT', by the rows' own cells (each row's printed sentence says how): PolynomialSums: laid · PolynomialHomes: laid · PolynomialSplits: laid · PolynomialChecks: laid · PolynomialValues: laid · PolynomialChances: laid · PolynomialTrue: laid.
  DERIVED. THE GIVEN ROWS OF THIS SEAT. 7 by the template 'for every input the law returns true; each argument reads behind the call as it read before'; 0 by the template 'total and deterministic' (their statements: YtpaedhlacbpmpaaGreatDoorTotals.lean).
  GIVEN WITH THE SEED: the statements are not yours to turn. If you find one false, say at which input.
  Laid BY PROGRAM, IN A SANDBOX (cutbox-rows.mjs): the forced cells as the released guide's own fill.sh prints them over the translation 4d5491d9101f2c96… (all of the seat's roots in one cut). By AI agents, Wed Nov 11 2026. No macro, syntax, notation, axiom, sorry.
-/
import Derived.Test.YtpaedhlacbpmpaaGreatDoorChecked
import GoSem.PinnedTables
import GoSem.Claim
import GoSem.ClaimJoined
import GoSem.ClaimMapViews
import Derived.JoinedTies
import Derived.KernelRfl
namespace Go.Proofs.YtpaedhlacbpmpaaGreatDoor
/- THE CELL 'sum', in the pinned program and in every row, IS THE sha256 OF THE DUMP (.gsa) THAT YtpaedhlacbpmpaaGreatDoorProg.lean LOADS. Nothing in Lean hashes anything: it is a label: what it is worth is what the hold of that sum in a sandbox is worth. -/
noncomputable def Tryz.pinned : Pinned := { name := "ytpaedhlacbpmpaagreatdoor", sum := "4d5491d9101f2c96a52da16c862870e578ee7f75765ea7b5db18784bedbf2340", checked := Tryz.checked }
namespace Rows
def none {H : Type} : Left H := { results := [], args := [] }

/- WHAT THE LISTED PACKAGE-LEVEL VARIABLES READ AS WHEN THE CALL BEGINS. Each datum BY PROGRAM (the guide's laid-datum.mjs) off the statement by which the dump's own 'gosem.cut.vars' lays the variable. In a bare row this is a premise. The card (YtpaedhlacbpmpaaGreatDoorCards.lean) ties it to the program's text. -/
def laid_unicode_utf8_acceptRanges {H : Type} : DataW H := .agg [.agg [.lit (.int .u8 128), .lit (.int .u8 191)], .agg [.lit (.int .u8 160), .lit (.int .u8 191)], .agg [.lit (.int .u8 128), .lit (.int .u8 159)], .agg [.lit (.int .u8 144), .lit (.int .u8 191)], .agg [.lit (.int .u8 128), .lit (.int .u8 143)], .agg [.lit (.int .u8 0), .lit (.int .u8 0)], .agg [.lit (.int .u8 0), .lit (.int .u8 0)], .agg [.lit (.int .u8 0), .lit (.int .u8 0)], .agg [.lit (.int .u8 0), .lit (.int .u8 0)], .agg [.lit (.int .u8 0), .lit (.int .u8 0)], .agg [.lit (.int .u8 0), .lit (.int .u8 0)], .agg [.lit (.int .u8 0), .lit (.int .u8 0)], .agg [.lit (.int .u8 0), .lit (.int .u8 0)], .agg [.lit (.int .u8 0), .lit (.int .u8 0)], .agg [.lit (.int .u8 0), .lit (.int .u8 0)], .agg [.lit (.int .u8 0), .lit (.int .u8 0)]]
/-- One of Go's own tables, pinned by name: the form's constant. -/
def laid_unicode_utf8_first : DataW Unit := Go.Pinned.utf8First

/-- 'faultlinelaw20.PolynomialSums': WHATEVER THE INPUT: true; the input reads as it did. -/
def polynomialSumsSpec : ChangeSpec := { name := "polynomialSums", fn := fun _ => fun
  | [d1, d2] => { results := [.lit (.bool true)], args := [d1, d2] }
  | _ => none }
def polynomialSumsRow : OpenClaim := { program := "ytpaedhlacbpmpaagreatdoor", sum := "4d5491d9101f2c96a52da16c862870e578ee7f75765ea7b5db18784bedbf2340", func := "faultline/faultlinelaw20.PolynomialSums", spec := "polynomialSums", inPlace := ["internal/abi.NoEscape", "internal/bytealg.IndexByteString", "internal/bytealg.IndexString"], unfollowed := true, recurses := true, named := ["unicode/utf8.first", "unicode/utf8.acceptRanges", "internal/bytealg.MaxLen"], apart := false, laid := [("unicode/utf8.acceptRanges", laid_unicode_utf8_acceptRanges), ("unicode/utf8.first", laid_unicode_utf8_first)] }
def PolynomialSumsSaid : Prop := polynomialSumsRow.holds Tryz.pinned (OpenSpec.ofChange polynomialSumsSpec)

/-- ITS FALSE NEIGHBOUR: 'it returns false'. Refute it at one input. -/
def polynomialSumsWrong : ChangeSpec := { name := "polynomialSums", fn := fun _ => fun
  | [d1, d2] => { results := [.lit (.bool false)], args := [d1, d2] }
  | _ => none }
def PolynomialSumsWrongFalsely : Prop := polynomialSumsRow.holds Tryz.pinned (OpenSpec.ofChange polynomialSumsWrong)

/-- 'faultlinelaw20.PolynomialHomes': WHATEVER THE INPUT: true; the input reads as it did. -/
def polynomialHomesSpec : ChangeSpec := { name := "polynomialHomes", fn := fun _ => fun
  | [d1, d2, d3] => { results := [.lit (.bool true)], args := [d1, d2, d3] }
  | _ => none }
def polynomialHomesRow : OpenClaim := { program := "ytpaedhlacbpmpaagreatdoor", sum := "4d5491d9101f2c96a52da16c862870e578ee7f75765ea7b5db18784bedbf2340", func := "faultline/faultlinelaw20.PolynomialHomes", spec := "polynomialHomes", inPlace := ["internal/abi.NoEscape", "internal/bytealg.IndexByteString", "internal/bytealg.IndexString"], unfollowed := true, recurses := true, named := ["unicode/utf8.first", "unicode/utf8.acceptRanges", "internal/bytealg.MaxLen"], apart := false, laid := [("unicode/utf8.acceptRanges", laid_unicode_utf8_acceptRanges), ("unicode/utf8.first", laid_unicode_utf8_first)] }
def PolynomialHomesSaid : Prop := polynomialHomesRow.holds Tryz.pinned (OpenSpec.ofChange polynomialHomesSpec)

/-- ITS FALSE NEIGHBOUR: 'it returns false'. Refute it at one input. -/
def polynomialHomesWrong : ChangeSpec := { name := "polynomialHomes", fn := fun _ => fun
  | [d1, d2, d3] => { results := [.lit (.bool false)], args := [d1, d2, d3] }
  | _ => none }
def PolynomialHomesWrongFalsely : Prop := polynomialHomesRow.holds Tryz.pinned (OpenSpec.ofChange polynomialHomesWrong)

/-- 'faultlinelaw20.PolynomialSplits': WHATEVER THE INPUT: true; the input reads as it did. -/
def polynomialSplitsSpec : ChangeSpec := { name := "polynomialSplits", fn := fun _ => fun
  | [d1, d2] => { results := [.lit (.bool true)], args := [d1, d2] }
  | _ => none }
def polynomialSplitsRow : OpenClaim := { program := "ytpaedhlacbpmpaagreatdoor", sum := "4d5491d9101f2c96a52da16c862870e578ee7f75765ea7b5db18784bedbf2340", func := "faultline/faultlinelaw20.PolynomialSplits", spec := "polynomialSplits", inPlace := ["internal/abi.NoEscape", "internal/bytealg.IndexByteString", "internal/bytealg.IndexString"], unfollowed := true, recurses := true, named := ["unicode/utf8.first", "unicode/utf8.acceptRanges", "internal/bytealg.MaxLen"], apart := false, laid := [("unicode/utf8.acceptRanges", laid_unicode_utf8_acceptRanges), ("unicode/utf8.first", laid_unicode_utf8_first)] }
def PolynomialSplitsSaid : Prop := polynomialSplitsRow.holds Tryz.pinned (OpenSpec.ofChange polynomialSplitsSpec)

/-- ITS FALSE NEIGHBOUR: 'it returns false'. Refute it at one input. -/
def polynomialSplitsWrong : ChangeSpec := { name := "polynomialSplits", fn := fun _ => fun
  | [d1, d2] => { results := [.lit (.bool false)], args := [d1, d2] }
  | _ => none }
def PolynomialSplitsWrongFalsely : Prop := polynomialSplitsRow.holds Tryz.pinned (OpenSpec.ofChange polynomialSplitsWrong)

/-- 'faultlinelaw20.PolynomialChecks': WHATEVER THE INPUT: true; the input reads as it did. -/
def polynomialChecksSpec : ChangeSpec := { name := "polynomialChecks", fn := fun _ => fun
  | [d1, d2, d3] => { results := [.lit (.bool true)], args := [d1, d2, d3] }
  | _ => none }
def polynomialChecksRow : OpenClaim := { program := "ytpaedhlacbpmpaagreatdoor", sum := "4d5491d9101f2c96a52da16c862870e578ee7f75765ea7b5db18784bedbf2340", func := "faultline/faultlinelaw20.PolynomialChecks", spec := "polynomialChecks", inPlace := ["internal/abi.NoEscape", "internal/bytealg.IndexByteString", "internal/bytealg.IndexString"], unfollowed := true, recurses := true, named := ["unicode/utf8.first", "unicode/utf8.acceptRanges", "internal/bytealg.MaxLen"], apart := false, laid := [("unicode/utf8.acceptRanges", laid_unicode_utf8_acceptRanges), ("unicode/utf8.first", laid_unicode_utf8_first)] }
def PolynomialChecksSaid : Prop := polynomialChecksRow.holds Tryz.pinned (OpenSpec.ofChange polynomialChecksSpec)

/-- ITS FALSE NEIGHBOUR: 'it returns false'. Refute it at one input. -/
def polynomialChecksWrong : ChangeSpec := { name := "polynomialChecks", fn := fun _ => fun
  | [d1, d2, d3] => { results := [.lit (.bool false)], args := [d1, d2, d3] }
  | _ => none }
def PolynomialChecksWrongFalsely : Prop := polynomialChecksRow.holds Tryz.pinned (OpenSpec.ofChange polynomialChecksWrong)

/-- 'faultlinelaw20.PolynomialValues': WHATEVER THE INPUT: true; the input reads as it did. -/
def polynomialValuesSpec : ChangeSpec := { name := "polynomialValues", fn := fun _ => fun
  | [d1, d2, d3] => { results := [.lit (.bool true)], args := [d1, d2, d3] }
  | _ => none }
def polynomialValuesRow : OpenClaim := { program := "ytpaedhlacbpmpaagreatdoor", sum := "4d5491d9101f2c96a52da16c862870e578ee7f75765ea7b5db18784bedbf2340", func := "faultline/faultlinelaw20.PolynomialValues", spec := "polynomialValues", inPlace := ["internal/abi.NoEscape", "internal/bytealg.IndexByteString", "internal/bytealg.IndexString"], unfollowed := true, recurses := true, named := ["unicode/utf8.first", "unicode/utf8.acceptRanges", "internal/bytealg.MaxLen"], apart := false, laid := [("unicode/utf8.acceptRanges", laid_unicode_utf8_acceptRanges), ("unicode/utf8.first", laid_unicode_utf8_first)] }
def PolynomialValuesSaid : Prop := polynomialValuesRow.holds Tryz.pinned (OpenSpec.ofChange polynomialValuesSpec)

/-- ITS FALSE NEIGHBOUR: 'it returns false'. Refute it at one input. -/
def polynomialValuesWrong : ChangeSpec := { name := "polynomialValues", fn := fun _ => fun
  | [d1, d2, d3] => { results := [.lit (.bool false)], args := [d1, d2, d3] }
  | _ => none }
def PolynomialValuesWrongFalsely : Prop := polynomialValuesRow.holds Tryz.pinned (OpenSpec.ofChange polynomialValuesWrong)

/-- 'faultlinelaw20.PolynomialChances': WHATEVER THE INPUT: true; the input reads as it did. -/
def polynomialChancesSpec : ChangeSpec := { name := "polynomialChances", fn := fun _ => fun
  | [d1, d2] => { results := [.lit (.bool true)], args := [d1, d2] }
  | _ => none }
def polynomialChancesRow : OpenClaim := { program := "ytpaedhlacbpmpaagreatdoor", sum := "4d5491d9101f2c96a52da16c862870e578ee7f75765ea7b5db18784bedbf2340", func := "faultline/faultlinelaw20.PolynomialChances", spec := "polynomialChances", inPlace := ["internal/abi.NoEscape", "internal/bytealg.IndexByteString", "internal/bytealg.IndexString"], unfollowed := true, recurses := true, named := ["unicode/utf8.first", "unicode/utf8.acceptRanges", "internal/bytealg.MaxLen"], apart := false, laid := [("unicode/utf8.acceptRanges", laid_unicode_utf8_acceptRanges), ("unicode/utf8.first", laid_unicode_utf8_first)] }
def PolynomialChancesSaid : Prop := polynomialChancesRow.holds Tryz.pinned (OpenSpec.ofChange polynomialChancesSpec)

/-- ITS FALSE NEIGHBOUR: 'it returns false'. Refute it at one input. -/
def polynomialChancesWrong : ChangeSpec := { name := "polynomialChances", fn := fun _ => fun
  | [d1, d2] => { results := [.lit (.bool false)], args := [d1, d2] }
  | _ => none }
def PolynomialChancesWrongFalsely : Prop := polynomialChancesRow.holds Tryz.pinned (OpenSpec.ofChange polynomialChancesWrong)

/-- 'faultlinelaw20.PolynomialTrue': WHATEVER THE INPUT: true; the input reads as it did. -/
def polynomialTrueSpec : ChangeSpec := { name := "polynomialTrue", fn := fun _ => fun
  | [d1, d2] => { results := [.lit (.bool true)], args := [d1, d2] }
  | _ => none }
def polynomialTrueRow : OpenClaim := { program := "ytpaedhlacbpmpaagreatdoor", sum := "4d5491d9101f2c96a52da16c862870e578ee7f75765ea7b5db18784bedbf2340", func := "faultline/faultlinelaw20.PolynomialTrue", spec := "polynomialTrue", inPlace := ["internal/abi.NoEscape", "internal/bytealg.IndexByteString", "internal/bytealg.IndexString"], unfollowed := true, recurses := true, named := ["unicode/utf8.first", "unicode/utf8.acceptRanges", "internal/bytealg.MaxLen"], apart := false, laid := [("unicode/utf8.acceptRanges", laid_unicode_utf8_acceptRanges), ("unicode/utf8.first", laid_unicode_utf8_first)] }
def PolynomialTrueSaid : Prop := polynomialTrueRow.holds Tryz.pinned (OpenSpec.ofChange polynomialTrueSpec)

/-- ITS FALSE NEIGHBOUR: 'it returns false'. Refute it at one input. -/
def polynomialTrueWrong : ChangeSpec := { name := "polynomialTrue", fn := fun _ => fun
  | [d1, d2] => { results := [.lit (.bool false)], args := [d1, d2] }
  | _ => none }
def PolynomialTrueWrongFalsely : Prop := polynomialTrueRow.holds Tryz.pinned (OpenSpec.ofChange polynomialTrueWrong)

/- THE SECOND FORM. 'bulk': how many values and letters a reading holds, each counted each time it is reached (what is shared counts as often as it is met; a slice's spare places count too). A statement '..UptoSaid' is the law's where the arguments, and the package variables that the reading takes, are together of bulk at most 1048576: NARROWER than '..Said'. Prove '..Said' where nothing that the law and all that it calls make is longer than what came in: it says more and counts as full. Else prove '..UptoSaid'. A law counts once. -/
mutual
def uptoBulk {H : Type} : DataW H → Nat
  | .lit (.string bytes) => bytes.length + 1
  | .lit _ => 1
  | .nil => 1
  | .ptr d => uptoBulk d + 1
  | .slice elems spare => uptoBulkAll elems + uptoBulkAll spare + 1
  | .agg parts => uptoBulkAll parts + 1
  | .iface _ d => uptoBulk d + 1
  | .map entries => uptoBulkEntries entries + 1
  | .held _ => 1
def uptoBulkAll {H : Type} : List (DataW H) → Nat
  | [] => 0
  | d :: r => uptoBulk d + uptoBulkAll r
def uptoBulkEntries {H : Type} : List (Lit × DataW H) → Nat
  | [] => 0
  | x :: r => uptoBulkEntry x + uptoBulkEntries r
def uptoBulkEntry {H : Type} : Lit × DataW H → Nat
  | (.string bytes, d) => bytes.length + uptoBulk d + 1
  | (_, d) => uptoBulk d + 1
 end
def uptoSmall : (H : Type) → List (DataW H) → Bool := fun _ ds => decide (uptoBulkAll ds ≤ 1048576)
def OpenSpec.upto (s : _root_.Go.ChangeSpec) : _root_.Go.OpenSpec := { _root_.Go.OpenSpec.ofChange s with cond := some uptoSmall }

/-- 'faultlinelaw20.PolynomialSums', WHERE WHAT IT READS IS OF BULK AT MOST 1048576: true; the input reads as it did. -/
def polynomialSumsUptoRow : OpenClaim := { program := "ytpaedhlacbpmpaagreatdoor", sum := "4d5491d9101f2c96a52da16c862870e578ee7f75765ea7b5db18784bedbf2340", func := "faultline/faultlinelaw20.PolynomialSums", spec := "polynomialSums", inPlace := ["internal/abi.NoEscape", "internal/bytealg.IndexByteString", "internal/bytealg.IndexString"], unfollowed := true, recurses := true, named := ["unicode/utf8.first", "unicode/utf8.acceptRanges", "internal/bytealg.MaxLen"], apart := false, laid := [("unicode/utf8.acceptRanges", laid_unicode_utf8_acceptRanges), ("unicode/utf8.first", laid_unicode_utf8_first)], narrowed := true }
def PolynomialSumsUptoSaid : Prop := polynomialSumsUptoRow.holds Tryz.pinned (OpenSpec.upto polynomialSumsSpec)

/-- 'faultlinelaw20.PolynomialHomes', WHERE WHAT IT READS IS OF BULK AT MOST 1048576: true; the input reads as it did. -/
def polynomialHomesUptoRow : OpenClaim := { program := "ytpaedhlacbpmpaagreatdoor", sum := "4d5491d9101f2c96a52da16c862870e578ee7f75765ea7b5db18784bedbf2340", func := "faultline/faultlinelaw20.PolynomialHomes", spec := "polynomialHomes", inPlace := ["internal/abi.NoEscape", "internal/bytealg.IndexByteString", "internal/bytealg.IndexString"], unfollowed := true, recurses := true, named := ["unicode/utf8.first", "unicode/utf8.acceptRanges", "internal/bytealg.MaxLen"], apart := false, laid := [("unicode/utf8.acceptRanges", laid_unicode_utf8_acceptRanges), ("unicode/utf8.first", laid_unicode_utf8_first)], narrowed := true }
def PolynomialHomesUptoSaid : Prop := polynomialHomesUptoRow.holds Tryz.pinned (OpenSpec.upto polynomialHomesSpec)

/-- 'faultlinelaw20.PolynomialSplits', WHERE WHAT IT READS IS OF BULK AT MOST 1048576: true; the input reads as it did. -/
def polynomialSplitsUptoRow : OpenClaim := { program := "ytpaedhlacbpmpaagreatdoor", sum := "4d5491d9101f2c96a52da16c862870e578ee7f75765ea7b5db18784bedbf2340", func := "faultline/faultlinelaw20.PolynomialSplits", spec := "polynomialSplits", inPlace := ["internal/abi.NoEscape", "internal/bytealg.IndexByteString", "internal/bytealg.IndexString"], unfollowed := true, recurses := true, named := ["unicode/utf8.first", "unicode/utf8.acceptRanges", "internal/bytealg.MaxLen"], apart := false, laid := [("unicode/utf8.acceptRanges", laid_unicode_utf8_acceptRanges), ("unicode/utf8.first", laid_unicode_utf8_first)], narrowed := true }
def PolynomialSplitsUptoSaid : Prop := polynomialSplitsUptoRow.holds Tryz.pinned (OpenSpec.upto polynomialSplitsSpec)

/-- 'faultlinelaw20.PolynomialChecks', WHERE WHAT IT READS IS OF BULK AT MOST 1048576: true; the input reads as it did. -/
def polynomialChecksUptoRow : OpenClaim := { program := "ytpaedhlacbpmpaagreatdoor", sum := "4d5491d9101f2c96a52da16c862870e578ee7f75765ea7b5db18784bedbf2340", func := "faultline/faultlinelaw20.PolynomialChecks", spec := "polynomialChecks", inPlace := ["internal/abi.NoEscape", "internal/bytealg.IndexByteString", "internal/bytealg.IndexString"], unfollowed := true, recurses := true, named := ["unicode/utf8.first", "unicode/utf8.acceptRanges", "internal/bytealg.MaxLen"], apart := false, laid := [("unicode/utf8.acceptRanges", laid_unicode_utf8_acceptRanges), ("unicode/utf8.first", laid_unicode_utf8_first)], narrowed := true }
def PolynomialChecksUptoSaid : Prop := polynomialChecksUptoRow.holds Tryz.pinned (OpenSpec.upto polynomialChecksSpec)

/-- 'faultlinelaw20.PolynomialValues', WHERE WHAT IT READS IS OF BULK AT MOST 1048576: true; the input reads as it did. -/
def polynomialValuesUptoRow : OpenClaim := { program := "ytpaedhlacbpmpaagreatdoor", sum := "4d5491d9101f2c96a52da16c862870e578ee7f75765ea7b5db18784bedbf2340", func := "faultline/faultlinelaw20.PolynomialValues", spec := "polynomialValues", inPlace := ["internal/abi.NoEscape", "internal/bytealg.IndexByteString", "internal/bytealg.IndexString"], unfollowed := true, recurses := true, named := ["unicode/utf8.first", "unicode/utf8.acceptRanges", "internal/bytealg.MaxLen"], apart := false, laid := [("unicode/utf8.acceptRanges", laid_unicode_utf8_acceptRanges), ("unicode/utf8.first", laid_unicode_utf8_first)], narrowed := true }
def PolynomialValuesUptoSaid : Prop := polynomialValuesUptoRow.holds Tryz.pinned (OpenSpec.upto polynomialValuesSpec)

/-- 'faultlinelaw20.PolynomialChances', WHERE WHAT IT READS IS OF BULK AT MOST 1048576: true; the input reads as it did. -/
def polynomialChancesUptoRow : OpenClaim := { program := "ytpaedhlacbpmpaagreatdoor", sum := "4d5491d9101f2c96a52da16c862870e578ee7f75765ea7b5db18784bedbf2340", func := "faultline/faultlinelaw20.PolynomialChances", spec := "polynomialChances", inPlace := ["internal/abi.NoEscape", "internal/bytealg.IndexByteString", "internal/bytealg.IndexString"], unfollowed := true, recurses := true, named := ["unicode/utf8.first", "unicode/utf8.acceptRanges", "internal/bytealg.MaxLen"], apart := false, laid := [("unicode/utf8.acceptRanges", laid_unicode_utf8_acceptRanges), ("unicode/utf8.first", laid_unicode_utf8_first)], narrowed := true }
def PolynomialChancesUptoSaid : Prop := polynomialChancesUptoRow.holds Tryz.pinned (OpenSpec.upto polynomialChancesSpec)

/-- 'faultlinelaw20.PolynomialTrue', WHERE WHAT IT READS IS OF BULK AT MOST 1048576: true; the input reads as it did. -/
def polynomialTrueUptoRow : OpenClaim := { program := "ytpaedhlacbpmpaagreatdoor", sum := "4d5491d9101f2c96a52da16c862870e578ee7f75765ea7b5db18784bedbf2340", func := "faultline/faultlinelaw20.PolynomialTrue", spec := "polynomialTrue", inPlace := ["internal/abi.NoEscape", "internal/bytealg.IndexByteString", "internal/bytealg.IndexString"], unfollowed := true, recurses := true, named := ["unicode/utf8.first", "unicode/utf8.acceptRanges", "internal/bytealg.MaxLen"], apart := false, laid := [("unicode/utf8.acceptRanges", laid_unicode_utf8_acceptRanges), ("unicode/utf8.first", laid_unicode_utf8_first)], narrowed := true }
def PolynomialTrueUptoSaid : Prop := polynomialTrueUptoRow.holds Tryz.pinned (OpenSpec.upto polynomialTrueSpec)

end Rows
end Go.Proofs.YtpaedhlacbpmpaaGreatDoor
