/-
  NARROWER THAN 'FOR EVERY INPUT', by the rows' own cells (each row's printed sentence says how): EsaryProducts: laid · EsaryBounds: laid · EsaryLikeliest: laid · EsaryRises: laid · EsaryApart: laid · EsaryEncloses: laid · DisjointTops: laid.
  DERIVED. THE GIVEN ROWS OF THIS SEAT. 7 by the template 'for every input the law returns true; each argument reads behind the call as it read before'; 0 by the template 'total and deterministic' (their statements: YtofibjflkebkpaaGreatDoorTotals.lean).
  GIVEN WITH THE SEED: the statements are not yours to turn. If you find one false, say at which input.
  Laid BY PROGRAM, IN A SANDBOX (cutbox-rows.mjs): the forced cells as the released guide's own fill.sh prints them over the translation 19380cb3db1ac340… (all of the seat's roots in one cut). By AI agents, Wed Nov 11 2026. No macro, syntax, notation, axiom, sorry.
-/
import Derived.Test.YtofibjflkebkpaaGreatDoorChecked
import GoSem.PinnedTables
import GoSem.Claim
import GoSem.ClaimJoined
import GoSem.ClaimMapViews
import Derived.JoinedTies
import Derived.KernelRfl
namespace Go.Proofs.YtofibjflkebkpaaGreatDoor
/- THE CELL 'sum', in the pinned program and in every row, IS THE sha256 OF THE DUMP (.gsa) THAT YtofibjflkebkpaaGreatDoorProg.lean LOADS. Nothing in Lean hashes anything: it is a label: what it is worth is what the hold of that sum in a sandbox is worth. -/
noncomputable def Tryz.pinned : Pinned := { name := "ytofibjflkebkpaagreatdoor", sum := "19380cb3db1ac3401f32eaf73ddd99c7c5b1878e35700f683e2f03633bc954f5", checked := Tryz.checked }
namespace Rows
def none {H : Type} : Left H := { results := [], args := [] }

/- WHAT THE LISTED PACKAGE-LEVEL VARIABLES READ AS WHEN THE CALL BEGINS. Each datum BY PROGRAM (the guide's laid-datum.mjs) off the statement by which the dump's own 'gosem.cut.vars' lays the variable. In a bare row this is a premise. The card (YtofibjflkebkpaaGreatDoorCards.lean) ties it to the program's text. -/
def laid_unicode_utf8_acceptRanges {H : Type} : DataW H := .agg [.agg [.lit (.int .u8 128), .lit (.int .u8 191)], .agg [.lit (.int .u8 160), .lit (.int .u8 191)], .agg [.lit (.int .u8 128), .lit (.int .u8 159)], .agg [.lit (.int .u8 144), .lit (.int .u8 191)], .agg [.lit (.int .u8 128), .lit (.int .u8 143)], .agg [.lit (.int .u8 0), .lit (.int .u8 0)], .agg [.lit (.int .u8 0), .lit (.int .u8 0)], .agg [.lit (.int .u8 0), .lit (.int .u8 0)], .agg [.lit (.int .u8 0), .lit (.int .u8 0)], .agg [.lit (.int .u8 0), .lit (.int .u8 0)], .agg [.lit (.int .u8 0), .lit (.int .u8 0)], .agg [.lit (.int .u8 0), .lit (.int .u8 0)], .agg [.lit (.int .u8 0), .lit (.int .u8 0)], .agg [.lit (.int .u8 0), .lit (.int .u8 0)], .agg [.lit (.int .u8 0), .lit (.int .u8 0)], .agg [.lit (.int .u8 0), .lit (.int .u8 0)]]
/-- One of Go's own tables, pinned by name: the form's constant. -/
def laid_unicode_utf8_first : DataW Unit := Go.Pinned.utf8First

/-- 'faultlinelaw40.EsaryProducts': WHATEVER THE INPUT: true; the input reads as it did. -/
def esaryProductsSpec : ChangeSpec := { name := "esaryProducts", fn := fun _ => fun
  | [d1, d2] => { results := [.lit (.bool true)], args := [d1, d2] }
  | _ => none }
def esaryProductsRow : OpenClaim := { program := "ytofibjflkebkpaagreatdoor", sum := "19380cb3db1ac3401f32eaf73ddd99c7c5b1878e35700f683e2f03633bc954f5", func := "faultline/faultlinelaw40.EsaryProducts", spec := "esaryProducts", inPlace := ["internal/abi.NoEscape", "internal/bytealg.IndexByteString", "internal/bytealg.IndexString"], unfollowed := true, recurses := true, named := ["unicode/utf8.first", "unicode/utf8.acceptRanges", "internal/bytealg.MaxLen"], apart := false, laid := [("unicode/utf8.acceptRanges", laid_unicode_utf8_acceptRanges), ("unicode/utf8.first", laid_unicode_utf8_first)] }
def EsaryProductsSaid : Prop := esaryProductsRow.holds Tryz.pinned (OpenSpec.ofChange esaryProductsSpec)

/-- ITS FALSE NEIGHBOUR: 'it returns false'. Refute it at one input. -/
def esaryProductsWrong : ChangeSpec := { name := "esaryProducts", fn := fun _ => fun
  | [d1, d2] => { results := [.lit (.bool false)], args := [d1, d2] }
  | _ => none }
def EsaryProductsWrongFalsely : Prop := esaryProductsRow.holds Tryz.pinned (OpenSpec.ofChange esaryProductsWrong)

/-- 'faultlinelaw40.EsaryBounds': WHATEVER THE INPUT: true; the input reads as it did. -/
def esaryBoundsSpec : ChangeSpec := { name := "esaryBounds", fn := fun _ => fun
  | [d1, d2] => { results := [.lit (.bool true)], args := [d1, d2] }
  | _ => none }
def esaryBoundsRow : OpenClaim := { program := "ytofibjflkebkpaagreatdoor", sum := "19380cb3db1ac3401f32eaf73ddd99c7c5b1878e35700f683e2f03633bc954f5", func := "faultline/faultlinelaw40.EsaryBounds", spec := "esaryBounds", inPlace := ["internal/abi.NoEscape", "internal/bytealg.IndexByteString", "internal/bytealg.IndexString"], unfollowed := true, recurses := true, named := ["unicode/utf8.first", "unicode/utf8.acceptRanges", "internal/bytealg.MaxLen"], apart := false, laid := [("unicode/utf8.acceptRanges", laid_unicode_utf8_acceptRanges), ("unicode/utf8.first", laid_unicode_utf8_first)] }
def EsaryBoundsSaid : Prop := esaryBoundsRow.holds Tryz.pinned (OpenSpec.ofChange esaryBoundsSpec)

/-- ITS FALSE NEIGHBOUR: 'it returns false'. Refute it at one input. -/
def esaryBoundsWrong : ChangeSpec := { name := "esaryBounds", fn := fun _ => fun
  | [d1, d2] => { results := [.lit (.bool false)], args := [d1, d2] }
  | _ => none }
def EsaryBoundsWrongFalsely : Prop := esaryBoundsRow.holds Tryz.pinned (OpenSpec.ofChange esaryBoundsWrong)

/-- 'faultlinelaw40.EsaryLikeliest': WHATEVER THE INPUT: true; the input reads as it did. -/
def esaryLikeliestSpec : ChangeSpec := { name := "esaryLikeliest", fn := fun _ => fun
  | [d1, d2] => { results := [.lit (.bool true)], args := [d1, d2] }
  | _ => none }
def esaryLikeliestRow : OpenClaim := { program := "ytofibjflkebkpaagreatdoor", sum := "19380cb3db1ac3401f32eaf73ddd99c7c5b1878e35700f683e2f03633bc954f5", func := "faultline/faultlinelaw40.EsaryLikeliest", spec := "esaryLikeliest", inPlace := ["internal/abi.NoEscape", "internal/bytealg.IndexByteString", "internal/bytealg.IndexString"], unfollowed := true, recurses := true, named := ["unicode/utf8.first", "unicode/utf8.acceptRanges", "internal/bytealg.MaxLen"], apart := false, laid := [("unicode/utf8.acceptRanges", laid_unicode_utf8_acceptRanges), ("unicode/utf8.first", laid_unicode_utf8_first)] }
def EsaryLikeliestSaid : Prop := esaryLikeliestRow.holds Tryz.pinned (OpenSpec.ofChange esaryLikeliestSpec)

/-- ITS FALSE NEIGHBOUR: 'it returns false'. Refute it at one input. -/
def esaryLikeliestWrong : ChangeSpec := { name := "esaryLikeliest", fn := fun _ => fun
  | [d1, d2] => { results := [.lit (.bool false)], args := [d1, d2] }
  | _ => none }
def EsaryLikeliestWrongFalsely : Prop := esaryLikeliestRow.holds Tryz.pinned (OpenSpec.ofChange esaryLikeliestWrong)

/-- 'faultlinelaw40.EsaryRises': WHATEVER THE INPUT: true; the input reads as it did. -/
def esaryRisesSpec : ChangeSpec := { name := "esaryRises", fn := fun _ => fun
  | [d1, d2, d3] => { results := [.lit (.bool true)], args := [d1, d2, d3] }
  | _ => none }
def esaryRisesRow : OpenClaim := { program := "ytofibjflkebkpaagreatdoor", sum := "19380cb3db1ac3401f32eaf73ddd99c7c5b1878e35700f683e2f03633bc954f5", func := "faultline/faultlinelaw40.EsaryRises", spec := "esaryRises", inPlace := ["internal/abi.NoEscape", "internal/bytealg.IndexByteString", "internal/bytealg.IndexString"], unfollowed := true, recurses := true, named := ["unicode/utf8.first", "unicode/utf8.acceptRanges", "internal/bytealg.MaxLen"], apart := false, laid := [("unicode/utf8.acceptRanges", laid_unicode_utf8_acceptRanges), ("unicode/utf8.first", laid_unicode_utf8_first)] }
def EsaryRisesSaid : Prop := esaryRisesRow.holds Tryz.pinned (OpenSpec.ofChange esaryRisesSpec)

/-- ITS FALSE NEIGHBOUR: 'it returns false'. Refute it at one input. -/
def esaryRisesWrong : ChangeSpec := { name := "esaryRises", fn := fun _ => fun
  | [d1, d2, d3] => { results := [.lit (.bool false)], args := [d1, d2, d3] }
  | _ => none }
def EsaryRisesWrongFalsely : Prop := esaryRisesRow.holds Tryz.pinned (OpenSpec.ofChange esaryRisesWrong)

/-- 'faultlinelaw40.EsaryApart': WHATEVER THE INPUT: true; the input reads as it did. -/
def esaryApartSpec : ChangeSpec := { name := "esaryApart", fn := fun _ => fun
  | [d1, d2] => { results := [.lit (.bool true)], args := [d1, d2] }
  | _ => none }
def esaryApartRow : OpenClaim := { program := "ytofibjflkebkpaagreatdoor", sum := "19380cb3db1ac3401f32eaf73ddd99c7c5b1878e35700f683e2f03633bc954f5", func := "faultline/faultlinelaw40.EsaryApart", spec := "esaryApart", inPlace := ["internal/abi.NoEscape", "internal/bytealg.IndexByteString", "internal/bytealg.IndexString"], unfollowed := true, recurses := true, named := ["unicode/utf8.first", "unicode/utf8.acceptRanges", "internal/bytealg.MaxLen"], apart := false, laid := [("unicode/utf8.acceptRanges", laid_unicode_utf8_acceptRanges), ("unicode/utf8.first", laid_unicode_utf8_first)] }
def EsaryApartSaid : Prop := esaryApartRow.holds Tryz.pinned (OpenSpec.ofChange esaryApartSpec)

/-- ITS FALSE NEIGHBOUR: 'it returns false'. Refute it at one input. -/
def esaryApartWrong : ChangeSpec := { name := "esaryApart", fn := fun _ => fun
  | [d1, d2] => { results := [.lit (.bool false)], args := [d1, d2] }
  | _ => none }
def EsaryApartWrongFalsely : Prop := esaryApartRow.holds Tryz.pinned (OpenSpec.ofChange esaryApartWrong)

/-- 'faultlinelaw40.EsaryEncloses': WHATEVER THE INPUT: true; the input reads as it did. -/
def esaryEnclosesSpec : ChangeSpec := { name := "esaryEncloses", fn := fun _ => fun
  | [d1, d2] => { results := [.lit (.bool true)], args := [d1, d2] }
  | _ => none }
def esaryEnclosesRow : OpenClaim := { program := "ytofibjflkebkpaagreatdoor", sum := "19380cb3db1ac3401f32eaf73ddd99c7c5b1878e35700f683e2f03633bc954f5", func := "faultline/faultlinelaw40.EsaryEncloses", spec := "esaryEncloses", inPlace := ["internal/abi.NoEscape", "internal/bytealg.IndexByteString", "internal/bytealg.IndexString"], unfollowed := true, recurses := true, named := ["unicode/utf8.first", "unicode/utf8.acceptRanges", "internal/bytealg.MaxLen"], apart := false, laid := [("unicode/utf8.acceptRanges", laid_unicode_utf8_acceptRanges), ("unicode/utf8.first", laid_unicode_utf8_first)] }
def EsaryEnclosesSaid : Prop := esaryEnclosesRow.holds Tryz.pinned (OpenSpec.ofChange esaryEnclosesSpec)

/-- ITS FALSE NEIGHBOUR: 'it returns false'. Refute it at one input. -/
def esaryEnclosesWrong : ChangeSpec := { name := "esaryEncloses", fn := fun _ => fun
  | [d1, d2] => { results := [.lit (.bool false)], args := [d1, d2] }
  | _ => none }
def EsaryEnclosesWrongFalsely : Prop := esaryEnclosesRow.holds Tryz.pinned (OpenSpec.ofChange esaryEnclosesWrong)

/-- 'faultlinelaw38.DisjointTops': WHATEVER THE INPUT: true; the input reads as it did. -/
def disjointTopsSpec : ChangeSpec := { name := "disjointTops", fn := fun _ => fun
  | [d1, d2] => { results := [.lit (.bool true)], args := [d1, d2] }
  | _ => none }
def disjointTopsRow : OpenClaim := { program := "ytofibjflkebkpaagreatdoor", sum := "19380cb3db1ac3401f32eaf73ddd99c7c5b1878e35700f683e2f03633bc954f5", func := "faultline/faultlinelaw38.DisjointTops", spec := "disjointTops", inPlace := ["internal/abi.NoEscape", "internal/bytealg.IndexByteString", "internal/bytealg.IndexString"], unfollowed := true, recurses := true, named := ["unicode/utf8.first", "unicode/utf8.acceptRanges", "internal/bytealg.MaxLen"], apart := false, laid := [("unicode/utf8.acceptRanges", laid_unicode_utf8_acceptRanges), ("unicode/utf8.first", laid_unicode_utf8_first)] }
def DisjointTopsSaid : Prop := disjointTopsRow.holds Tryz.pinned (OpenSpec.ofChange disjointTopsSpec)

/-- ITS FALSE NEIGHBOUR: 'it returns false'. Refute it at one input. -/
def disjointTopsWrong : ChangeSpec := { name := "disjointTops", fn := fun _ => fun
  | [d1, d2] => { results := [.lit (.bool false)], args := [d1, d2] }
  | _ => none }
def DisjointTopsWrongFalsely : Prop := disjointTopsRow.holds Tryz.pinned (OpenSpec.ofChange disjointTopsWrong)

/- THE SECOND FORM. 'bulk': how many values and letters a reading holds, each counted each time it is reached (what is shared counts as often as it is met; a slice's spare places count too). A statement '..UptoSaid' is the law's where the arguments, and the package variables that the reading takes, are together of bulk at most 1048576: NARROWER than '..Said'. Prove '..Said' where nothing that the law and all that it calls make is longer than what came in: it says more and counts as full. Else prove '..UptoSaid'. A law counts once. -/
mutual
def uptoBulk {H : Type} : DataW H → Nat
  | .lit (.string bytes) => bytes.length + 1
  | .lit _ => 1
  | .nil => 1
  | .ptr d => uptoBulk d + 1
  | .slice elems spare => uptoBulkAll elems + uptoBulkAll spare + 1
  | .agg parts => uptoBulkAll parts + 1
  | .iface _ d => uptoBulk d + 1
  | .map entries => uptoBulkEntries entries + 1
  | .held _ => 1
def uptoBulkAll {H : Type} : List (DataW H) → Nat
  | [] => 0
  | d :: r => uptoBulk d + uptoBulkAll r
def uptoBulkEntries {H : Type} : List (Lit × DataW H) → Nat
  | [] => 0
  | x :: r => uptoBulkEntry x + uptoBulkEntries r
def uptoBulkEntry {H : Type} : Lit × DataW H → Nat
  | (.string bytes, d) => bytes.length + uptoBulk d + 1
  | (_, d) => uptoBulk d + 1
 end
def uptoSmall : (H : Type) → List (DataW H) → Bool := fun _ ds => decide (uptoBulkAll ds ≤ 1048576)
def OpenSpec.upto (s : _root_.Go.ChangeSpec) : _root_.Go.OpenSpec := { _root_.Go.OpenSpec.ofChange s with cond := some uptoSmall }

/-- 'faultlinelaw40.EsaryProducts', WHERE WHAT IT READS IS OF BULK AT MOST 1048576: true; the input reads as it did. -/
def esaryProductsUptoRow : OpenClaim := { program := "ytofibjflkebkpaagreatdoor", sum := "19380cb3db1ac3401f32eaf73ddd99c7c5b1878e35700f683e2f03633bc954f5", func := "faultline/faultlinelaw40.EsaryProducts", spec := "esaryProducts", inPlace := ["internal/abi.NoEscape", "internal/bytealg.IndexByteString", "internal/bytealg.IndexString"], unfollowed := true, recurses := true, named := ["unicode/utf8.first", "unicode/utf8.acceptRanges", "internal/bytealg.MaxLen"], apart := false, laid := [("unicode/utf8.acceptRanges", laid_unicode_utf8_acceptRanges), ("unicode/utf8.first", laid_unicode_utf8_first)], narrowed := true }
def EsaryProductsUptoSaid : Prop := esaryProductsUptoRow.holds Tryz.pinned (OpenSpec.upto esaryProductsSpec)

/-- 'faultlinelaw40.EsaryBounds', WHERE WHAT IT READS IS OF BULK AT MOST 1048576: true; the input reads as it did. -/
def esaryBoundsUptoRow : OpenClaim := { program := "ytofibjflkebkpaagreatdoor", sum := "19380cb3db1ac3401f32eaf73ddd99c7c5b1878e35700f683e2f03633bc954f5", func := "faultline/faultlinelaw40.EsaryBounds", spec := "esaryBounds", inPlace := ["internal/abi.NoEscape", "internal/bytealg.IndexByteString", "internal/bytealg.IndexString"], unfollowed := true, recurses := true, named := ["unicode/utf8.first", "unicode/utf8.acceptRanges", "internal/bytealg.MaxLen"], apart := false, laid := [("unicode/utf8.acceptRanges", laid_unicode_utf8_acceptRanges), ("unicode/utf8.first", laid_unicode_utf8_first)], narrowed := true }
def EsaryBoundsUptoSaid : Prop := esaryBoundsUptoRow.holds Tryz.pinned (OpenSpec.upto esaryBoundsSpec)

/-- 'faultlinelaw40.EsaryLikeliest', WHERE WHAT IT READS IS OF BULK AT MOST 1048576: true; the input reads as it did. -/
def esaryLikeliestUptoRow : OpenClaim := { program := "ytofibjflkebkpaagreatdoor", sum := "19380cb3db1ac3401f32eaf73ddd99c7c5b1878e35700f683e2f03633bc954f5", func := "faultline/faultlinelaw40.EsaryLikeliest", spec := "esaryLikeliest", inPlace := ["internal/abi.NoEscape", "internal/bytealg.IndexByteString", "internal/bytealg.IndexString"], unfollowed := true, recurses := true, named := ["unicode/utf8.first", "unicode/utf8.acceptRanges", "internal/bytealg.MaxLen"], apart := false, laid := [("unicode/utf8.acceptRanges", laid_unicode_utf8_acceptRanges), ("unicode/utf8.first", laid_unicode_utf8_first)], narrowed := true }
def EsaryLikeliestUptoSaid : Prop := esaryLikeliestUptoRow.holds Tryz.pinned (OpenSpec.upto esaryLikeliestSpec)

/-- 'faultlinelaw40.EsaryRises', WHERE WHAT IT READS IS OF BULK AT MOST 1048576: true; the input reads as it did. -/
def esaryRisesUptoRow : OpenClaim := { program := "ytofibjflkebkpaagreatdoor", sum := "19380cb3db1ac3401f32eaf73ddd99c7c5b1878e35700f683e2f03633bc954f5", func := "faultline/faultlinelaw40.EsaryRises", spec := "esaryRises", inPlace := ["internal/abi.NoEscape", "internal/bytealg.IndexByteString", "internal/bytealg.IndexString"], unfollowed := true, recurses := true, named := ["unicode/utf8.first", "unicode/utf8.acceptRanges", "internal/bytealg.MaxLen"], apart := false, laid := [("unicode/utf8.acceptRanges", laid_unicode_utf8_acceptRanges), ("unicode/utf8.first", laid_unicode_utf8_first)], narrowed := true }
def EsaryRisesUptoSaid : Prop := esaryRisesUptoRow.holds Tryz.pinned (OpenSpec.upto esaryRisesSpec)

/-- 'faultlinelaw40.EsaryApart', WHERE WHAT IT READS IS OF BULK AT MOST 1048576: true; the input reads as it did. -/
def esaryApartUptoRow : OpenClaim := { program := "ytofibjflkebkpaagreatdoor", sum := "19380cb3db1ac3401f32eaf73ddd99c7c5b1878e35700f683e2f03633bc954f5", func := "faultline/faultlinelaw40.EsaryApart", spec := "esaryApart", inPlace := ["internal/abi.NoEscape", "internal/bytealg.IndexByteString", "internal/bytealg.IndexString"], unfollowed := true, recurses := true, named := ["unicode/utf8.first", "unicode/utf8.acceptRanges", "internal/bytealg.MaxLen"], apart := false, laid := [("unicode/utf8.acceptRanges", laid_unicode_utf8_acceptRanges), ("unicode/utf8.first", laid_unicode_utf8_first)], narrowed := true }
def EsaryApartUptoSaid : Prop := esaryApartUptoRow.holds Tryz.pinned (OpenSpec.upto esaryApartSpec)

/-- 'faultlinelaw40.EsaryEncloses', WHERE WHAT IT READS IS OF BULK AT MOST 1048576: true; the input reads as it did. -/
def esaryEnclosesUptoRow : OpenClaim := { program := "ytofibjflkebkpaagreatdoor", sum := "19380cb3db1ac3401f32eaf73ddd99c7c5b1878e35700f683e2f03633bc954f5", func := "faultline/faultlinelaw40.EsaryEncloses", spec := "esaryEncloses", inPlace := ["internal/abi.NoEscape", "internal/bytealg.IndexByteString", "internal/bytealg.IndexString"], unfollowed := true, recurses := true, named := ["unicode/utf8.first", "unicode/utf8.acceptRanges", "internal/bytealg.MaxLen"], apart := false, laid := [("unicode/utf8.acceptRanges", laid_unicode_utf8_acceptRanges), ("unicode/utf8.first", laid_unicode_utf8_first)], narrowed := true }
def EsaryEnclosesUptoSaid : Prop := esaryEnclosesUptoRow.holds Tryz.pinned (OpenSpec.upto esaryEnclosesSpec)

/-- 'faultlinelaw38.DisjointTops', WHERE WHAT IT READS IS OF BULK AT MOST 1048576: true; the input reads as it did. -/
def disjointTopsUptoRow : OpenClaim := { program := "ytofibjflkebkpaagreatdoor", sum := "19380cb3db1ac3401f32eaf73ddd99c7c5b1878e35700f683e2f03633bc954f5", func := "faultline/faultlinelaw38.DisjointTops", spec := "disjointTops", inPlace := ["internal/abi.NoEscape", "internal/bytealg.IndexByteString", "internal/bytealg.IndexString"], unfollowed := true, recurses := true, named := ["unicode/utf8.first", "unicode/utf8.acceptRanges", "internal/bytealg.MaxLen"], apart := false, laid := [("unicode/utf8.acceptRanges", laid_unicode_utf8_acceptRanges), ("unicode/utf8.first", laid_unicode_utf8_first)], narrowed := true }
def DisjointTopsUptoSaid : Prop := disjointTopsUptoRow.holds Tryz.pinned (OpenSpec.upto disjointTopsSpec)

end Rows
end Go.Proofs.YtofibjflkebkpaaGreatDoor
