/-
  DERIVED. GIVEN WITH THE SEED: THE CARDS: each row of YtbkchheikkbebaaGreatDoorRows.lean that lists a variable, with what it lists TIED to the program's text (the seventh form; the later family's looks); each row that meets fmt, with fmt's text TOLD by the authors' own Lean function (tested against real Go, not proved from fmt's source: count such statements apart). THE CARD IS WHAT COUNTS. Prove the row's statement (the work); the ties are given (YtbkchheikkbebaaGreatDoorTie.lean); close each card by the builder's one call (the guide's Derived/Test/ToyasCard.lean, 'card_holds'). Laid BY PROGRAM, IN A SANDBOX (cutbox-door.mjs). By AI agents, Wed Nov 11 2026. No macro, syntax, notation, axiom, sorry.
-/
import Derived.Test.YtbkchheikkbebaaGreatDoorRows
import GoSem.ClaimSeven
namespace Go.Proofs.YtbkchheikkbebaaGreatDoor
namespace Rows

/-- THE TIED CARD OF 'faultlinelaw38.DisjointCubes'. -/
def disjointCubesCard : Claim7 := { stood := { row := disjointCubesRow, standIns := [], harness := (true, "3399edabd4861bf0e64f06564a9d90a90514eb3b736d995d6b03d2bf706bead7"), looks := true }, kinds := [], alts := [], laidByText := true, laidKinds := [.data, .pinned], laidTests := true, laidLooks := .later }
def DisjointCubesCardSaid : Prop := Claim7.holds Tryz.pinned (.plain (OpenSpec.ofChange disjointCubesSpec)) disjointCubesCard

/-- THE TIED CARD OF 'faultlinelaw38.DisjointProbs'. -/
def disjointProbsCard : Claim7 := { stood := { row := disjointProbsRow, standIns := [], harness := (true, "3399edabd4861bf0e64f06564a9d90a90514eb3b736d995d6b03d2bf706bead7"), looks := true }, kinds := [], alts := [], laidByText := true, laidKinds := [.data, .pinned], laidTests := true, laidLooks := .later }
def DisjointProbsCardSaid : Prop := Claim7.holds Tryz.pinned (.plain (OpenSpec.ofChange disjointProbsSpec)) disjointProbsCard

/-- THE TIED CARD OF 'faultlinelaw38.DisjointStates'. -/
def disjointStatesCard : Claim7 := { stood := { row := disjointStatesRow, standIns := [], harness := (true, "3399edabd4861bf0e64f06564a9d90a90514eb3b736d995d6b03d2bf706bead7"), looks := true }, kinds := [], alts := [], laidByText := true, laidKinds := [.data, .pinned], laidTests := true, laidLooks := .later }
def DisjointStatesCardSaid : Prop := Claim7.holds Tryz.pinned (.plain (OpenSpec.ofChange disjointStatesSpec)) disjointStatesCard

/-- THE TIED CARD OF 'faultlinelaw38.DisjointBefore'. -/
def disjointBeforeCard : Claim7 := { stood := { row := disjointBeforeRow, standIns := [], harness := (true, "3399edabd4861bf0e64f06564a9d90a90514eb3b736d995d6b03d2bf706bead7"), looks := true }, kinds := [], alts := [], laidByText := true, laidKinds := [.data, .pinned], laidTests := true, laidLooks := .later }
def DisjointBeforeCardSaid : Prop := Claim7.holds Tryz.pinned (.plain (OpenSpec.ofChange disjointBeforeSpec)) disjointBeforeCard

/-- THE TIED CARD OF 'faultlinelaw39.InclusionBounds'. -/
def inclusionBoundsCard : Claim7 := { stood := { row := inclusionBoundsRow, standIns := [], harness := (true, "3399edabd4861bf0e64f06564a9d90a90514eb3b736d995d6b03d2bf706bead7"), looks := true }, kinds := [], alts := [], laidByText := true, laidKinds := [.data, .pinned], laidTests := true, laidLooks := .later }
def InclusionBoundsCardSaid : Prop := Claim7.holds Tryz.pinned (.plain (OpenSpec.ofChange inclusionBoundsSpec)) inclusionBoundsCard

/-- THE TIED CARD OF 'faultlinelaw39.InclusionAlternates'. -/
def inclusionAlternatesCard : Claim7 := { stood := { row := inclusionAlternatesRow, standIns := [], harness := (true, "3399edabd4861bf0e64f06564a9d90a90514eb3b736d995d6b03d2bf706bead7"), looks := true }, kinds := [], alts := [], laidByText := true, laidKinds := [.data, .pinned], laidTests := true, laidLooks := .later }
def InclusionAlternatesCardSaid : Prop := Claim7.holds Tryz.pinned (.plain (OpenSpec.ofChange inclusionAlternatesSpec)) inclusionAlternatesCard

/-- THE TIED CARD OF 'faultlinelaw38.DisjointRange'. -/
def disjointRangeCard : Claim7 := { stood := { row := disjointRangeRow, standIns := [], harness := (true, "3399edabd4861bf0e64f06564a9d90a90514eb3b736d995d6b03d2bf706bead7"), looks := true }, kinds := [], alts := [], laidByText := true, laidKinds := [.data, .pinned], laidTests := true, laidLooks := .later }
def DisjointRangeCardSaid : Prop := Claim7.holds Tryz.pinned (.plain (OpenSpec.ofChange disjointRangeSpec)) disjointRangeCard

/-- THE TIED CARD OF 'faultlinelaw39.InclusionSums'. -/
def inclusionSumsCard : Claim7 := { stood := { row := inclusionSumsRow, standIns := [], harness := (true, "3399edabd4861bf0e64f06564a9d90a90514eb3b736d995d6b03d2bf706bead7"), looks := true }, kinds := [], alts := [], laidByText := true, laidKinds := [.data, .pinned], laidTests := true, laidLooks := .later }
def InclusionSumsCardSaid : Prop := Claim7.holds Tryz.pinned (.plain (OpenSpec.ofChange inclusionSumsSpec)) inclusionSumsCard

/-- THE TIED CARD OF 'faultlinelaw39.InclusionNarrows'. -/
def inclusionNarrowsCard : Claim7 := { stood := { row := inclusionNarrowsRow, standIns := [], harness := (true, "3399edabd4861bf0e64f06564a9d90a90514eb3b736d995d6b03d2bf706bead7"), looks := true }, kinds := [], alts := [], laidByText := true, laidKinds := [.data, .pinned], laidTests := true, laidLooks := .later }
def InclusionNarrowsCardSaid : Prop := Claim7.holds Tryz.pinned (.plain (OpenSpec.ofChange inclusionNarrowsSpec)) inclusionNarrowsCard

/-- THE TIED CARD OF 'faultlinelaw39.InclusionTotals'. -/
def inclusionTotalsCard : Claim7 := { stood := { row := inclusionTotalsRow, standIns := [], harness := (true, "3399edabd4861bf0e64f06564a9d90a90514eb3b736d995d6b03d2bf706bead7"), looks := true }, kinds := [], alts := [], laidByText := true, laidKinds := [.data, .pinned], laidTests := true, laidLooks := .later }
def InclusionTotalsCardSaid : Prop := Claim7.holds Tryz.pinned (.plain (OpenSpec.ofChange inclusionTotalsSpec)) inclusionTotalsCard

/-- THE TIED CARD OF 'faultlinelaw38.DisjointTops'. -/
def disjointTopsCard : Claim7 := { stood := { row := disjointTopsRow, standIns := [], harness := (true, "3399edabd4861bf0e64f06564a9d90a90514eb3b736d995d6b03d2bf706bead7"), looks := true }, kinds := [], alts := [], laidByText := true, laidKinds := [.data, .pinned], laidTests := true, laidLooks := .later }
def DisjointTopsCardSaid : Prop := Claim7.holds Tryz.pinned (.plain (OpenSpec.ofChange disjointTopsSpec)) disjointTopsCard

/-- THE TIED CARD OF 'faultlinelaw38.DisjointExact'. -/
def disjointExactCard : Claim7 := { stood := { row := disjointExactRow, standIns := [], harness := (true, "3399edabd4861bf0e64f06564a9d90a90514eb3b736d995d6b03d2bf706bead7"), looks := true }, kinds := [], alts := [], laidByText := true, laidKinds := [.data, .pinned], laidTests := true, laidLooks := .later }
def DisjointExactCardSaid : Prop := Claim7.holds Tryz.pinned (.plain (OpenSpec.ofChange disjointExactSpec)) disjointExactCard

/-- THE TIED CARD OF 'faultlinelaw40.EsaryProducts'. -/
def esaryProductsCard : Claim7 := { stood := { row := esaryProductsRow, standIns := [], harness := (true, "3399edabd4861bf0e64f06564a9d90a90514eb3b736d995d6b03d2bf706bead7"), looks := true }, kinds := [], alts := [], laidByText := true, laidKinds := [.data, .pinned], laidTests := true, laidLooks := .later }
def EsaryProductsCardSaid : Prop := Claim7.holds Tryz.pinned (.plain (OpenSpec.ofChange esaryProductsSpec)) esaryProductsCard

/-- THE TIED CARD OF 'faultlinelaw40.EsaryBounds'. -/
def esaryBoundsCard : Claim7 := { stood := { row := esaryBoundsRow, standIns := [], harness := (true, "3399edabd4861bf0e64f06564a9d90a90514eb3b736d995d6b03d2bf706bead7"), looks := true }, kinds := [], alts := [], laidByText := true, laidKinds := [.data, .pinned], laidTests := true, laidLooks := .later }
def EsaryBoundsCardSaid : Prop := Claim7.holds Tryz.pinned (.plain (OpenSpec.ofChange esaryBoundsSpec)) esaryBoundsCard

/-- THE TIED CARD OF 'faultlinelaw40.EsaryLikeliest'. -/
def esaryLikeliestCard : Claim7 := { stood := { row := esaryLikeliestRow, standIns := [], harness := (true, "3399edabd4861bf0e64f06564a9d90a90514eb3b736d995d6b03d2bf706bead7"), looks := true }, kinds := [], alts := [], laidByText := true, laidKinds := [.data, .pinned], laidTests := true, laidLooks := .later }
def EsaryLikeliestCardSaid : Prop := Claim7.holds Tryz.pinned (.plain (OpenSpec.ofChange esaryLikeliestSpec)) esaryLikeliestCard

/-- THE TIED CARD OF 'faultlinelaw40.EsaryRises'. -/
def esaryRisesCard : Claim7 := { stood := { row := esaryRisesRow, standIns := [], harness := (true, "3399edabd4861bf0e64f06564a9d90a90514eb3b736d995d6b03d2bf706bead7"), looks := true }, kinds := [], alts := [], laidByText := true, laidKinds := [.data, .pinned], laidTests := true, laidLooks := .later }
def EsaryRisesCardSaid : Prop := Claim7.holds Tryz.pinned (.plain (OpenSpec.ofChange esaryRisesSpec)) esaryRisesCard

/-- THE TIED CARD OF 'faultlinelaw40.EsaryApart'. -/
def esaryApartCard : Claim7 := { stood := { row := esaryApartRow, standIns := [], harness := (true, "3399edabd4861bf0e64f06564a9d90a90514eb3b736d995d6b03d2bf706bead7"), looks := true }, kinds := [], alts := [], laidByText := true, laidKinds := [.data, .pinned], laidTests := true, laidLooks := .later }
def EsaryApartCardSaid : Prop := Claim7.holds Tryz.pinned (.plain (OpenSpec.ofChange esaryApartSpec)) esaryApartCard

/-- THE TIED CARD OF 'faultlinelaw40.EsaryEncloses'. -/
def esaryEnclosesCard : Claim7 := { stood := { row := esaryEnclosesRow, standIns := [], harness := (true, "3399edabd4861bf0e64f06564a9d90a90514eb3b736d995d6b03d2bf706bead7"), looks := true }, kinds := [], alts := [], laidByText := true, laidKinds := [.data, .pinned], laidTests := true, laidLooks := .later }
def EsaryEnclosesCardSaid : Prop := Claim7.holds Tryz.pinned (.plain (OpenSpec.ofChange esaryEnclosesSpec)) esaryEnclosesCard

/-- THE SECOND FORM's CARD OF 'faultlinelaw38.DisjointCubes'. -/
def disjointCubesUptoCard : Claim7 := { stood := { row := disjointCubesUptoRow, standIns := [], harness := (true, "3399edabd4861bf0e64f06564a9d90a90514eb3b736d995d6b03d2bf706bead7"), looks := true }, kinds := [], alts := [], laidByText := true, laidKinds := [.data, .pinned], laidTests := true, laidLooks := .later }
def DisjointCubesUptoCardSaid : Prop := Claim7.holds Tryz.pinned (.plain (OpenSpec.upto disjointCubesSpec)) disjointCubesUptoCard

/-- THE SECOND FORM's CARD OF 'faultlinelaw38.DisjointProbs'. -/
def disjointProbsUptoCard : Claim7 := { stood := { row := disjointProbsUptoRow, standIns := [], harness := (true, "3399edabd4861bf0e64f06564a9d90a90514eb3b736d995d6b03d2bf706bead7"), looks := true }, kinds := [], alts := [], laidByText := true, laidKinds := [.data, .pinned], laidTests := true, laidLooks := .later }
def DisjointProbsUptoCardSaid : Prop := Claim7.holds Tryz.pinned (.plain (OpenSpec.upto disjointProbsSpec)) disjointProbsUptoCard

/-- THE SECOND FORM's CARD OF 'faultlinelaw38.DisjointStates'. -/
def disjointStatesUptoCard : Claim7 := { stood := { row := disjointStatesUptoRow, standIns := [], harness := (true, "3399edabd4861bf0e64f06564a9d90a90514eb3b736d995d6b03d2bf706bead7"), looks := true }, kinds := [], alts := [], laidByText := true, laidKinds := [.data, .pinned], laidTests := true, laidLooks := .later }
def DisjointStatesUptoCardSaid : Prop := Claim7.holds Tryz.pinned (.plain (OpenSpec.upto disjointStatesSpec)) disjointStatesUptoCard

/-- THE SECOND FORM's CARD OF 'faultlinelaw38.DisjointBefore'. -/
def disjointBeforeUptoCard : Claim7 := { stood := { row := disjointBeforeUptoRow, standIns := [], harness := (true, "3399edabd4861bf0e64f06564a9d90a90514eb3b736d995d6b03d2bf706bead7"), looks := true }, kinds := [], alts := [], laidByText := true, laidKinds := [.data, .pinned], laidTests := true, laidLooks := .later }
def DisjointBeforeUptoCardSaid : Prop := Claim7.holds Tryz.pinned (.plain (OpenSpec.upto disjointBeforeSpec)) disjointBeforeUptoCard

/-- THE SECOND FORM's CARD OF 'faultlinelaw39.InclusionBounds'. -/
def inclusionBoundsUptoCard : Claim7 := { stood := { row := inclusionBoundsUptoRow, standIns := [], harness := (true, "3399edabd4861bf0e64f06564a9d90a90514eb3b736d995d6b03d2bf706bead7"), looks := true }, kinds := [], alts := [], laidByText := true, laidKinds := [.data, .pinned], laidTests := true, laidLooks := .later }
def InclusionBoundsUptoCardSaid : Prop := Claim7.holds Tryz.pinned (.plain (OpenSpec.upto inclusionBoundsSpec)) inclusionBoundsUptoCard

/-- THE SECOND FORM's CARD OF 'faultlinelaw39.InclusionAlternates'. -/
def inclusionAlternatesUptoCard : Claim7 := { stood := { row := inclusionAlternatesUptoRow, standIns := [], harness := (true, "3399edabd4861bf0e64f06564a9d90a90514eb3b736d995d6b03d2bf706bead7"), looks := true }, kinds := [], alts := [], laidByText := true, laidKinds := [.data, .pinned], laidTests := true, laidLooks := .later }
def InclusionAlternatesUptoCardSaid : Prop := Claim7.holds Tryz.pinned (.plain (OpenSpec.upto inclusionAlternatesSpec)) inclusionAlternatesUptoCard

/-- THE SECOND FORM's CARD OF 'faultlinelaw38.DisjointRange'. -/
def disjointRangeUptoCard : Claim7 := { stood := { row := disjointRangeUptoRow, standIns := [], harness := (true, "3399edabd4861bf0e64f06564a9d90a90514eb3b736d995d6b03d2bf706bead7"), looks := true }, kinds := [], alts := [], laidByText := true, laidKinds := [.data, .pinned], laidTests := true, laidLooks := .later }
def DisjointRangeUptoCardSaid : Prop := Claim7.holds Tryz.pinned (.plain (OpenSpec.upto disjointRangeSpec)) disjointRangeUptoCard

/-- THE SECOND FORM's CARD OF 'faultlinelaw39.InclusionSums'. -/
def inclusionSumsUptoCard : Claim7 := { stood := { row := inclusionSumsUptoRow, standIns := [], harness := (true, "3399edabd4861bf0e64f06564a9d90a90514eb3b736d995d6b03d2bf706bead7"), looks := true }, kinds := [], alts := [], laidByText := true, laidKinds := [.data, .pinned], laidTests := true, laidLooks := .later }
def InclusionSumsUptoCardSaid : Prop := Claim7.holds Tryz.pinned (.plain (OpenSpec.upto inclusionSumsSpec)) inclusionSumsUptoCard

/-- THE SECOND FORM's CARD OF 'faultlinelaw39.InclusionNarrows'. -/
def inclusionNarrowsUptoCard : Claim7 := { stood := { row := inclusionNarrowsUptoRow, standIns := [], harness := (true, "3399edabd4861bf0e64f06564a9d90a90514eb3b736d995d6b03d2bf706bead7"), looks := true }, kinds := [], alts := [], laidByText := true, laidKinds := [.data, .pinned], laidTests := true, laidLooks := .later }
def InclusionNarrowsUptoCardSaid : Prop := Claim7.holds Tryz.pinned (.plain (OpenSpec.upto inclusionNarrowsSpec)) inclusionNarrowsUptoCard

/-- THE SECOND FORM's CARD OF 'faultlinelaw39.InclusionTotals'. -/
def inclusionTotalsUptoCard : Claim7 := { stood := { row := inclusionTotalsUptoRow, standIns := [], harness := (true, "3399edabd4861bf0e64f06564a9d90a90514eb3b736d995d6b03d2bf706bead7"), looks := true }, kinds := [], alts := [], laidByText := true, laidKinds := [.data, .pinned], laidTests := true, laidLooks := .later }
def InclusionTotalsUptoCardSaid : Prop := Claim7.holds Tryz.pinned (.plain (OpenSpec.upto inclusionTotalsSpec)) inclusionTotalsUptoCard

/-- THE SECOND FORM's CARD OF 'faultlinelaw38.DisjointTops'. -/
def disjointTopsUptoCard : Claim7 := { stood := { row := disjointTopsUptoRow, standIns := [], harness := (true, "3399edabd4861bf0e64f06564a9d90a90514eb3b736d995d6b03d2bf706bead7"), looks := true }, kinds := [], alts := [], laidByText := true, laidKinds := [.data, .pinned], laidTests := true, laidLooks := .later }
def DisjointTopsUptoCardSaid : Prop := Claim7.holds Tryz.pinned (.plain (OpenSpec.upto disjointTopsSpec)) disjointTopsUptoCard

/-- THE SECOND FORM's CARD OF 'faultlinelaw38.DisjointExact'. -/
def disjointExactUptoCard : Claim7 := { stood := { row := disjointExactUptoRow, standIns := [], harness := (true, "3399edabd4861bf0e64f06564a9d90a90514eb3b736d995d6b03d2bf706bead7"), looks := true }, kinds := [], alts := [], laidByText := true, laidKinds := [.data, .pinned], laidTests := true, laidLooks := .later }
def DisjointExactUptoCardSaid : Prop := Claim7.holds Tryz.pinned (.plain (OpenSpec.upto disjointExactSpec)) disjointExactUptoCard

/-- THE SECOND FORM's CARD OF 'faultlinelaw40.EsaryProducts'. -/
def esaryProductsUptoCard : Claim7 := { stood := { row := esaryProductsUptoRow, standIns := [], harness := (true, "3399edabd4861bf0e64f06564a9d90a90514eb3b736d995d6b03d2bf706bead7"), looks := true }, kinds := [], alts := [], laidByText := true, laidKinds := [.data, .pinned], laidTests := true, laidLooks := .later }
def EsaryProductsUptoCardSaid : Prop := Claim7.holds Tryz.pinned (.plain (OpenSpec.upto esaryProductsSpec)) esaryProductsUptoCard

/-- THE SECOND FORM's CARD OF 'faultlinelaw40.EsaryBounds'. -/
def esaryBoundsUptoCard : Claim7 := { stood := { row := esaryBoundsUptoRow, standIns := [], harness := (true, "3399edabd4861bf0e64f06564a9d90a90514eb3b736d995d6b03d2bf706bead7"), looks := true }, kinds := [], alts := [], laidByText := true, laidKinds := [.data, .pinned], laidTests := true, laidLooks := .later }
def EsaryBoundsUptoCardSaid : Prop := Claim7.holds Tryz.pinned (.plain (OpenSpec.upto esaryBoundsSpec)) esaryBoundsUptoCard

/-- THE SECOND FORM's CARD OF 'faultlinelaw40.EsaryLikeliest'. -/
def esaryLikeliestUptoCard : Claim7 := { stood := { row := esaryLikeliestUptoRow, standIns := [], harness := (true, "3399edabd4861bf0e64f06564a9d90a90514eb3b736d995d6b03d2bf706bead7"), looks := true }, kinds := [], alts := [], laidByText := true, laidKinds := [.data, .pinned], laidTests := true, laidLooks := .later }
def EsaryLikeliestUptoCardSaid : Prop := Claim7.holds Tryz.pinned (.plain (OpenSpec.upto esaryLikeliestSpec)) esaryLikeliestUptoCard

/-- THE SECOND FORM's CARD OF 'faultlinelaw40.EsaryRises'. -/
def esaryRisesUptoCard : Claim7 := { stood := { row := esaryRisesUptoRow, standIns := [], harness := (true, "3399edabd4861bf0e64f06564a9d90a90514eb3b736d995d6b03d2bf706bead7"), looks := true }, kinds := [], alts := [], laidByText := true, laidKinds := [.data, .pinned], laidTests := true, laidLooks := .later }
def EsaryRisesUptoCardSaid : Prop := Claim7.holds Tryz.pinned (.plain (OpenSpec.upto esaryRisesSpec)) esaryRisesUptoCard

/-- THE SECOND FORM's CARD OF 'faultlinelaw40.EsaryApart'. -/
def esaryApartUptoCard : Claim7 := { stood := { row := esaryApartUptoRow, standIns := [], harness := (true, "3399edabd4861bf0e64f06564a9d90a90514eb3b736d995d6b03d2bf706bead7"), looks := true }, kinds := [], alts := [], laidByText := true, laidKinds := [.data, .pinned], laidTests := true, laidLooks := .later }
def EsaryApartUptoCardSaid : Prop := Claim7.holds Tryz.pinned (.plain (OpenSpec.upto esaryApartSpec)) esaryApartUptoCard

/-- THE SECOND FORM's CARD OF 'faultlinelaw40.EsaryEncloses'. -/
def esaryEnclosesUptoCard : Claim7 := { stood := { row := esaryEnclosesUptoRow, standIns := [], harness := (true, "3399edabd4861bf0e64f06564a9d90a90514eb3b736d995d6b03d2bf706bead7"), looks := true }, kinds := [], alts := [], laidByText := true, laidKinds := [.data, .pinned], laidTests := true, laidLooks := .later }
def EsaryEnclosesUptoCardSaid : Prop := Claim7.holds Tryz.pinned (.plain (OpenSpec.upto esaryEnclosesSpec)) esaryEnclosesUptoCard
end Rows
end Go.Proofs.YtbkchheikkbebaaGreatDoor
