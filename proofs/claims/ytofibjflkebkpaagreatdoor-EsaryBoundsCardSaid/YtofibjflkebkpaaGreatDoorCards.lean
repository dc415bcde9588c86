/-
  DERIVED. GIVEN WITH THE SEED: THE CARDS: each row of YtofibjflkebkpaaGreatDoorRows.lean that lists a variable, with what it lists TIED to the program's text (the seventh form; the later family's looks); each row that meets fmt, with fmt's text TOLD by the authors' own Lean function (tested against real Go, not proved from fmt's source: count such statements apart). THE CARD IS WHAT COUNTS. Prove the row's statement (the work); the ties are given (YtofibjflkebkpaaGreatDoorTie.lean); close each card by the builder's one call (the guide's Derived/Test/ToyasCard.lean, 'card_holds'). Laid BY PROGRAM, IN A SANDBOX (cutbox-door.mjs). By AI agents, Wed Nov 11 2026. No macro, syntax, notation, axiom, sorry.
-/
import Derived.Test.YtofibjflkebkpaaGreatDoorRows
import GoSem.ClaimSeven
namespace Go.Proofs.YtofibjflkebkpaaGreatDoor
namespace Rows

/-- THE TIED CARD OF 'faultlinelaw40.EsaryProducts'. -/
def esaryProductsCard : Claim7 := { stood := { row := esaryProductsRow, standIns := [], harness := (true, "9a52619a5498904b8df2e98de87d31084b44bcf71aba10a5c83eb1a1b135aa30"), looks := true }, kinds := [], alts := [], laidByText := true, laidKinds := [.data, .pinned], laidTests := true, laidLooks := .later }
def EsaryProductsCardSaid : Prop := Claim7.holds Tryz.pinned (.plain (OpenSpec.ofChange esaryProductsSpec)) esaryProductsCard

/-- THE TIED CARD OF 'faultlinelaw40.EsaryBounds'. -/
def esaryBoundsCard : Claim7 := { stood := { row := esaryBoundsRow, standIns := [], harness := (true, "9a52619a5498904b8df2e98de87d31084b44bcf71aba10a5c83eb1a1b135aa30"), looks := true }, kinds := [], alts := [], laidByText := true, laidKinds := [.data, .pinned], laidTests := true, laidLooks := .later }
def EsaryBoundsCardSaid : Prop := Claim7.holds Tryz.pinned (.plain (OpenSpec.ofChange esaryBoundsSpec)) esaryBoundsCard

/-- THE TIED CARD OF 'faultlinelaw40.EsaryLikeliest'. -/
def esaryLikeliestCard : Claim7 := { stood := { row := esaryLikeliestRow, standIns := [], harness := (true, "9a52619a5498904b8df2e98de87d31084b44bcf71aba10a5c83eb1a1b135aa30"), looks := true }, kinds := [], alts := [], laidByText := true, laidKinds := [.data, .pinned], laidTests := true, laidLooks := .later }
def EsaryLikeliestCardSaid : Prop := Claim7.holds Tryz.pinned (.plain (OpenSpec.ofChange esaryLikeliestSpec)) esaryLikeliestCard

/-- THE TIED CARD OF 'faultlinelaw40.EsaryRises'. -/
def esaryRisesCard : Claim7 := { stood := { row := esaryRisesRow, standIns := [], harness := (true, "9a52619a5498904b8df2e98de87d31084b44bcf71aba10a5c83eb1a1b135aa30"), looks := true }, kinds := [], alts := [], laidByText := true, laidKinds := [.data, .pinned], laidTests := true, laidLooks := .later }
def EsaryRisesCardSaid : Prop := Claim7.holds Tryz.pinned (.plain (OpenSpec.ofChange esaryRisesSpec)) esaryRisesCard

/-- THE TIED CARD OF 'faultlinelaw40.EsaryApart'. -/
def esaryApartCard : Claim7 := { stood := { row := esaryApartRow, standIns := [], harness := (true, "9a52619a5498904b8df2e98de87d31084b44bcf71aba10a5c83eb1a1b135aa30"), looks := true }, kinds := [], alts := [], laidByText := true, laidKinds := [.data, .pinned], laidTests := true, laidLooks := .later }
def EsaryApartCardSaid : Prop := Claim7.holds Tryz.pinned (.plain (OpenSpec.ofChange esaryApartSpec)) esaryApartCard

/-- THE TIED CARD OF 'faultlinelaw40.EsaryEncloses'. -/
def esaryEnclosesCard : Claim7 := { stood := { row := esaryEnclosesRow, standIns := [], harness := (true, "9a52619a5498904b8df2e98de87d31084b44bcf71aba10a5c83eb1a1b135aa30"), looks := true }, kinds := [], alts := [], laidByText := true, laidKinds := [.data, .pinned], laidTests := true, laidLooks := .later }
def EsaryEnclosesCardSaid : Prop := Claim7.holds Tryz.pinned (.plain (OpenSpec.ofChange esaryEnclosesSpec)) esaryEnclosesCard

/-- THE TIED CARD OF 'faultlinelaw38.DisjointTops'. -/
def disjointTopsCard : Claim7 := { stood := { row := disjointTopsRow, standIns := [], harness := (true, "9a52619a5498904b8df2e98de87d31084b44bcf71aba10a5c83eb1a1b135aa30"), looks := true }, kinds := [], alts := [], laidByText := true, laidKinds := [.data, .pinned], laidTests := true, laidLooks := .later }
def DisjointTopsCardSaid : Prop := Claim7.holds Tryz.pinned (.plain (OpenSpec.ofChange disjointTopsSpec)) disjointTopsCard

/-- THE SECOND FORM's CARD OF 'faultlinelaw40.EsaryProducts'. -/
def esaryProductsUptoCard : Claim7 := { stood := { row := esaryProductsUptoRow, standIns := [], harness := (true, "9a52619a5498904b8df2e98de87d31084b44bcf71aba10a5c83eb1a1b135aa30"), looks := true }, kinds := [], alts := [], laidByText := true, laidKinds := [.data, .pinned], laidTests := true, laidLooks := .later }
def EsaryProductsUptoCardSaid : Prop := Claim7.holds Tryz.pinned (.plain (OpenSpec.upto esaryProductsSpec)) esaryProductsUptoCard

/-- THE SECOND FORM's CARD OF 'faultlinelaw40.EsaryBounds'. -/
def esaryBoundsUptoCard : Claim7 := { stood := { row := esaryBoundsUptoRow, standIns := [], harness := (true, "9a52619a5498904b8df2e98de87d31084b44bcf71aba10a5c83eb1a1b135aa30"), looks := true }, kinds := [], alts := [], laidByText := true, laidKinds := [.data, .pinned], laidTests := true, laidLooks := .later }
def EsaryBoundsUptoCardSaid : Prop := Claim7.holds Tryz.pinned (.plain (OpenSpec.upto esaryBoundsSpec)) esaryBoundsUptoCard

/-- THE SECOND FORM's CARD OF 'faultlinelaw40.EsaryLikeliest'. -/
def esaryLikeliestUptoCard : Claim7 := { stood := { row := esaryLikeliestUptoRow, standIns := [], harness := (true, "9a52619a5498904b8df2e98de87d31084b44bcf71aba10a5c83eb1a1b135aa30"), looks := true }, kinds := [], alts := [], laidByText := true, laidKinds := [.data, .pinned], laidTests := true, laidLooks := .later }
def EsaryLikeliestUptoCardSaid : Prop := Claim7.holds Tryz.pinned (.plain (OpenSpec.upto esaryLikeliestSpec)) esaryLikeliestUptoCard

/-- THE SECOND FORM's CARD OF 'faultlinelaw40.EsaryRises'. -/
def esaryRisesUptoCard : Claim7 := { stood := { row := esaryRisesUptoRow, standIns := [], harness := (true, "9a52619a5498904b8df2e98de87d31084b44bcf71aba10a5c83eb1a1b135aa30"), looks := true }, kinds := [], alts := [], laidByText := true, laidKinds := [.data, .pinned], laidTests := true, laidLooks := .later }
def EsaryRisesUptoCardSaid : Prop := Claim7.holds Tryz.pinned (.plain (OpenSpec.upto esaryRisesSpec)) esaryRisesUptoCard

/-- THE SECOND FORM's CARD OF 'faultlinelaw40.EsaryApart'. -/
def esaryApartUptoCard : Claim7 := { stood := { row := esaryApartUptoRow, standIns := [], harness := (true, "9a52619a5498904b8df2e98de87d31084b44bcf71aba10a5c83eb1a1b135aa30"), looks := true }, kinds := [], alts := [], laidByText := true, laidKinds := [.data, .pinned], laidTests := true, laidLooks := .later }
def EsaryApartUptoCardSaid : Prop := Claim7.holds Tryz.pinned (.plain (OpenSpec.upto esaryApartSpec)) esaryApartUptoCard

/-- THE SECOND FORM's CARD OF 'faultlinelaw40.EsaryEncloses'. -/
def esaryEnclosesUptoCard : Claim7 := { stood := { row := esaryEnclosesUptoRow, standIns := [], harness := (true, "9a52619a5498904b8df2e98de87d31084b44bcf71aba10a5c83eb1a1b135aa30"), looks := true }, kinds := [], alts := [], laidByText := true, laidKinds := [.data, .pinned], laidTests := true, laidLooks := .later }
def EsaryEnclosesUptoCardSaid : Prop := Claim7.holds Tryz.pinned (.plain (OpenSpec.upto esaryEnclosesSpec)) esaryEnclosesUptoCard

/-- THE SECOND FORM's CARD OF 'faultlinelaw38.DisjointTops'. -/
def disjointTopsUptoCard : Claim7 := { stood := { row := disjointTopsUptoRow, standIns := [], harness := (true, "9a52619a5498904b8df2e98de87d31084b44bcf71aba10a5c83eb1a1b135aa30"), looks := true }, kinds := [], alts := [], laidByText := true, laidKinds := [.data, .pinned], laidTests := true, laidLooks := .later }
def DisjointTopsUptoCardSaid : Prop := Claim7.holds Tryz.pinned (.plain (OpenSpec.upto disjointTopsSpec)) disjointTopsUptoCard
end Rows
end Go.Proofs.YtofibjflkebkpaaGreatDoor
