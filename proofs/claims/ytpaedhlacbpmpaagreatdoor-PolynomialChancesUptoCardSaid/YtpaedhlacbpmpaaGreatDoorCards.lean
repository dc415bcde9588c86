/-
  DERIVED. GIVEN WITH THE SEED: THE CARDS: each row of YtpaedhlacbpmpaaGreatDoorRows.lean that lists a variable, with what it lists TIED to the program's text (the seventh form; the later family's looks); each row that meets fmt, with fmt's text TOLD by the authors' own Lean function (tested against real Go, not proved from fmt's source: count such statements apart). THE CARD IS WHAT COUNTS. Prove the row's statement (the work); the ties are given (YtpaedhlacbpmpaaGreatDoorTie.lean); close each card by the builder's one call (the guide's Derived/Test/ToyasCard.lean, 'card_holds'). Laid BY PROGRAM, IN A SANDBOX (cutbox-door.mjs). By AI agents, Wed Nov 11 2026. No macro, syntax, notation, axiom, sorry.
-/
import Derived.Test.YtpaedhlacbpmpaaGreatDoorRows
import GoSem.ClaimSeven
namespace Go.Proofs.YtpaedhlacbpmpaaGreatDoor
namespace Rows

/-- THE TIED CARD OF 'faultlinelaw20.PolynomialSums'. -/
def polynomialSumsCard : Claim7 := { stood := { row := polynomialSumsRow, standIns := [], harness := (true, "b50c0405a417493d467c38e237fe321c6520711c9b70ad2d04880b9d125055bd"), looks := true }, kinds := [], alts := [], laidByText := true, laidKinds := [.data, .pinned], laidTests := true, laidLooks := .later }
def PolynomialSumsCardSaid : Prop := Claim7.holds Tryz.pinned (.plain (OpenSpec.ofChange polynomialSumsSpec)) polynomialSumsCard

/-- THE TIED CARD OF 'faultlinelaw20.PolynomialHomes'. -/
def polynomialHomesCard : Claim7 := { stood := { row := polynomialHomesRow, standIns := [], harness := (true, "b50c0405a417493d467c38e237fe321c6520711c9b70ad2d04880b9d125055bd"), looks := true }, kinds := [], alts := [], laidByText := true, laidKinds := [.data, .pinned], laidTests := true, laidLooks := .later }
def PolynomialHomesCardSaid : Prop := Claim7.holds Tryz.pinned (.plain (OpenSpec.ofChange polynomialHomesSpec)) polynomialHomesCard

/-- THE TIED CARD OF 'faultlinelaw20.PolynomialSplits'. -/
def polynomialSplitsCard : Claim7 := { stood := { row := polynomialSplitsRow, standIns := [], harness := (true, "b50c0405a417493d467c38e237fe321c6520711c9b70ad2d04880b9d125055bd"), looks := true }, kinds := [], alts := [], laidByText := true, laidKinds := [.data, .pinned], laidTests := true, laidLooks := .later }
def PolynomialSplitsCardSaid : Prop := Claim7.holds Tryz.pinned (.plain (OpenSpec.ofChange polynomialSplitsSpec)) polynomialSplitsCard

/-- THE TIED CARD OF 'faultlinelaw20.PolynomialChecks'. -/
def polynomialChecksCard : Claim7 := { stood := { row := polynomialChecksRow, standIns := [], harness := (true, "b50c0405a417493d467c38e237fe321c6520711c9b70ad2d04880b9d125055bd"), looks := true }, kinds := [], alts := [], laidByText := true, laidKinds := [.data, .pinned], laidTests := true, laidLooks := .later }
def PolynomialChecksCardSaid : Prop := Claim7.holds Tryz.pinned (.plain (OpenSpec.ofChange polynomialChecksSpec)) polynomialChecksCard

/-- THE TIED CARD OF 'faultlinelaw20.PolynomialValues'. -/
def polynomialValuesCard : Claim7 := { stood := { row := polynomialValuesRow, standIns := [], harness := (true, "b50c0405a417493d467c38e237fe321c6520711c9b70ad2d04880b9d125055bd"), looks := true }, kinds := [], alts := [], laidByText := true, laidKinds := [.data, .pinned], laidTests := true, laidLooks := .later }
def PolynomialValuesCardSaid : Prop := Claim7.holds Tryz.pinned (.plain (OpenSpec.ofChange polynomialValuesSpec)) polynomialValuesCard

/-- THE TIED CARD OF 'faultlinelaw20.PolynomialChances'. -/
def polynomialChancesCard : Claim7 := { stood := { row := polynomialChancesRow, standIns := [], harness := (true, "b50c0405a417493d467c38e237fe321c6520711c9b70ad2d04880b9d125055bd"), looks := true }, kinds := [], alts := [], laidByText := true, laidKinds := [.data, .pinned], laidTests := true, laidLooks := .later }
def PolynomialChancesCardSaid : Prop := Claim7.holds Tryz.pinned (.plain (OpenSpec.ofChange polynomialChancesSpec)) polynomialChancesCard

/-- THE TIED CARD OF 'faultlinelaw20.PolynomialTrue'. -/
def polynomialTrueCard : Claim7 := { stood := { row := polynomialTrueRow, standIns := [], harness := (true, "b50c0405a417493d467c38e237fe321c6520711c9b70ad2d04880b9d125055bd"), looks := true }, kinds := [], alts := [], laidByText := true, laidKinds := [.data, .pinned], laidTests := true, laidLooks := .later }
def PolynomialTrueCardSaid : Prop := Claim7.holds Tryz.pinned (.plain (OpenSpec.ofChange polynomialTrueSpec)) polynomialTrueCard

/-- THE SECOND FORM's CARD OF 'faultlinelaw20.PolynomialSums'. -/
def polynomialSumsUptoCard : Claim7 := { stood := { row := polynomialSumsUptoRow, standIns := [], harness := (true, "b50c0405a417493d467c38e237fe321c6520711c9b70ad2d04880b9d125055bd"), looks := true }, kinds := [], alts := [], laidByText := true, laidKinds := [.data, .pinned], laidTests := true, laidLooks := .later }
def PolynomialSumsUptoCardSaid : Prop := Claim7.holds Tryz.pinned (.plain (OpenSpec.upto polynomialSumsSpec)) polynomialSumsUptoCard

/-- THE SECOND FORM's CARD OF 'faultlinelaw20.PolynomialHomes'. -/
def polynomialHomesUptoCard : Claim7 := { stood := { row := polynomialHomesUptoRow, standIns := [], harness := (true, "b50c0405a417493d467c38e237fe321c6520711c9b70ad2d04880b9d125055bd"), looks := true }, kinds := [], alts := [], laidByText := true, laidKinds := [.data, .pinned], laidTests := true, laidLooks := .later }
def PolynomialHomesUptoCardSaid : Prop := Claim7.holds Tryz.pinned (.plain (OpenSpec.upto polynomialHomesSpec)) polynomialHomesUptoCard

/-- THE SECOND FORM's CARD OF 'faultlinelaw20.PolynomialSplits'. -/
def polynomialSplitsUptoCard : Claim7 := { stood := { row := polynomialSplitsUptoRow, standIns := [], harness := (true, "b50c0405a417493d467c38e237fe321c6520711c9b70ad2d04880b9d125055bd"), looks := true }, kinds := [], alts := [], laidByText := true, laidKinds := [.data, .pinned], laidTests := true, laidLooks := .later }
def PolynomialSplitsUptoCardSaid : Prop := Claim7.holds Tryz.pinned (.plain (OpenSpec.upto polynomialSplitsSpec)) polynomialSplitsUptoCard

/-- THE SECOND FORM's CARD OF 'faultlinelaw20.PolynomialChecks'. -/
def polynomialChecksUptoCard : Claim7 := { stood := { row := polynomialChecksUptoRow, standIns := [], harness := (true, "b50c0405a417493d467c38e237fe321c6520711c9b70ad2d04880b9d125055bd"), looks := true }, kinds := [], alts := [], laidByText := true, laidKinds := [.data, .pinned], laidTests := true, laidLooks := .later }
def PolynomialChecksUptoCardSaid : Prop := Claim7.holds Tryz.pinned (.plain (OpenSpec.upto polynomialChecksSpec)) polynomialChecksUptoCard

/-- THE SECOND FORM's CARD OF 'faultlinelaw20.PolynomialValues'. -/
def polynomialValuesUptoCard : Claim7 := { stood := { row := polynomialValuesUptoRow, standIns := [], harness := (true, "b50c0405a417493d467c38e237fe321c6520711c9b70ad2d04880b9d125055bd"), looks := true }, kinds := [], alts := [], laidByText := true, laidKinds := [.data, .pinned], laidTests := true, laidLooks := .later }
def PolynomialValuesUptoCardSaid : Prop := Claim7.holds Tryz.pinned (.plain (OpenSpec.upto polynomialValuesSpec)) polynomialValuesUptoCard

/-- THE SECOND FORM's CARD OF 'faultlinelaw20.PolynomialChances'. -/
def polynomialChancesUptoCard : Claim7 := { stood := { row := polynomialChancesUptoRow, standIns := [], harness := (true, "b50c0405a417493d467c38e237fe321c6520711c9b70ad2d04880b9d125055bd"), looks := true }, kinds := [], alts := [], laidByText := true, laidKinds := [.data, .pinned], laidTests := true, laidLooks := .later }
def PolynomialChancesUptoCardSaid : Prop := Claim7.holds Tryz.pinned (.plain (OpenSpec.upto polynomialChancesSpec)) polynomialChancesUptoCard

/-- THE SECOND FORM's CARD OF 'faultlinelaw20.PolynomialTrue'. -/
def polynomialTrueUptoCard : Claim7 := { stood := { row := polynomialTrueUptoRow, standIns := [], harness := (true, "b50c0405a417493d467c38e237fe321c6520711c9b70ad2d04880b9d125055bd"), looks := true }, kinds := [], alts := [], laidByText := true, laidKinds := [.data, .pinned], laidTests := true, laidLooks := .later }
def PolynomialTrueUptoCardSaid : Prop := Claim7.holds Tryz.pinned (.plain (OpenSpec.upto polynomialTrueSpec)) polynomialTrueUptoCard
end Rows
end Go.Proofs.YtpaedhlacbpmpaaGreatDoor
