/-
  DERIVED. GIVEN WITH THE SEED: THE CARDS: each row of YtflcdkibjakciaaGreatDoorRows.lean that lists a variable, with what it lists TIED to the program's text (the seventh form; the later family's looks); each row that meets fmt, with fmt's text TOLD by the authors' own Lean function (tested against real Go, not proved from fmt's source: count such statements apart). THE CARD IS WHAT COUNTS. Prove the row's statement (the work); the ties are given (YtflcdkibjakciaaGreatDoorTie.lean); close each card by the builder's one call (the guide's Derived/Test/ToyasCard.lean, 'card_holds'). Laid BY PROGRAM, IN A SANDBOX (cutbox-door.mjs). By AI agents, Wed Nov 11 2026. No macro, syntax, notation, axiom, sorry.
-/
import Derived.Test.YtflcdkibjakciaaGreatDoorRows
import GoSem.ClaimSeven
namespace Go.Proofs.YtflcdkibjakciaaGreatDoor
namespace Rows

/-- THE TIED CARD OF 'landaidlaw17.SchemeAmounts'. -/
def schemeAmountsCard : Claim7 := { stood := { row := schemeAmountsRow, standIns := [], harness := (true, "3a5f42014df233c00431ad29a0a9ab24982bccb93fc58c6e6cfccaab7d253998"), looks := true }, kinds := [], alts := [], laidByText := true, laidKinds := [.data, .data, .data, .data, .sentinel, .sentinel, .pinned], laidTests := true, laidLooks := .later }
def SchemeAmountsCardSaid : Prop := Claim7.holds Tryz.pinned (.plain (OpenSpec.ofChange schemeAmountsSpec)) schemeAmountsCard

/-- THE TIED CARD OF 'landaidlaw17.SchemeParts'. -/
def schemePartsCard : Claim7 := { stood := { row := schemePartsRow, standIns := [], harness := (true, "3a5f42014df233c00431ad29a0a9ab24982bccb93fc58c6e6cfccaab7d253998"), looks := true }, kinds := [], alts := [], laidByText := true, laidKinds := [.data, .data, .data, .data, .sentinel, .sentinel, .pinned], laidTests := true, laidLooks := .later }
def SchemePartsCardSaid : Prop := Claim7.holds Tryz.pinned (.plain (OpenSpec.ofChange schemePartsSpec)) schemePartsCard

/-- THE TIED CARD OF 'landaidlaw17.SchemeLines'. -/
def schemeLinesCard : Claim7 := { stood := { row := schemeLinesRow, standIns := [], harness := (true, "3a5f42014df233c00431ad29a0a9ab24982bccb93fc58c6e6cfccaab7d253998"), looks := true }, kinds := [], alts := [], laidByText := true, laidKinds := [.data, .data, .data, .data, .sentinel, .sentinel, .pinned], laidTests := true, laidLooks := .later }
def SchemeLinesCardSaid : Prop := Claim7.holds Tryz.pinned (.plain (OpenSpec.ofChange schemeLinesSpec)) schemeLinesCard

/-- THE TIED CARD OF 'landaidlaw17.SchemeAnswers'. -/
def schemeAnswersCard : Claim7 := { stood := { row := schemeAnswersRow, standIns := [], harness := (true, "3a5f42014df233c00431ad29a0a9ab24982bccb93fc58c6e6cfccaab7d253998"), looks := true }, kinds := [], alts := [], laidByText := true, laidKinds := [.data, .data, .data, .data, .sentinel, .sentinel, .pinned], laidTests := true, laidLooks := .later }
def SchemeAnswersCardSaid : Prop := Claim7.holds Tryz.pinned (.plain (OpenSpec.ofChange schemeAnswersSpec)) schemeAnswersCard

/-- THE TIED CARD OF 'landaidlaw17.SchemeConflicts'. -/
def schemeConflictsCard : Claim7 := { stood := { row := schemeConflictsRow, standIns := [], harness := (true, "3a5f42014df233c00431ad29a0a9ab24982bccb93fc58c6e6cfccaab7d253998"), looks := true }, kinds := [], alts := [], laidByText := true, laidKinds := [.data, .data, .data, .data, .sentinel, .sentinel, .pinned], laidTests := true, laidLooks := .later }
def SchemeConflictsCardSaid : Prop := Claim7.holds Tryz.pinned (.plain (OpenSpec.ofChange schemeConflictsSpec)) schemeConflictsCard

/-- THE TIED CARD OF 'landaidlaw17.SchemeBack'. -/
def schemeBackCard : Claim7 := { stood := { row := schemeBackRow, standIns := [], harness := (true, "3a5f42014df233c00431ad29a0a9ab24982bccb93fc58c6e6cfccaab7d253998"), looks := true }, kinds := [], alts := [], laidByText := true, laidKinds := [.data, .data, .data, .data, .sentinel, .sentinel, .pinned], laidTests := true, laidLooks := .later }
def SchemeBackCardSaid : Prop := Claim7.holds Tryz.pinned (.plain (OpenSpec.ofChange schemeBackSpec)) schemeBackCard

/-- THE SECOND FORM's CARD OF 'landaidlaw17.SchemeAmounts'. -/
def schemeAmountsUptoCard : Claim7 := { stood := { row := schemeAmountsUptoRow, standIns := [], harness := (true, "3a5f42014df233c00431ad29a0a9ab24982bccb93fc58c6e6cfccaab7d253998"), looks := true }, kinds := [], alts := [], laidByText := true, laidKinds := [.data, .data, .data, .data, .sentinel, .sentinel, .pinned], laidTests := true, laidLooks := .later }
def SchemeAmountsUptoCardSaid : Prop := Claim7.holds Tryz.pinned (.plain (OpenSpec.upto schemeAmountsSpec)) schemeAmountsUptoCard

/-- THE SECOND FORM's CARD OF 'landaidlaw17.SchemeParts'. -/
def schemePartsUptoCard : Claim7 := { stood := { row := schemePartsUptoRow, standIns := [], harness := (true, "3a5f42014df233c00431ad29a0a9ab24982bccb93fc58c6e6cfccaab7d253998"), looks := true }, kinds := [], alts := [], laidByText := true, laidKinds := [.data, .data, .data, .data, .sentinel, .sentinel, .pinned], laidTests := true, laidLooks := .later }
def SchemePartsUptoCardSaid : Prop := Claim7.holds Tryz.pinned (.plain (OpenSpec.upto schemePartsSpec)) schemePartsUptoCard

/-- THE SECOND FORM's CARD OF 'landaidlaw17.SchemeLines'. -/
def schemeLinesUptoCard : Claim7 := { stood := { row := schemeLinesUptoRow, standIns := [], harness := (true, "3a5f42014df233c00431ad29a0a9ab24982bccb93fc58c6e6cfccaab7d253998"), looks := true }, kinds := [], alts := [], laidByText := true, laidKinds := [.data, .data, .data, .data, .sentinel, .sentinel, .pinned], laidTests := true, laidLooks := .later }
def SchemeLinesUptoCardSaid : Prop := Claim7.holds Tryz.pinned (.plain (OpenSpec.upto schemeLinesSpec)) schemeLinesUptoCard

/-- THE SECOND FORM's CARD OF 'landaidlaw17.SchemeAnswers'. -/
def schemeAnswersUptoCard : Claim7 := { stood := { row := schemeAnswersUptoRow, standIns := [], harness := (true, "3a5f42014df233c00431ad29a0a9ab24982bccb93fc58c6e6cfccaab7d253998"), looks := true }, kinds := [], alts := [], laidByText := true, laidKinds := [.data, .data, .data, .data, .sentinel, .sentinel, .pinned], laidTests := true, laidLooks := .later }
def SchemeAnswersUptoCardSaid : Prop := Claim7.holds Tryz.pinned (.plain (OpenSpec.upto schemeAnswersSpec)) schemeAnswersUptoCard

/-- THE SECOND FORM's CARD OF 'landaidlaw17.SchemeConflicts'. -/
def schemeConflictsUptoCard : Claim7 := { stood := { row := schemeConflictsUptoRow, standIns := [], harness := (true, "3a5f42014df233c00431ad29a0a9ab24982bccb93fc58c6e6cfccaab7d253998"), looks := true }, kinds := [], alts := [], laidByText := true, laidKinds := [.data, .data, .data, .data, .sentinel, .sentinel, .pinned], laidTests := true, laidLooks := .later }
def SchemeConflictsUptoCardSaid : Prop := Claim7.holds Tryz.pinned (.plain (OpenSpec.upto schemeConflictsSpec)) schemeConflictsUptoCard

/-- THE SECOND FORM's CARD OF 'landaidlaw17.SchemeBack'. -/
def schemeBackUptoCard : Claim7 := { stood := { row := schemeBackUptoRow, standIns := [], harness := (true, "3a5f42014df233c00431ad29a0a9ab24982bccb93fc58c6e6cfccaab7d253998"), looks := true }, kinds := [], alts := [], laidByText := true, laidKinds := [.data, .data, .data, .data, .sentinel, .sentinel, .pinned], laidTests := true, laidLooks := .later }
def SchemeBackUptoCardSaid : Prop := Claim7.holds Tryz.pinned (.plain (OpenSpec.upto schemeBackSpec)) schemeBackUptoCard
end Rows
end Go.Proofs.YtflcdkibjakciaaGreatDoor
