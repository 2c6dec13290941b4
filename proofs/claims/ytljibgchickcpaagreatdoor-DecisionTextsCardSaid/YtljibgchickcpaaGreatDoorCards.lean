/-
  DERIVED. GIVEN WITH THE SEED: THE CARDS: each row of YtljibgchickcpaaGreatDoorRows.lean that lists a variable, with what it lists TIED to the program's text (the seventh form; the later family's looks); each row that meets fmt, with fmt's text TOLD by the authors' own Lean function (tested against real Go, not proved from fmt's source: count such statements apart). THE CARD IS WHAT COUNTS. Prove the row's statement (the work); the ties are given (YtljibgchickcpaaGreatDoorTie.lean); close each card by the builder's one call (the guide's Derived/Test/ToyasCard.lean, 'card_holds'). Laid BY PROGRAM, IN A SANDBOX (cutbox-door.mjs). By AI agents, Wed Nov 11 2026. No macro, syntax, notation, axiom, sorry.
-/
import Derived.Test.YtljibgchickcpaaGreatDoorRows
import GoSem.ClaimSeven
namespace Go.Proofs.YtljibgchickcpaaGreatDoor
namespace Rows

/-- THE TIED CARD OF 'landaidlaw35.DecisionChecks'. -/
def decisionChecksCard : Claim7 := { stood := { row := decisionChecksRow, standIns := [], harness := (true, "35d23f6806edc5ae047bd1697d0ce4286910a4a1aec58ea91c1d2acb715ef123"), looks := true }, kinds := [], alts := [], laidByText := true, laidKinds := [.data, .data, .data, .data, .sentinel, .sentinel, .pinned], laidTests := true, laidLooks := .later }
def DecisionChecksCardSaid : Prop := Claim7.holds Tryz.pinned (.plain (OpenSpec.ofChange decisionChecksSpec)) decisionChecksCard

/-- THE TIED CARD OF 'landaidlaw35.DecisionTexts'. -/
def decisionTextsCard : Claim7 := { stood := { row := decisionTextsRow, standIns := [], harness := (true, "35d23f6806edc5ae047bd1697d0ce4286910a4a1aec58ea91c1d2acb715ef123"), looks := true }, kinds := [], alts := [], laidByText := true, laidKinds := [.data, .data, .data, .data, .sentinel, .sentinel, .pinned], laidTests := true, laidLooks := .later }
def DecisionTextsCardSaid : Prop := Claim7.holds Tryz.pinned (.plain (OpenSpec.ofChange decisionTextsSpec)) decisionTextsCard

/-- THE TIED CARD OF 'landaidlaw35.DecisionBack'. -/
def decisionBackCard : Claim7 := { stood := { row := decisionBackRow, standIns := [], harness := (true, "35d23f6806edc5ae047bd1697d0ce4286910a4a1aec58ea91c1d2acb715ef123"), looks := true }, kinds := [], alts := [], laidByText := true, laidKinds := [.data, .data, .data, .data, .sentinel, .sentinel, .pinned], laidTests := true, laidLooks := .later }
def DecisionBackCardSaid : Prop := Claim7.holds Tryz.pinned (.plain (OpenSpec.ofChange decisionBackSpec)) decisionBackCard

/-- THE SECOND FORM's CARD OF 'landaidlaw35.DecisionChecks'. -/
def decisionChecksUptoCard : Claim7 := { stood := { row := decisionChecksUptoRow, standIns := [], harness := (true, "35d23f6806edc5ae047bd1697d0ce4286910a4a1aec58ea91c1d2acb715ef123"), looks := true }, kinds := [], alts := [], laidByText := true, laidKinds := [.data, .data, .data, .data, .sentinel, .sentinel, .pinned], laidTests := true, laidLooks := .later }
def DecisionChecksUptoCardSaid : Prop := Claim7.holds Tryz.pinned (.plain (OpenSpec.upto decisionChecksSpec)) decisionChecksUptoCard

/-- THE SECOND FORM's CARD OF 'landaidlaw35.DecisionTexts'. -/
def decisionTextsUptoCard : Claim7 := { stood := { row := decisionTextsUptoRow, standIns := [], harness := (true, "35d23f6806edc5ae047bd1697d0ce4286910a4a1aec58ea91c1d2acb715ef123"), looks := true }, kinds := [], alts := [], laidByText := true, laidKinds := [.data, .data, .data, .data, .sentinel, .sentinel, .pinned], laidTests := true, laidLooks := .later }
def DecisionTextsUptoCardSaid : Prop := Claim7.holds Tryz.pinned (.plain (OpenSpec.upto decisionTextsSpec)) decisionTextsUptoCard

/-- THE SECOND FORM's CARD OF 'landaidlaw35.DecisionBack'. -/
def decisionBackUptoCard : Claim7 := { stood := { row := decisionBackUptoRow, standIns := [], harness := (true, "35d23f6806edc5ae047bd1697d0ce4286910a4a1aec58ea91c1d2acb715ef123"), looks := true }, kinds := [], alts := [], laidByText := true, laidKinds := [.data, .data, .data, .data, .sentinel, .sentinel, .pinned], laidTests := true, laidLooks := .later }
def DecisionBackUptoCardSaid : Prop := Claim7.holds Tryz.pinned (.plain (OpenSpec.upto decisionBackSpec)) decisionBackUptoCard
end Rows
end Go.Proofs.YtljibgchickcpaaGreatDoor
