/-
  DERIVED. GIVEN WITH THE SEED: THE CARDS: each row of YtndikbpmhlhgfaaDoorRows.lean that lists a variable, with what it lists TIED to the program's text (the seventh form; the later family's looks); each row that meets fmt, with fmt's text TOLD by the authors' own Lean function (tested against real Go, not proved from fmt's source: count such statements apart). THE CARD IS WHAT COUNTS. Prove the row's statement (the work); the ties are given (YtndikbpmhlhgfaaDoorTie.lean); close each card by the builder's one call (the guide's Derived/Test/ToyasCard.lean, 'card_holds'). Laid BY PROGRAM, IN A SANDBOX (cutbox-door.mjs). By AI agents, Wed Nov 11 2026. No macro, syntax, notation, axiom, sorry.
-/
import Derived.Test.YtndikbpmhlhgfaaDoorRows
import GoSem.ClaimSeven
namespace Go.Proofs.YtndikbpmhlhgfaaDoor
namespace Rows

/-- THE TIED CARD OF 'landaidlaw02.WordsAnswers'. -/
def wordsAnswersCard : Claim7 := { stood := { row := wordsAnswersRow, standIns := [], harness := (true, "9b14d373fd1e1073c65e8d4783a57d41d00880c8e98c23e859fdb351061d5706"), looks := true }, kinds := [], alts := [], laidByText := true, laidKinds := [.data, .data, .data, .data, .sentinel, .sentinel, .pinned], laidTests := true, laidLooks := .later }
def WordsAnswersCardSaid : Prop := Claim7.holds Tryd.pinned (.plain (OpenSpec.ofChange wordsAnswersSpec)) wordsAnswersCard

/-- THE TIED CARD OF 'landaidlaw02.WordsNumbers'. -/
def wordsNumbersCard : Claim7 := { stood := { row := wordsNumbersRow, standIns := [], harness := (true, "9b14d373fd1e1073c65e8d4783a57d41d00880c8e98c23e859fdb351061d5706"), looks := true }, kinds := [], alts := [], laidByText := true, laidKinds := [.data, .data, .data, .data, .sentinel, .sentinel, .pinned], laidTests := true, laidLooks := .later }
def WordsNumbersCardSaid : Prop := Claim7.holds Tryd.pinned (.plain (OpenSpec.ofChange wordsNumbersSpec)) wordsNumbersCard

/-- THE TIED CARD OF 'landaidlaw02.WordsBack'. -/
def wordsBackCard : Claim7 := { stood := { row := wordsBackRow, standIns := [], harness := (true, "9b14d373fd1e1073c65e8d4783a57d41d00880c8e98c23e859fdb351061d5706"), looks := true }, kinds := [], alts := [], laidByText := true, laidKinds := [.data, .data, .data, .data, .sentinel, .sentinel, .pinned], laidTests := true, laidLooks := .later }
def WordsBackCardSaid : Prop := Claim7.holds Tryd.pinned (.plain (OpenSpec.ofChange wordsBackSpec)) wordsBackCard

/-- THE TIED CARD OF 'landaidlaw02.WordsLimits'. -/
def wordsLimitsCard : Claim7 := { stood := { row := wordsLimitsRow, standIns := [], harness := (true, "9b14d373fd1e1073c65e8d4783a57d41d00880c8e98c23e859fdb351061d5706"), looks := true }, kinds := [], alts := [], laidByText := true, laidKinds := [.data, .data, .data, .data, .sentinel, .sentinel, .pinned], laidTests := true, laidLooks := .later }
def WordsLimitsCardSaid : Prop := Claim7.holds Tryd.pinned (.plain (OpenSpec.ofChange wordsLimitsSpec)) wordsLimitsCard

/-- THE SECOND FORM's CARD OF 'landaidlaw02.WordsAnswers'. -/
def wordsAnswersUptoCard : Claim7 := { stood := { row := wordsAnswersUptoRow, standIns := [], harness := (true, "9b14d373fd1e1073c65e8d4783a57d41d00880c8e98c23e859fdb351061d5706"), looks := true }, kinds := [], alts := [], laidByText := true, laidKinds := [.data, .data, .data, .data, .sentinel, .sentinel, .pinned], laidTests := true, laidLooks := .later }
def WordsAnswersUptoCardSaid : Prop := Claim7.holds Tryd.pinned (.plain (OpenSpec.upto wordsAnswersSpec)) wordsAnswersUptoCard

/-- THE SECOND FORM's CARD OF 'landaidlaw02.WordsNumbers'. -/
def wordsNumbersUptoCard : Claim7 := { stood := { row := wordsNumbersUptoRow, standIns := [], harness := (true, "9b14d373fd1e1073c65e8d4783a57d41d00880c8e98c23e859fdb351061d5706"), looks := true }, kinds := [], alts := [], laidByText := true, laidKinds := [.data, .data, .data, .data, .sentinel, .sentinel, .pinned], laidTests := true, laidLooks := .later }
def WordsNumbersUptoCardSaid : Prop := Claim7.holds Tryd.pinned (.plain (OpenSpec.upto wordsNumbersSpec)) wordsNumbersUptoCard

/-- THE SECOND FORM's CARD OF 'landaidlaw02.WordsBack'. -/
def wordsBackUptoCard : Claim7 := { stood := { row := wordsBackUptoRow, standIns := [], harness := (true, "9b14d373fd1e1073c65e8d4783a57d41d00880c8e98c23e859fdb351061d5706"), looks := true }, kinds := [], alts := [], laidByText := true, laidKinds := [.data, .data, .data, .data, .sentinel, .sentinel, .pinned], laidTests := true, laidLooks := .later }
def WordsBackUptoCardSaid : Prop := Claim7.holds Tryd.pinned (.plain (OpenSpec.upto wordsBackSpec)) wordsBackUptoCard

/-- THE SECOND FORM's CARD OF 'landaidlaw02.WordsLimits'. -/
def wordsLimitsUptoCard : Claim7 := { stood := { row := wordsLimitsUptoRow, standIns := [], harness := (true, "9b14d373fd1e1073c65e8d4783a57d41d00880c8e98c23e859fdb351061d5706"), looks := true }, kinds := [], alts := [], laidByText := true, laidKinds := [.data, .data, .data, .data, .sentinel, .sentinel, .pinned], laidTests := true, laidLooks := .later }
def WordsLimitsUptoCardSaid : Prop := Claim7.holds Tryd.pinned (.plain (OpenSpec.upto wordsLimitsSpec)) wordsLimitsUptoCard
end Rows
end Go.Proofs.YtndikbpmhlhgfaaDoor
