/-
  DERIVED. GIVEN WITH THE SEED: THE CARDS: each row of YtcghhagnibabeaaGreatDoorRows.lean that lists a variable, with what it lists TIED to the program's text (the seventh form; the later family's looks); each row that meets fmt, with fmt's text TOLD by the authors' own Lean function (tested against real Go, not proved from fmt's source: count such statements apart). THE CARD IS WHAT COUNTS. Prove the row's statement (the work); the ties are given (YtcghhagnibabeaaGreatDoorTie.lean); close each card by the builder's one call (the guide's Derived/Test/ToyasCard.lean, 'card_holds'). Laid BY PROGRAM, IN A SANDBOX (cutbox-door.mjs). By AI agents, Wed Nov 11 2026. No macro, syntax, notation, axiom, sorry.
-/
import Derived.Test.YtcghhagnibabeaaGreatDoorRows
import GoSem.ClaimSeven
namespace Go.Proofs.YtcghhagnibabeaaGreatDoor
namespace Rows

/-- THE TIED CARD OF 'landaidlaw12.CropFamilies'. -/
def cropFamiliesCard : Claim7 := { stood := { row := cropFamiliesRow, standIns := [], harness := (true, "a6281e7742c81fd3a8364a3360fc4ce6e43e6ebda9c6d14731b81fc435c0a123"), looks := true }, kinds := [], alts := [], laidByText := true, laidKinds := [.data, .data, .data, .data, .sentinel, .sentinel, .pinned], laidTests := true, laidLooks := .later }
def CropFamiliesCardSaid : Prop := Claim7.holds Tryz.pinned (.plain (OpenSpec.ofChange cropFamiliesSpec)) cropFamiliesCard

/-- THE TIED CARD OF 'landaidlaw12.CropLines'. -/
def cropLinesCard : Claim7 := { stood := { row := cropLinesRow, standIns := [], harness := (true, "a6281e7742c81fd3a8364a3360fc4ce6e43e6ebda9c6d14731b81fc435c0a123"), looks := true }, kinds := [], alts := [], laidByText := true, laidKinds := [.data, .data, .data, .data, .sentinel, .sentinel, .pinned], laidTests := true, laidLooks := .later }
def CropLinesCardSaid : Prop := Claim7.holds Tryz.pinned (.plain (OpenSpec.ofChange cropLinesSpec)) cropLinesCard

/-- THE TIED CARD OF 'landaidlaw12.CropOrder'. -/
def cropOrderCard : Claim7 := { stood := { row := cropOrderRow, standIns := [], harness := (true, "a6281e7742c81fd3a8364a3360fc4ce6e43e6ebda9c6d14731b81fc435c0a123"), looks := true }, kinds := [], alts := [], laidByText := true, laidKinds := [.data, .data, .data, .data, .sentinel, .sentinel, .pinned], laidTests := true, laidLooks := .later }
def CropOrderCardSaid : Prop := Claim7.holds Tryz.pinned (.plain (OpenSpec.ofChange cropOrderSpec)) cropOrderCard

/-- THE TIED CARD OF 'landaidlaw12.CropBack'. -/
def cropBackCard : Claim7 := { stood := { row := cropBackRow, standIns := [], harness := (true, "a6281e7742c81fd3a8364a3360fc4ce6e43e6ebda9c6d14731b81fc435c0a123"), looks := true }, kinds := [], alts := [], laidByText := true, laidKinds := [.data, .data, .data, .data, .sentinel, .sentinel, .pinned], laidTests := true, laidLooks := .later }
def CropBackCardSaid : Prop := Claim7.holds Tryz.pinned (.plain (OpenSpec.ofChange cropBackSpec)) cropBackCard

/-- THE TIED CARD OF 'landaidlaw12.CropAnswers'. -/
def cropAnswersCard : Claim7 := { stood := { row := cropAnswersRow, standIns := [], harness := (true, "a6281e7742c81fd3a8364a3360fc4ce6e43e6ebda9c6d14731b81fc435c0a123"), looks := true }, kinds := [], alts := [], laidByText := true, laidKinds := [.data, .data, .data, .data, .sentinel, .sentinel, .pinned], laidTests := true, laidLooks := .later }
def CropAnswersCardSaid : Prop := Claim7.holds Tryz.pinned (.plain (OpenSpec.ofChange cropAnswersSpec)) cropAnswersCard

/-- THE SECOND FORM's CARD OF 'landaidlaw12.CropFamilies'. -/
def cropFamiliesUptoCard : Claim7 := { stood := { row := cropFamiliesUptoRow, standIns := [], harness := (true, "a6281e7742c81fd3a8364a3360fc4ce6e43e6ebda9c6d14731b81fc435c0a123"), looks := true }, kinds := [], alts := [], laidByText := true, laidKinds := [.data, .data, .data, .data, .sentinel, .sentinel, .pinned], laidTests := true, laidLooks := .later }
def CropFamiliesUptoCardSaid : Prop := Claim7.holds Tryz.pinned (.plain (OpenSpec.upto cropFamiliesSpec)) cropFamiliesUptoCard

/-- THE SECOND FORM's CARD OF 'landaidlaw12.CropLines'. -/
def cropLinesUptoCard : Claim7 := { stood := { row := cropLinesUptoRow, standIns := [], harness := (true, "a6281e7742c81fd3a8364a3360fc4ce6e43e6ebda9c6d14731b81fc435c0a123"), looks := true }, kinds := [], alts := [], laidByText := true, laidKinds := [.data, .data, .data, .data, .sentinel, .sentinel, .pinned], laidTests := true, laidLooks := .later }
def CropLinesUptoCardSaid : Prop := Claim7.holds Tryz.pinned (.plain (OpenSpec.upto cropLinesSpec)) cropLinesUptoCard

/-- THE SECOND FORM's CARD OF 'landaidlaw12.CropOrder'. -/
def cropOrderUptoCard : Claim7 := { stood := { row := cropOrderUptoRow, standIns := [], harness := (true, "a6281e7742c81fd3a8364a3360fc4ce6e43e6ebda9c6d14731b81fc435c0a123"), looks := true }, kinds := [], alts := [], laidByText := true, laidKinds := [.data, .data, .data, .data, .sentinel, .sentinel, .pinned], laidTests := true, laidLooks := .later }
def CropOrderUptoCardSaid : Prop := Claim7.holds Tryz.pinned (.plain (OpenSpec.upto cropOrderSpec)) cropOrderUptoCard

/-- THE SECOND FORM's CARD OF 'landaidlaw12.CropBack'. -/
def cropBackUptoCard : Claim7 := { stood := { row := cropBackUptoRow, standIns := [], harness := (true, "a6281e7742c81fd3a8364a3360fc4ce6e43e6ebda9c6d14731b81fc435c0a123"), looks := true }, kinds := [], alts := [], laidByText := true, laidKinds := [.data, .data, .data, .data, .sentinel, .sentinel, .pinned], laidTests := true, laidLooks := .later }
def CropBackUptoCardSaid : Prop := Claim7.holds Tryz.pinned (.plain (OpenSpec.upto cropBackSpec)) cropBackUptoCard

/-- THE SECOND FORM's CARD OF 'landaidlaw12.CropAnswers'. -/
def cropAnswersUptoCard : Claim7 := { stood := { row := cropAnswersUptoRow, standIns := [], harness := (true, "a6281e7742c81fd3a8364a3360fc4ce6e43e6ebda9c6d14731b81fc435c0a123"), looks := true }, kinds := [], alts := [], laidByText := true, laidKinds := [.data, .data, .data, .data, .sentinel, .sentinel, .pinned], laidTests := true, laidLooks := .later }
def CropAnswersUptoCardSaid : Prop := Claim7.holds Tryz.pinned (.plain (OpenSpec.upto cropAnswersSpec)) cropAnswersUptoCard
end Rows
end Go.Proofs.YtcghhagnibabeaaGreatDoor
