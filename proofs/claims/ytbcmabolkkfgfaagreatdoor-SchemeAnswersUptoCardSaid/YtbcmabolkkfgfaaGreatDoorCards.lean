/-
  DERIVED. GIVEN WITH THE SEED: THE CARDS: each row of YtbcmabolkkfgfaaGreatDoorRows.lean that lists a variable, with what it lists TIED to the program's text (the seventh form; the later family's looks); each row that meets fmt, with fmt's text TOLD by the authors' own Lean function (tested against real Go, not proved from fmt's source: count such statements apart). THE CARD IS WHAT COUNTS. Prove the row's statement (the work); the ties are given (YtbcmabolkkfgfaaGreatDoorTie.lean); close each card by the builder's one call (the guide's Derived/Test/ToyasCard.lean, 'card_holds'). Laid BY PROGRAM, IN A SANDBOX (cutbox-door.mjs). By AI agents, Wed Nov 11 2026. No macro, syntax, notation, axiom, sorry.
-/
import Derived.Test.YtbcmabolkkfgfaaGreatDoorRows
import GoSem.ClaimSeven
namespace Go.Proofs.YtbcmabolkkfgfaaGreatDoor
namespace Rows

/-- THE TIED CARD OF 'landaidlaw17.SchemeAnswers'. -/
def schemeAnswersCard : Claim7 := { stood := { row := schemeAnswersRow, standIns := [], harness := (true, "79cd84c829166e54d07a99395cb6cee35329e0257d9126bc094938e714bcd422"), looks := true }, kinds := [], alts := [], laidByText := true, laidKinds := [.data, .data, .data, .data, .sentinel, .sentinel, .pinned], laidTests := true, laidLooks := .later }
def SchemeAnswersCardSaid : Prop := Claim7.holds Tryz.pinned (.plain (OpenSpec.ofChange schemeAnswersSpec)) schemeAnswersCard

/-- THE SECOND FORM's CARD OF 'landaidlaw17.SchemeAnswers'. -/
def schemeAnswersUptoCard : Claim7 := { stood := { row := schemeAnswersUptoRow, standIns := [], harness := (true, "79cd84c829166e54d07a99395cb6cee35329e0257d9126bc094938e714bcd422"), looks := true }, kinds := [], alts := [], laidByText := true, laidKinds := [.data, .data, .data, .data, .sentinel, .sentinel, .pinned], laidTests := true, laidLooks := .later }
def SchemeAnswersUptoCardSaid : Prop := Claim7.holds Tryz.pinned (.plain (OpenSpec.upto schemeAnswersSpec)) schemeAnswersUptoCard
end Rows
end Go.Proofs.YtbcmabolkkfgfaaGreatDoor
