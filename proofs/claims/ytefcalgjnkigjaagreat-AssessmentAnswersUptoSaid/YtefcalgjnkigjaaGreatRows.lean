/-
  NARROWER THAN 'FOR EVERY INPUT', by the rows' own cells (each row's printed sentence says how): AssessmentChecks: loops · AssessmentAnswers: loops.
  DERIVED. THE GIVEN ROWS OF THIS SEAT. 3 by the template 'for every input the law returns true; each argument reads behind the call as it read before'; 0 by the template 'total and deterministic' (their statements: YtefcalgjnkigjaaGreatTotals.lean).
  GIVEN WITH THE SEED: the statements are not yours to turn. If you find one false, say at which input.
  Laid BY PROGRAM, IN A SANDBOX (cutbox-rows.mjs): the forced cells as the released guide's own fill.sh prints them over the translation 498b789b1bdbc584… (all of the seat's roots in one cut). By AI agents, Wed Nov 11 2026. No macro, syntax, notation, axiom, sorry.
-/
import Derived.Test.YtefcalgjnkigjaaGreatChecked
import GoSem.Claim
import GoSem.ClaimJoined
import GoSem.ClaimMapViews
import Derived.JoinedTies
import Derived.KernelRfl
namespace Go.Proofs.YtefcalgjnkigjaaGreat
/- THE CELL 'sum', in the pinned program and in every row, IS THE sha256 OF THE DUMP (.gsa) THAT YtefcalgjnkigjaaGreatProg.lean LOADS. Nothing in Lean hashes anything: it is a label: what it is worth is what the hold of that sum in a sandbox is worth. -/
noncomputable def Tryz.pinned : Pinned := { name := "ytefcalgjnkigjaagreat", sum := "498b789b1bdbc584a566e4dd7a05692d256ddb4fda81d2fadf3794518feaaf66", checked := Tryz.checked }
namespace Rows
def none {H : Type} : Left H := { results := [], args := [] }

/-- 'landaidlaw34.AssessmentChecks': WHATEVER THE INPUT: true; the input reads as it did. -/
def assessmentChecksSpec : ChangeSpec := { name := "assessmentChecks", fn := fun _ => fun
  | [d1, d2, d3, d4] => { results := [.lit (.bool true)], args := [d1, d2, d3, d4] }
  | _ => none }
def assessmentChecksRow : OpenClaim := { program := "ytefcalgjnkigjaagreat", sum := "498b789b1bdbc584a566e4dd7a05692d256ddb4fda81d2fadf3794518feaaf66", func := "landaid/landaidlaw34.AssessmentChecks", spec := "assessmentChecks", unfollowed := true, recurses := true, named := ["math/bits.divideError", "math/bits.overflowError"], loops := true, apart := false }
def AssessmentChecksSaid : Prop := assessmentChecksRow.holds Tryz.pinned (OpenSpec.ofChange assessmentChecksSpec)

/-- ITS FALSE NEIGHBOUR: 'it returns false'. Refute it at one input. -/
def assessmentChecksWrong : ChangeSpec := { name := "assessmentChecks", fn := fun _ => fun
  | [d1, d2, d3, d4] => { results := [.lit (.bool false)], args := [d1, d2, d3, d4] }
  | _ => none }
def AssessmentChecksWrongFalsely : Prop := assessmentChecksRow.holds Tryz.pinned (OpenSpec.ofChange assessmentChecksWrong)

/-- 'landaidlaw34.AssessmentAnswers': WHATEVER THE INPUT: true; the input reads as it did. -/
def assessmentAnswersSpec : ChangeSpec := { name := "assessmentAnswers", fn := fun _ => fun
  | [d1, d2, d3, d4] => { results := [.lit (.bool true)], args := [d1, d2, d3, d4] }
  | _ => none }
def assessmentAnswersRow : OpenClaim := { program := "ytefcalgjnkigjaagreat", sum := "498b789b1bdbc584a566e4dd7a05692d256ddb4fda81d2fadf3794518feaaf66", func := "landaid/landaidlaw34.AssessmentAnswers", spec := "assessmentAnswers", unfollowed := true, recurses := true, named := ["math/bits.divideError", "math/bits.overflowError"], loops := true, apart := false }
def AssessmentAnswersSaid : Prop := assessmentAnswersRow.holds Tryz.pinned (OpenSpec.ofChange assessmentAnswersSpec)

/-- ITS FALSE NEIGHBOUR: 'it returns false'. Refute it at one input. -/
def assessmentAnswersWrong : ChangeSpec := { name := "assessmentAnswers", fn := fun _ => fun
  | [d1, d2, d3, d4] => { results := [.lit (.bool false)], args := [d1, d2, d3, d4] }
  | _ => none }
def AssessmentAnswersWrongFalsely : Prop := assessmentAnswersRow.holds Tryz.pinned (OpenSpec.ofChange assessmentAnswersWrong)

/-- 'landaidlaw38.RecomputeAnswers': WHATEVER THE INPUT: true; the input reads as it did. -/
def recomputeAnswersSpec : ChangeSpec := { name := "recomputeAnswers", fn := fun _ => fun
  | [d1, d2, d3, d4, d5] => { results := [.lit (.bool true)], args := [d1, d2, d3, d4, d5] }
  | _ => none }
def recomputeAnswersRow : OpenClaim := { program := "ytefcalgjnkigjaagreat", sum := "498b789b1bdbc584a566e4dd7a05692d256ddb4fda81d2fadf3794518feaaf66", func := "landaid/landaidlaw38.RecomputeAnswers", spec := "recomputeAnswers", unfollowed := true, recurses := true, named := ["math/bits.divideError", "math/bits.overflowError"], apart := false }
def RecomputeAnswersSaid : Prop := recomputeAnswersRow.holds Tryz.pinned (OpenSpec.ofChange recomputeAnswersSpec)

/-- ITS FALSE NEIGHBOUR: 'it returns false'. Refute it at one input. -/
def recomputeAnswersWrong : ChangeSpec := { name := "recomputeAnswers", fn := fun _ => fun
  | [d1, d2, d3, d4, d5] => { results := [.lit (.bool false)], args := [d1, d2, d3, d4, d5] }
  | _ => none }
def RecomputeAnswersWrongFalsely : Prop := recomputeAnswersRow.holds Tryz.pinned (OpenSpec.ofChange recomputeAnswersWrong)

/- THE SECOND FORM. 'bulk': how many values and letters a reading holds, each counted each time it is reached (what is shared counts as often as it is met; a slice's spare places count too). A statement '..UptoSaid' is the law's where the arguments, and the package variables that the reading takes, are together of bulk at most 1048576: NARROWER than '..Said'. Prove '..Said' where nothing that the law and all that it calls make is longer than what came in: it says more and counts as full. Else prove '..UptoSaid'. A law counts once. -/
mutual
def uptoBulk {H : Type} : DataW H → Nat
  | .lit (.string bytes) => bytes.length + 1
  | .lit _ => 1
  | .nil => 1
  | .ptr d => uptoBulk d + 1
  | .slice elems spare => uptoBulkAll elems + uptoBulkAll spare + 1
  | .agg parts => uptoBulkAll parts + 1
  | .iface _ d => uptoBulk d + 1
  | .map entries => uptoBulkEntries entries + 1
  | .held _ => 1
def uptoBulkAll {H : Type} : List (DataW H) → Nat
  | [] => 0
  | d :: r => uptoBulk d + uptoBulkAll r
def uptoBulkEntries {H : Type} : List (Lit × DataW H) → Nat
  | [] => 0
  | x :: r => uptoBulkEntry x + uptoBulkEntries r
def uptoBulkEntry {H : Type} : Lit × DataW H → Nat
  | (.string bytes, d) => bytes.length + uptoBulk d + 1
  | (_, d) => uptoBulk d + 1
 end
def uptoSmall : (H : Type) → List (DataW H) → Bool := fun _ ds => decide (uptoBulkAll ds ≤ 1048576)
def OpenSpec.upto (s : _root_.Go.ChangeSpec) : _root_.Go.OpenSpec := { _root_.Go.OpenSpec.ofChange s with cond := some uptoSmall }

/-- 'landaidlaw34.AssessmentChecks', WHERE WHAT IT READS IS OF BULK AT MOST 1048576: true; the input reads as it did. -/
def assessmentChecksUptoRow : OpenClaim := { program := "ytefcalgjnkigjaagreat", sum := "498b789b1bdbc584a566e4dd7a05692d256ddb4fda81d2fadf3794518feaaf66", func := "landaid/landaidlaw34.AssessmentChecks", spec := "assessmentChecks", unfollowed := true, recurses := true, named := ["math/bits.divideError", "math/bits.overflowError"], loops := true, apart := false, narrowed := true }
def AssessmentChecksUptoSaid : Prop := assessmentChecksUptoRow.holds Tryz.pinned (OpenSpec.upto assessmentChecksSpec)

/-- 'landaidlaw34.AssessmentAnswers', WHERE WHAT IT READS IS OF BULK AT MOST 1048576: true; the input reads as it did. -/
def assessmentAnswersUptoRow : OpenClaim := { program := "ytefcalgjnkigjaagreat", sum := "498b789b1bdbc584a566e4dd7a05692d256ddb4fda81d2fadf3794518feaaf66", func := "landaid/landaidlaw34.AssessmentAnswers", spec := "assessmentAnswers", unfollowed := true, recurses := true, named := ["math/bits.divideError", "math/bits.overflowError"], loops := true, apart := false, narrowed := true }
def AssessmentAnswersUptoSaid : Prop := assessmentAnswersUptoRow.holds Tryz.pinned (OpenSpec.upto assessmentAnswersSpec)

/-- 'landaidlaw38.RecomputeAnswers', WHERE WHAT IT READS IS OF BULK AT MOST 1048576: true; the input reads as it did. -/
def recomputeAnswersUptoRow : OpenClaim := { program := "ytefcalgjnkigjaagreat", sum := "498b789b1bdbc584a566e4dd7a05692d256ddb4fda81d2fadf3794518feaaf66", func := "landaid/landaidlaw38.RecomputeAnswers", spec := "recomputeAnswers", unfollowed := true, recurses := true, named := ["math/bits.divideError", "math/bits.overflowError"], apart := false, narrowed := true }
def RecomputeAnswersUptoSaid : Prop := recomputeAnswersUptoRow.holds Tryz.pinned (OpenSpec.upto recomputeAnswersSpec)

end Rows
end Go.Proofs.YtefcalgjnkigjaaGreat
