/-
  NARROWER THAN 'FOR EVERY INPUT', by the rows' own cells (each row's printed sentence says how): AssessmentChecks: loops · AssessmentAnswers: loops.
  DERIVED. THE GIVEN ROWS OF THIS SEAT. 12 by the template 'for every input the law returns true; each argument reads behind the call as it read before'; 0 by the template 'total and deterministic' (their statements: YtmlfcpglhipjgaaGreatTotals.lean).
  GIVEN WITH THE SEED: the statements are not yours to turn. If you find one false, say at which input.
  Laid BY PROGRAM, IN A SANDBOX (cutbox-rows.mjs): the forced cells as the released guide's own fill.sh prints them over the translation 3ec1eedf6d5c601b… (all of the seat's roots in one cut). By AI agents, Wed Nov 11 2026. No macro, syntax, notation, axiom, sorry.
-/
import Derived.Test.YtmlfcpglhipjgaaGreatChecked
import GoSem.Claim
import GoSem.ClaimJoined
import GoSem.ClaimMapViews
import Derived.JoinedTies
import Derived.KernelRfl
namespace Go.Proofs.YtmlfcpglhipjgaaGreat
/- THE CELL 'sum', in the pinned program and in every row, IS THE sha256 OF THE DUMP (.gsa) THAT YtmlfcpglhipjgaaGreatProg.lean LOADS. Nothing in Lean hashes anything: it is a label: what it is worth is what the hold of that sum in a sandbox is worth. -/
noncomputable def Tryz.pinned : Pinned := { name := "ytmlfcpglhipjgaagreat", sum := "3ec1eedf6d5c601b7dc070e9c693029181bc05c3dee2b77f93825af3914a0633", checked := Tryz.checked }
namespace Rows
def none {H : Type} : Left H := { results := [], args := [] }

/-- 'landaidlaw34.AssessmentChecks': WHATEVER THE INPUT: true; the input reads as it did. -/
def assessmentChecksSpec : ChangeSpec := { name := "assessmentChecks", fn := fun _ => fun
  | [d1, d2, d3, d4] => { results := [.lit (.bool true)], args := [d1, d2, d3, d4] }
  | _ => none }
def assessmentChecksRow : OpenClaim := { program := "ytmlfcpglhipjgaagreat", sum := "3ec1eedf6d5c601b7dc070e9c693029181bc05c3dee2b77f93825af3914a0633", func := "landaid/landaidlaw34.AssessmentChecks", spec := "assessmentChecks", unfollowed := true, recurses := true, named := ["math/bits.divideError", "math/bits.overflowError"], loops := true, apart := false }
def AssessmentChecksSaid : Prop := assessmentChecksRow.holds Tryz.pinned (OpenSpec.ofChange assessmentChecksSpec)

/-- ITS FALSE NEIGHBOUR: 'it returns false'. Refute it at one input. -/
def assessmentChecksWrong : ChangeSpec := { name := "assessmentChecks", fn := fun _ => fun
  | [d1, d2, d3, d4] => { results := [.lit (.bool false)], args := [d1, d2, d3, d4] }
  | _ => none }
def AssessmentChecksWrongFalsely : Prop := assessmentChecksRow.holds Tryz.pinned (OpenSpec.ofChange assessmentChecksWrong)

/-- 'landaidlaw34.AssessmentAnswers': WHATEVER THE INPUT: true; the input reads as it did. -/
def assessmentAnswersSpec : ChangeSpec := { name := "assessmentAnswers", fn := fun _ => fun
  | [d1, d2, d3, d4] => { results := [.lit (.bool true)], args := [d1, d2, d3, d4] }
  | _ => none }
def assessmentAnswersRow : OpenClaim := { program := "ytmlfcpglhipjgaagreat", sum := "3ec1eedf6d5c601b7dc070e9c693029181bc05c3dee2b77f93825af3914a0633", func := "landaid/landaidlaw34.AssessmentAnswers", spec := "assessmentAnswers", unfollowed := true, recurses := true, named := ["math/bits.divideError", "math/bits.overflowError"], loops := true, apart := false }
def AssessmentAnswersSaid : Prop := assessmentAnswersRow.holds Tryz.pinned (OpenSpec.ofChange assessmentAnswersSpec)

/-- ITS FALSE NEIGHBOUR: 'it returns false'. Refute it at one input. -/
def assessmentAnswersWrong : ChangeSpec := { name := "assessmentAnswers", fn := fun _ => fun
  | [d1, d2, d3, d4] => { results := [.lit (.bool false)], args := [d1, d2, d3, d4] }
  | _ => none }
def AssessmentAnswersWrongFalsely : Prop := assessmentAnswersRow.holds Tryz.pinned (OpenSpec.ofChange assessmentAnswersWrong)

/-- 'landaidlaw34.AssessmentFalls': WHATEVER THE INPUT: true; the input reads as it did. -/
def assessmentFallsSpec : ChangeSpec := { name := "assessmentFalls", fn := fun _ => fun
  | [d] => { results := [.lit (.bool true)], args := [d] }
  | _ => none }
def assessmentFallsRow : OpenClaim := { program := "ytmlfcpglhipjgaagreat", sum := "3ec1eedf6d5c601b7dc070e9c693029181bc05c3dee2b77f93825af3914a0633", func := "landaid/landaidlaw34.AssessmentFalls", spec := "assessmentFalls", unfollowed := true, recurses := true, named := ["math/bits.divideError", "math/bits.overflowError"], apart := false }
def AssessmentFallsSaid : Prop := assessmentFallsRow.holds Tryz.pinned (OpenSpec.ofChange assessmentFallsSpec)

/-- ITS FALSE NEIGHBOUR: 'it returns false'. Refute it at one input. -/
def assessmentFallsWrong : ChangeSpec := { name := "assessmentFalls", fn := fun _ => fun
  | [d] => { results := [.lit (.bool false)], args := [d] }
  | _ => none }
def AssessmentFallsWrongFalsely : Prop := assessmentFallsRow.holds Tryz.pinned (OpenSpec.ofChange assessmentFallsWrong)

/-- 'landaidlaw34.AssessmentOrder': WHATEVER THE INPUT: true; the input reads as it did. -/
def assessmentOrderSpec : ChangeSpec := { name := "assessmentOrder", fn := fun _ => fun
  | [d] => { results := [.lit (.bool true)], args := [d] }
  | _ => none }
def assessmentOrderRow : OpenClaim := { program := "ytmlfcpglhipjgaagreat", sum := "3ec1eedf6d5c601b7dc070e9c693029181bc05c3dee2b77f93825af3914a0633", func := "landaid/landaidlaw34.AssessmentOrder", spec := "assessmentOrder", unfollowed := true, recurses := true, named := ["math/bits.divideError", "math/bits.overflowError"], apart := false }
def AssessmentOrderSaid : Prop := assessmentOrderRow.holds Tryz.pinned (OpenSpec.ofChange assessmentOrderSpec)

/-- ITS FALSE NEIGHBOUR: 'it returns false'. Refute it at one input. -/
def assessmentOrderWrong : ChangeSpec := { name := "assessmentOrder", fn := fun _ => fun
  | [d] => { results := [.lit (.bool false)], args := [d] }
  | _ => none }
def AssessmentOrderWrongFalsely : Prop := assessmentOrderRow.holds Tryz.pinned (OpenSpec.ofChange assessmentOrderWrong)

/-- 'landaidlaw34.AssessmentAlone': WHATEVER THE INPUT: true; the input reads as it did. -/
def assessmentAloneSpec : ChangeSpec := { name := "assessmentAlone", fn := fun _ => fun
  | [d] => { results := [.lit (.bool true)], args := [d] }
  | _ => none }
def assessmentAloneRow : OpenClaim := { program := "ytmlfcpglhipjgaagreat", sum := "3ec1eedf6d5c601b7dc070e9c693029181bc05c3dee2b77f93825af3914a0633", func := "landaid/landaidlaw34.AssessmentAlone", spec := "assessmentAlone", unfollowed := true, recurses := true, named := ["math/bits.divideError", "math/bits.overflowError"], apart := false }
def AssessmentAloneSaid : Prop := assessmentAloneRow.holds Tryz.pinned (OpenSpec.ofChange assessmentAloneSpec)

/-- ITS FALSE NEIGHBOUR: 'it returns false'. Refute it at one input. -/
def assessmentAloneWrong : ChangeSpec := { name := "assessmentAlone", fn := fun _ => fun
  | [d] => { results := [.lit (.bool false)], args := [d] }
  | _ => none }
def AssessmentAloneWrongFalsely : Prop := assessmentAloneRow.holds Tryz.pinned (OpenSpec.ofChange assessmentAloneWrong)

/-- 'landaidlaw34.AssessmentReasons': WHATEVER THE INPUT: true; the input reads as it did. -/
def assessmentReasonsSpec : ChangeSpec := { name := "assessmentReasons", fn := fun _ => fun
  | [d] => { results := [.lit (.bool true)], args := [d] }
  | _ => none }
def assessmentReasonsRow : OpenClaim := { program := "ytmlfcpglhipjgaagreat", sum := "3ec1eedf6d5c601b7dc070e9c693029181bc05c3dee2b77f93825af3914a0633", func := "landaid/landaidlaw34.AssessmentReasons", spec := "assessmentReasons", unfollowed := true, recurses := true, named := ["math/bits.divideError", "math/bits.overflowError"], apart := false }
def AssessmentReasonsSaid : Prop := assessmentReasonsRow.holds Tryz.pinned (OpenSpec.ofChange assessmentReasonsSpec)

/-- ITS FALSE NEIGHBOUR: 'it returns false'. Refute it at one input. -/
def assessmentReasonsWrong : ChangeSpec := { name := "assessmentReasons", fn := fun _ => fun
  | [d] => { results := [.lit (.bool false)], args := [d] }
  | _ => none }
def AssessmentReasonsWrongFalsely : Prop := assessmentReasonsRow.holds Tryz.pinned (OpenSpec.ofChange assessmentReasonsWrong)

/-- 'landaidlaw34.AssessmentTimes': WHATEVER THE INPUT: true; the input reads as it did. -/
def assessmentTimesSpec : ChangeSpec := { name := "assessmentTimes", fn := fun _ => fun
  | [d] => { results := [.lit (.bool true)], args := [d] }
  | _ => none }
def assessmentTimesRow : OpenClaim := { program := "ytmlfcpglhipjgaagreat", sum := "3ec1eedf6d5c601b7dc070e9c693029181bc05c3dee2b77f93825af3914a0633", func := "landaid/landaidlaw34.AssessmentTimes", spec := "assessmentTimes", unfollowed := true, recurses := true, named := ["math/bits.divideError", "math/bits.overflowError"], apart := false }
def AssessmentTimesSaid : Prop := assessmentTimesRow.holds Tryz.pinned (OpenSpec.ofChange assessmentTimesSpec)

/-- ITS FALSE NEIGHBOUR: 'it returns false'. Refute it at one input. -/
def assessmentTimesWrong : ChangeSpec := { name := "assessmentTimes", fn := fun _ => fun
  | [d] => { results := [.lit (.bool false)], args := [d] }
  | _ => none }
def AssessmentTimesWrongFalsely : Prop := assessmentTimesRow.holds Tryz.pinned (OpenSpec.ofChange assessmentTimesWrong)

/-- 'landaidlaw38.RecomputeAnswers': WHATEVER THE INPUT: true; the input reads as it did. -/
def recomputeAnswersSpec : ChangeSpec := { name := "recomputeAnswers", fn := fun _ => fun
  | [d1, d2, d3, d4, d5] => { results := [.lit (.bool true)], args := [d1, d2, d3, d4, d5] }
  | _ => none }
def recomputeAnswersRow : OpenClaim := { program := "ytmlfcpglhipjgaagreat", sum := "3ec1eedf6d5c601b7dc070e9c693029181bc05c3dee2b77f93825af3914a0633", func := "landaid/landaidlaw38.RecomputeAnswers", spec := "recomputeAnswers", unfollowed := true, recurses := true, named := ["math/bits.divideError", "math/bits.overflowError"], apart := false }
def RecomputeAnswersSaid : Prop := recomputeAnswersRow.holds Tryz.pinned (OpenSpec.ofChange recomputeAnswersSpec)

/-- ITS FALSE NEIGHBOUR: 'it returns false'. Refute it at one input. -/
def recomputeAnswersWrong : ChangeSpec := { name := "recomputeAnswers", fn := fun _ => fun
  | [d1, d2, d3, d4, d5] => { results := [.lit (.bool false)], args := [d1, d2, d3, d4, d5] }
  | _ => none }
def RecomputeAnswersWrongFalsely : Prop := recomputeAnswersRow.holds Tryz.pinned (OpenSpec.ofChange recomputeAnswersWrong)

/-- 'landaidlaw38.RecomputeReasons': WHATEVER THE INPUT: true; the input reads as it did. -/
def recomputeReasonsSpec : ChangeSpec := { name := "recomputeReasons", fn := fun _ => fun
  | [d] => { results := [.lit (.bool true)], args := [d] }
  | _ => none }
def recomputeReasonsRow : OpenClaim := { program := "ytmlfcpglhipjgaagreat", sum := "3ec1eedf6d5c601b7dc070e9c693029181bc05c3dee2b77f93825af3914a0633", func := "landaid/landaidlaw38.RecomputeReasons", spec := "recomputeReasons", unfollowed := true, recurses := true, named := ["math/bits.divideError", "math/bits.overflowError"], apart := false }
def RecomputeReasonsSaid : Prop := recomputeReasonsRow.holds Tryz.pinned (OpenSpec.ofChange recomputeReasonsSpec)

/-- ITS FALSE NEIGHBOUR: 'it returns false'. Refute it at one input. -/
def recomputeReasonsWrong : ChangeSpec := { name := "recomputeReasons", fn := fun _ => fun
  | [d] => { results := [.lit (.bool false)], args := [d] }
  | _ => none }
def RecomputeReasonsWrongFalsely : Prop := recomputeReasonsRow.holds Tryz.pinned (OpenSpec.ofChange recomputeReasonsWrong)

/-- 'landaidlaw38.RecomputeNames': WHATEVER THE INPUT: true; the input reads as it did. -/
def recomputeNamesSpec : ChangeSpec := { name := "recomputeNames", fn := fun _ => fun
  | [d1, d2] => { results := [.lit (.bool true)], args := [d1, d2] }
  | _ => none }
def recomputeNamesRow : OpenClaim := { program := "ytmlfcpglhipjgaagreat", sum := "3ec1eedf6d5c601b7dc070e9c693029181bc05c3dee2b77f93825af3914a0633", func := "landaid/landaidlaw38.RecomputeNames", spec := "recomputeNames", unfollowed := true, recurses := true, named := ["math/bits.divideError", "math/bits.overflowError"], apart := false }
def RecomputeNamesSaid : Prop := recomputeNamesRow.holds Tryz.pinned (OpenSpec.ofChange recomputeNamesSpec)

/-- ITS FALSE NEIGHBOUR: 'it returns false'. Refute it at one input. -/
def recomputeNamesWrong : ChangeSpec := { name := "recomputeNames", fn := fun _ => fun
  | [d1, d2] => { results := [.lit (.bool false)], args := [d1, d2] }
  | _ => none }
def RecomputeNamesWrongFalsely : Prop := recomputeNamesRow.holds Tryz.pinned (OpenSpec.ofChange recomputeNamesWrong)

/-- 'landaidlaw38.RecomputeFactor': WHATEVER THE INPUT: true; the input reads as it did. -/
def recomputeFactorSpec : ChangeSpec := { name := "recomputeFactor", fn := fun _ => fun
  | [d] => { results := [.lit (.bool true)], args := [d] }
  | _ => none }
def recomputeFactorRow : OpenClaim := { program := "ytmlfcpglhipjgaagreat", sum := "3ec1eedf6d5c601b7dc070e9c693029181bc05c3dee2b77f93825af3914a0633", func := "landaid/landaidlaw38.RecomputeFactor", spec := "recomputeFactor", unfollowed := true, recurses := true, named := ["math/bits.divideError", "math/bits.overflowError"], apart := false }
def RecomputeFactorSaid : Prop := recomputeFactorRow.holds Tryz.pinned (OpenSpec.ofChange recomputeFactorSpec)

/-- ITS FALSE NEIGHBOUR: 'it returns false'. Refute it at one input. -/
def recomputeFactorWrong : ChangeSpec := { name := "recomputeFactor", fn := fun _ => fun
  | [d] => { results := [.lit (.bool false)], args := [d] }
  | _ => none }
def RecomputeFactorWrongFalsely : Prop := recomputeFactorRow.holds Tryz.pinned (OpenSpec.ofChange recomputeFactorWrong)

/-- 'landaidlaw38.RecomputeBack': WHATEVER THE INPUT: true; the input reads as it did. -/
def recomputeBackSpec : ChangeSpec := { name := "recomputeBack", fn := fun _ => fun
  | [d] => { results := [.lit (.bool true)], args := [d] }
  | _ => none }
def recomputeBackRow : OpenClaim := { program := "ytmlfcpglhipjgaagreat", sum := "3ec1eedf6d5c601b7dc070e9c693029181bc05c3dee2b77f93825af3914a0633", func := "landaid/landaidlaw38.RecomputeBack", spec := "recomputeBack", unfollowed := true, recurses := true, named := ["math/bits.divideError", "math/bits.overflowError"], apart := false }
def RecomputeBackSaid : Prop := recomputeBackRow.holds Tryz.pinned (OpenSpec.ofChange recomputeBackSpec)

/-- ITS FALSE NEIGHBOUR: 'it returns false'. Refute it at one input. -/
def recomputeBackWrong : ChangeSpec := { name := "recomputeBack", fn := fun _ => fun
  | [d] => { results := [.lit (.bool false)], args := [d] }
  | _ => none }
def RecomputeBackWrongFalsely : Prop := recomputeBackRow.holds Tryz.pinned (OpenSpec.ofChange recomputeBackWrong)

/- THE SECOND FORM. 'bulk': how many values and letters a reading holds, each counted each time it is reached (what is shared counts as often as it is met; a slice's spare places count too). A statement '..UptoSaid' is the law's where the arguments, and the package variables that the reading takes, are together of bulk at most 1048576: NARROWER than '..Said'. Prove '..Said' where nothing that the law and all that it calls make is longer than what came in: it says more and counts as full. Else prove '..UptoSaid'. A law counts once. -/
mutual
def uptoBulk {H : Type} : DataW H → Nat
  | .lit (.string bytes) => bytes.length + 1
  | .lit _ => 1
  | .nil => 1
  | .ptr d => uptoBulk d + 1
  | .slice elems spare => uptoBulkAll elems + uptoBulkAll spare + 1
  | .agg parts => uptoBulkAll parts + 1
  | .iface _ d => uptoBulk d + 1
  | .map entries => uptoBulkEntries entries + 1
  | .held _ => 1
def uptoBulkAll {H : Type} : List (DataW H) → Nat
  | [] => 0
  | d :: r => uptoBulk d + uptoBulkAll r
def uptoBulkEntries {H : Type} : List (Lit × DataW H) → Nat
  | [] => 0
  | x :: r => uptoBulkEntry x + uptoBulkEntries r
def uptoBulkEntry {H : Type} : Lit × DataW H → Nat
  | (.string bytes, d) => bytes.length + uptoBulk d + 1
  | (_, d) => uptoBulk d + 1
 end
def uptoSmall : (H : Type) → List (DataW H) → Bool := fun _ ds => decide (uptoBulkAll ds ≤ 1048576)
def OpenSpec.upto (s : _root_.Go.ChangeSpec) : _root_.Go.OpenSpec := { _root_.Go.OpenSpec.ofChange s with cond := some uptoSmall }

/-- 'landaidlaw34.AssessmentChecks', WHERE WHAT IT READS IS OF BULK AT MOST 1048576: true; the input reads as it did. -/
def assessmentChecksUptoRow : OpenClaim := { program := "ytmlfcpglhipjgaagreat", sum := "3ec1eedf6d5c601b7dc070e9c693029181bc05c3dee2b77f93825af3914a0633", func := "landaid/landaidlaw34.AssessmentChecks", spec := "assessmentChecks", unfollowed := true, recurses := true, named := ["math/bits.divideError", "math/bits.overflowError"], loops := true, apart := false, narrowed := true }
def AssessmentChecksUptoSaid : Prop := assessmentChecksUptoRow.holds Tryz.pinned (OpenSpec.upto assessmentChecksSpec)

/-- 'landaidlaw34.AssessmentAnswers', WHERE WHAT IT READS IS OF BULK AT MOST 1048576: true; the input reads as it did. -/
def assessmentAnswersUptoRow : OpenClaim := { program := "ytmlfcpglhipjgaagreat", sum := "3ec1eedf6d5c601b7dc070e9c693029181bc05c3dee2b77f93825af3914a0633", func := "landaid/landaidlaw34.AssessmentAnswers", spec := "assessmentAnswers", unfollowed := true, recurses := true, named := ["math/bits.divideError", "math/bits.overflowError"], loops := true, apart := false, narrowed := true }
def AssessmentAnswersUptoSaid : Prop := assessmentAnswersUptoRow.holds Tryz.pinned (OpenSpec.upto assessmentAnswersSpec)

/-- 'landaidlaw34.AssessmentFalls', WHERE WHAT IT READS IS OF BULK AT MOST 1048576: true; the input reads as it did. -/
def assessmentFallsUptoRow : OpenClaim := { program := "ytmlfcpglhipjgaagreat", sum := "3ec1eedf6d5c601b7dc070e9c693029181bc05c3dee2b77f93825af3914a0633", func := "landaid/landaidlaw34.AssessmentFalls", spec := "assessmentFalls", unfollowed := true, recurses := true, named := ["math/bits.divideError", "math/bits.overflowError"], apart := false, narrowed := true }
def AssessmentFallsUptoSaid : Prop := assessmentFallsUptoRow.holds Tryz.pinned (OpenSpec.upto assessmentFallsSpec)

/-- 'landaidlaw34.AssessmentOrder', WHERE WHAT IT READS IS OF BULK AT MOST 1048576: true; the input reads as it did. -/
def assessmentOrderUptoRow : OpenClaim := { program := "ytmlfcpglhipjgaagreat", sum := "3ec1eedf6d5c601b7dc070e9c693029181bc05c3dee2b77f93825af3914a0633", func := "landaid/landaidlaw34.AssessmentOrder", spec := "assessmentOrder", unfollowed := true, recurses := true, named := ["math/bits.divideError", "math/bits.overflowError"], apart := false, narrowed := true }
def AssessmentOrderUptoSaid : Prop := assessmentOrderUptoRow.holds Tryz.pinned (OpenSpec.upto assessmentOrderSpec)

/-- 'landaidlaw34.AssessmentAlone', WHERE WHAT IT READS IS OF BULK AT MOST 1048576: true; the input reads as it did. -/
def assessmentAloneUptoRow : OpenClaim := { program := "ytmlfcpglhipjgaagreat", sum := "3ec1eedf6d5c601b7dc070e9c693029181bc05c3dee2b77f93825af3914a0633", func := "landaid/landaidlaw34.AssessmentAlone", spec := "assessmentAlone", unfollowed := true, recurses := true, named := ["math/bits.divideError", "math/bits.overflowError"], apart := false, narrowed := true }
def AssessmentAloneUptoSaid : Prop := assessmentAloneUptoRow.holds Tryz.pinned (OpenSpec.upto assessmentAloneSpec)

/-- 'landaidlaw34.AssessmentReasons', WHERE WHAT IT READS IS OF BULK AT MOST 1048576: true; the input reads as it did. -/
def assessmentReasonsUptoRow : OpenClaim := { program := "ytmlfcpglhipjgaagreat", sum := "3ec1eedf6d5c601b7dc070e9c693029181bc05c3dee2b77f93825af3914a0633", func := "landaid/landaidlaw34.AssessmentReasons", spec := "assessmentReasons", unfollowed := true, recurses := true, named := ["math/bits.divideError", "math/bits.overflowError"], apart := false, narrowed := true }
def AssessmentReasonsUptoSaid : Prop := assessmentReasonsUptoRow.holds Tryz.pinned (OpenSpec.upto assessmentReasonsSpec)

/-- 'landaidlaw34.AssessmentTimes', WHERE WHAT IT READS IS OF BULK AT MOST 1048576: true; the input reads as it did. -/
def assessmentTimesUptoRow : OpenClaim := { program := "ytmlfcpglhipjgaagreat", sum := "3ec1eedf6d5c601b7dc070e9c693029181bc05c3dee2b77f93825af3914a0633", func := "landaid/landaidlaw34.AssessmentTimes", spec := "assessmentTimes", unfollowed := true, recurses := true, named := ["math/bits.divideError", "math/bits.overflowError"], apart := false, narrowed := true }
def AssessmentTimesUptoSaid : Prop := assessmentTimesUptoRow.holds Tryz.pinned (OpenSpec.upto assessmentTimesSpec)

/-- 'landaidlaw38.RecomputeAnswers', WHERE WHAT IT READS IS OF BULK AT MOST 1048576: true; the input reads as it did. -/
def recomputeAnswersUptoRow : OpenClaim := { program := "ytmlfcpglhipjgaagreat", sum := "3ec1eedf6d5c601b7dc070e9c693029181bc05c3dee2b77f93825af3914a0633", func := "landaid/landaidlaw38.RecomputeAnswers", spec := "recomputeAnswers", unfollowed := true, recurses := true, named := ["math/bits.divideError", "math/bits.overflowError"], apart := false, narrowed := true }
def RecomputeAnswersUptoSaid : Prop := recomputeAnswersUptoRow.holds Tryz.pinned (OpenSpec.upto recomputeAnswersSpec)

/-- 'landaidlaw38.RecomputeReasons', WHERE WHAT IT READS IS OF BULK AT MOST 1048576: true; the input reads as it did. -/
def recomputeReasonsUptoRow : OpenClaim := { program := "ytmlfcpglhipjgaagreat", sum := "3ec1eedf6d5c601b7dc070e9c693029181bc05c3dee2b77f93825af3914a0633", func := "landaid/landaidlaw38.RecomputeReasons", spec := "recomputeReasons", unfollowed := true, recurses := true, named := ["math/bits.divideError", "math/bits.overflowError"], apart := false, narrowed := true }
def RecomputeReasonsUptoSaid : Prop := recomputeReasonsUptoRow.holds Tryz.pinned (OpenSpec.upto recomputeReasonsSpec)

/-- 'landaidlaw38.RecomputeNames', WHERE WHAT IT READS IS OF BULK AT MOST 1048576: true; the input reads as it did. -/
def recomputeNamesUptoRow : OpenClaim := { program := "ytmlfcpglhipjgaagreat", sum := "3ec1eedf6d5c601b7dc070e9c693029181bc05c3dee2b77f93825af3914a0633", func := "landaid/landaidlaw38.RecomputeNames", spec := "recomputeNames", unfollowed := true, recurses := true, named := ["math/bits.divideError", "math/bits.overflowError"], apart := false, narrowed := true }
def RecomputeNamesUptoSaid : Prop := recomputeNamesUptoRow.holds Tryz.pinned (OpenSpec.upto recomputeNamesSpec)

/-- 'landaidlaw38.RecomputeFactor', WHERE WHAT IT READS IS OF BULK AT MOST 1048576: true; the input reads as it did. -/
def recomputeFactorUptoRow : OpenClaim := { program := "ytmlfcpglhipjgaagreat", sum := "3ec1eedf6d5c601b7dc070e9c693029181bc05c3dee2b77f93825af3914a0633", func := "landaid/landaidlaw38.RecomputeFactor", spec := "recomputeFactor", unfollowed := true, recurses := true, named := ["math/bits.divideError", "math/bits.overflowError"], apart := false, narrowed := true }
def RecomputeFactorUptoSaid : Prop := recomputeFactorUptoRow.holds Tryz.pinned (OpenSpec.upto recomputeFactorSpec)

/-- 'landaidlaw38.RecomputeBack', WHERE WHAT IT READS IS OF BULK AT MOST 1048576: true; the input reads as it did. -/
def recomputeBackUptoRow : OpenClaim := { program := "ytmlfcpglhipjgaagreat", sum := "3ec1eedf6d5c601b7dc070e9c693029181bc05c3dee2b77f93825af3914a0633", func := "landaid/landaidlaw38.RecomputeBack", spec := "recomputeBack", unfollowed := true, recurses := true, named := ["math/bits.divideError", "math/bits.overflowError"], apart := false, narrowed := true }
def RecomputeBackUptoSaid : Prop := recomputeBackUptoRow.holds Tryz.pinned (OpenSpec.upto recomputeBackSpec)

end Rows
end Go.Proofs.YtmlfcpglhipjgaaGreat
