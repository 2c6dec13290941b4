/-
  No cell of these rows narrows 'for every input' (looked for: loops, veiled, ifaces, maps, wideKeys, modest, calm, conditions, laid).
  DERIVED. THE GIVEN ROWS OF THIS SEAT. 12 by the template 'for every input the law returns true; each argument reads behind the call as it read before'; 0 by the template 'total and deterministic' (their statements: YtmgdbbmheiligaaTotals.lean).
  GIVEN WITH THE SEED: the statements are not yours to turn. If you find one false, say at which input.
  Laid BY PROGRAM, IN A SANDBOX (cutbox-rows.mjs): the forced cells as the released guide's own fill.sh prints them over the translation 60bb9a4477dd5276… (all of the seat's roots in one cut). By AI agents, Wed Nov 11 2026. No macro, syntax, notation, axiom, sorry.
-/
import Derived.Test.YtmgdbbmheiligaaChecked
import GoSem.Claim
import GoSem.ClaimJoined
import GoSem.ClaimMapViews
import Derived.JoinedTies
import Derived.KernelRfl
namespace Go.Proofs.Ytmgdbbmheiligaa
/- THE CELL 'sum', in the pinned program and in every row, IS THE sha256 OF THE DUMP (.gsa) THAT YtmgdbbmheiligaaProg.lean LOADS. Nothing in Lean hashes anything: it is a label: what it is worth is what the hold of that sum in a sandbox is worth. -/
noncomputable def Try.pinned : Pinned := { name := "ytmgdbbmheiligaa", sum := "60bb9a4477dd5276169a111f9df87954430a7c6396ae398ae8f8f21901f27b05", checked := Try.checked }
namespace Rows
def none {H : Type} : Left H := { results := [], args := [] }

/-- 'landaidlaw01.ExactAnswers': WHATEVER THE INPUT: true; the input reads as it did. -/
def exactAnswersSpec : ChangeSpec := { name := "exactAnswers", fn := fun _ => fun
  | [d1, d2, d3, d4, d5, d6] => { results := [.lit (.bool true)], args := [d1, d2, d3, d4, d5, d6] }
  | _ => none }
def exactAnswersRow : OpenClaim := { program := "ytmgdbbmheiligaa", sum := "60bb9a4477dd5276169a111f9df87954430a7c6396ae398ae8f8f21901f27b05", func := "landaid/landaidlaw01.ExactAnswers", spec := "exactAnswers", unfollowed := true, recurses := true, named := ["math/bits.divideError", "math/bits.overflowError"], apart := false }
def ExactAnswersSaid : Prop := exactAnswersRow.holds Try.pinned (OpenSpec.ofChange exactAnswersSpec)

/-- ITS FALSE NEIGHBOUR: 'it returns false'. Refute it at one input. -/
def exactAnswersWrong : ChangeSpec := { name := "exactAnswers", fn := fun _ => fun
  | [d1, d2, d3, d4, d5, d6] => { results := [.lit (.bool false)], args := [d1, d2, d3, d4, d5, d6] }
  | _ => none }
def ExactAnswersWrongFalsely : Prop := exactAnswersRow.holds Try.pinned (OpenSpec.ofChange exactAnswersWrong)

/-- 'landaidlaw32.CeilingAnswers': WHATEVER THE INPUT: true; the input reads as it did. -/
def ceilingAnswersSpec : ChangeSpec := { name := "ceilingAnswers", fn := fun _ => fun
  | [d1, d2, d3, d4, d5, d6] => { results := [.lit (.bool true)], args := [d1, d2, d3, d4, d5, d6] }
  | _ => none }
def ceilingAnswersRow : OpenClaim := { program := "ytmgdbbmheiligaa", sum := "60bb9a4477dd5276169a111f9df87954430a7c6396ae398ae8f8f21901f27b05", func := "landaid/landaidlaw32.CeilingAnswers", spec := "ceilingAnswers", unfollowed := true, recurses := true, named := ["math/bits.divideError", "math/bits.overflowError"], apart := false }
def CeilingAnswersSaid : Prop := ceilingAnswersRow.holds Try.pinned (OpenSpec.ofChange ceilingAnswersSpec)

/-- ITS FALSE NEIGHBOUR: 'it returns false'. Refute it at one input. -/
def ceilingAnswersWrong : ChangeSpec := { name := "ceilingAnswers", fn := fun _ => fun
  | [d1, d2, d3, d4, d5, d6] => { results := [.lit (.bool false)], args := [d1, d2, d3, d4, d5, d6] }
  | _ => none }
def CeilingAnswersWrongFalsely : Prop := ceilingAnswersRow.holds Try.pinned (OpenSpec.ofChange ceilingAnswersWrong)

/-- 'landaidlaw32.CeilingRises': WHATEVER THE INPUT: true; the input reads as it did. -/
def ceilingRisesSpec : ChangeSpec := { name := "ceilingRises", fn := fun _ => fun
  | [d] => { results := [.lit (.bool true)], args := [d] }
  | _ => none }
def ceilingRisesRow : OpenClaim := { program := "ytmgdbbmheiligaa", sum := "60bb9a4477dd5276169a111f9df87954430a7c6396ae398ae8f8f21901f27b05", func := "landaid/landaidlaw32.CeilingRises", spec := "ceilingRises", unfollowed := true, recurses := true, named := ["math/bits.divideError", "math/bits.overflowError"], apart := false }
def CeilingRisesSaid : Prop := ceilingRisesRow.holds Try.pinned (OpenSpec.ofChange ceilingRisesSpec)

/-- ITS FALSE NEIGHBOUR: 'it returns false'. Refute it at one input. -/
def ceilingRisesWrong : ChangeSpec := { name := "ceilingRises", fn := fun _ => fun
  | [d] => { results := [.lit (.bool false)], args := [d] }
  | _ => none }
def CeilingRisesWrongFalsely : Prop := ceilingRisesRow.holds Try.pinned (OpenSpec.ofChange ceilingRisesWrong)

/-- 'landaidlaw32.CeilingSums': WHATEVER THE INPUT: true; the input reads as it did. -/
def ceilingSumsSpec : ChangeSpec := { name := "ceilingSums", fn := fun _ => fun
  | [d] => { results := [.lit (.bool true)], args := [d] }
  | _ => none }
def ceilingSumsRow : OpenClaim := { program := "ytmgdbbmheiligaa", sum := "60bb9a4477dd5276169a111f9df87954430a7c6396ae398ae8f8f21901f27b05", func := "landaid/landaidlaw32.CeilingSums", spec := "ceilingSums", unfollowed := true, recurses := true, named := ["math/bits.divideError", "math/bits.overflowError"], apart := false }
def CeilingSumsSaid : Prop := ceilingSumsRow.holds Try.pinned (OpenSpec.ofChange ceilingSumsSpec)

/-- ITS FALSE NEIGHBOUR: 'it returns false'. Refute it at one input. -/
def ceilingSumsWrong : ChangeSpec := { name := "ceilingSums", fn := fun _ => fun
  | [d] => { results := [.lit (.bool false)], args := [d] }
  | _ => none }
def CeilingSumsWrongFalsely : Prop := ceilingSumsRow.holds Try.pinned (OpenSpec.ofChange ceilingSumsWrong)

/-- 'landaidlaw32.CeilingStricter': WHATEVER THE INPUT: true; the input reads as it did. -/
def ceilingStricterSpec : ChangeSpec := { name := "ceilingStricter", fn := fun _ => fun
  | [d1, d2] => { results := [.lit (.bool true)], args := [d1, d2] }
  | _ => none }
def ceilingStricterRow : OpenClaim := { program := "ytmgdbbmheiligaa", sum := "60bb9a4477dd5276169a111f9df87954430a7c6396ae398ae8f8f21901f27b05", func := "landaid/landaidlaw32.CeilingStricter", spec := "ceilingStricter", unfollowed := true, recurses := true, named := ["math/bits.divideError", "math/bits.overflowError"], apart := false }
def CeilingStricterSaid : Prop := ceilingStricterRow.holds Try.pinned (OpenSpec.ofChange ceilingStricterSpec)

/-- ITS FALSE NEIGHBOUR: 'it returns false'. Refute it at one input. -/
def ceilingStricterWrong : ChangeSpec := { name := "ceilingStricter", fn := fun _ => fun
  | [d1, d2] => { results := [.lit (.bool false)], args := [d1, d2] }
  | _ => none }
def CeilingStricterWrongFalsely : Prop := ceilingStricterRow.holds Try.pinned (OpenSpec.ofChange ceilingStricterWrong)

/-- 'landaidlaw32.CeilingAlone': WHATEVER THE INPUT: true; the input reads as it did. -/
def ceilingAloneSpec : ChangeSpec := { name := "ceilingAlone", fn := fun _ => fun
  | [d1, d2] => { results := [.lit (.bool true)], args := [d1, d2] }
  | _ => none }
def ceilingAloneRow : OpenClaim := { program := "ytmgdbbmheiligaa", sum := "60bb9a4477dd5276169a111f9df87954430a7c6396ae398ae8f8f21901f27b05", func := "landaid/landaidlaw32.CeilingAlone", spec := "ceilingAlone", unfollowed := true, recurses := true, named := ["math/bits.divideError", "math/bits.overflowError"], apart := false }
def CeilingAloneSaid : Prop := ceilingAloneRow.holds Try.pinned (OpenSpec.ofChange ceilingAloneSpec)

/-- ITS FALSE NEIGHBOUR: 'it returns false'. Refute it at one input. -/
def ceilingAloneWrong : ChangeSpec := { name := "ceilingAlone", fn := fun _ => fun
  | [d1, d2] => { results := [.lit (.bool false)], args := [d1, d2] }
  | _ => none }
def CeilingAloneWrongFalsely : Prop := ceilingAloneRow.holds Try.pinned (OpenSpec.ofChange ceilingAloneWrong)

/-- 'landaidlaw29.ReductionAnswers': WHATEVER THE INPUT: true; the input reads as it did. -/
def reductionAnswersSpec : ChangeSpec := { name := "reductionAnswers", fn := fun _ => fun
  | [d1, d2, d3, d4, d5] => { results := [.lit (.bool true)], args := [d1, d2, d3, d4, d5] }
  | _ => none }
def reductionAnswersRow : OpenClaim := { program := "ytmgdbbmheiligaa", sum := "60bb9a4477dd5276169a111f9df87954430a7c6396ae398ae8f8f21901f27b05", func := "landaid/landaidlaw29.ReductionAnswers", spec := "reductionAnswers", unfollowed := true, recurses := true, named := ["math/bits.divideError", "math/bits.overflowError"], apart := false }
def ReductionAnswersSaid : Prop := reductionAnswersRow.holds Try.pinned (OpenSpec.ofChange reductionAnswersSpec)

/-- ITS FALSE NEIGHBOUR: 'it returns false'. Refute it at one input. -/
def reductionAnswersWrong : ChangeSpec := { name := "reductionAnswers", fn := fun _ => fun
  | [d1, d2, d3, d4, d5] => { results := [.lit (.bool false)], args := [d1, d2, d3, d4, d5] }
  | _ => none }
def ReductionAnswersWrongFalsely : Prop := reductionAnswersRow.holds Try.pinned (OpenSpec.ofChange reductionAnswersWrong)

/-- 'landaidlaw29.ReductionGroups': WHATEVER THE INPUT: true; the input reads as it did. -/
def reductionGroupsSpec : ChangeSpec := { name := "reductionGroups", fn := fun _ => fun
  | [d1, d2, d3, d4, d5] => { results := [.lit (.bool true)], args := [d1, d2, d3, d4, d5] }
  | _ => none }
def reductionGroupsRow : OpenClaim := { program := "ytmgdbbmheiligaa", sum := "60bb9a4477dd5276169a111f9df87954430a7c6396ae398ae8f8f21901f27b05", func := "landaid/landaidlaw29.ReductionGroups", spec := "reductionGroups", unfollowed := true, recurses := true, named := ["math/bits.divideError", "math/bits.overflowError"], apart := false }
def ReductionGroupsSaid : Prop := reductionGroupsRow.holds Try.pinned (OpenSpec.ofChange reductionGroupsSpec)

/-- ITS FALSE NEIGHBOUR: 'it returns false'. Refute it at one input. -/
def reductionGroupsWrong : ChangeSpec := { name := "reductionGroups", fn := fun _ => fun
  | [d1, d2, d3, d4, d5] => { results := [.lit (.bool false)], args := [d1, d2, d3, d4, d5] }
  | _ => none }
def ReductionGroupsWrongFalsely : Prop := reductionGroupsRow.holds Try.pinned (OpenSpec.ofChange reductionGroupsWrong)

/-- 'landaidlaw29.ReductionWithin': WHATEVER THE INPUT: true; the input reads as it did. -/
def reductionWithinSpec : ChangeSpec := { name := "reductionWithin", fn := fun _ => fun
  | [d] => { results := [.lit (.bool true)], args := [d] }
  | _ => none }
def reductionWithinRow : OpenClaim := { program := "ytmgdbbmheiligaa", sum := "60bb9a4477dd5276169a111f9df87954430a7c6396ae398ae8f8f21901f27b05", func := "landaid/landaidlaw29.ReductionWithin", spec := "reductionWithin", unfollowed := true, recurses := true, named := ["math/bits.divideError", "math/bits.overflowError"], apart := false }
def ReductionWithinSaid : Prop := reductionWithinRow.holds Try.pinned (OpenSpec.ofChange reductionWithinSpec)

/-- ITS FALSE NEIGHBOUR: 'it returns false'. Refute it at one input. -/
def reductionWithinWrong : ChangeSpec := { name := "reductionWithin", fn := fun _ => fun
  | [d] => { results := [.lit (.bool false)], args := [d] }
  | _ => none }
def ReductionWithinWrongFalsely : Prop := reductionWithinRow.holds Try.pinned (OpenSpec.ofChange reductionWithinWrong)

/-- 'landaidlaw29.ReductionShares': WHATEVER THE INPUT: true; the input reads as it did. -/
def reductionSharesSpec : ChangeSpec := { name := "reductionShares", fn := fun _ => fun
  | [d] => { results := [.lit (.bool true)], args := [d] }
  | _ => none }
def reductionSharesRow : OpenClaim := { program := "ytmgdbbmheiligaa", sum := "60bb9a4477dd5276169a111f9df87954430a7c6396ae398ae8f8f21901f27b05", func := "landaid/landaidlaw29.ReductionShares", spec := "reductionShares", unfollowed := true, recurses := true, named := ["math/bits.divideError", "math/bits.overflowError"], apart := false }
def ReductionSharesSaid : Prop := reductionSharesRow.holds Try.pinned (OpenSpec.ofChange reductionSharesSpec)

/-- ITS FALSE NEIGHBOUR: 'it returns false'. Refute it at one input. -/
def reductionSharesWrong : ChangeSpec := { name := "reductionShares", fn := fun _ => fun
  | [d] => { results := [.lit (.bool false)], args := [d] }
  | _ => none }
def ReductionSharesWrongFalsely : Prop := reductionSharesRow.holds Try.pinned (OpenSpec.ofChange reductionSharesWrong)

/-- 'landaidlaw29.ReductionSteps': WHATEVER THE INPUT: true; the input reads as it did. -/
def reductionStepsSpec : ChangeSpec := { name := "reductionSteps", fn := fun _ => fun
  | [d] => { results := [.lit (.bool true)], args := [d] }
  | _ => none }
def reductionStepsRow : OpenClaim := { program := "ytmgdbbmheiligaa", sum := "60bb9a4477dd5276169a111f9df87954430a7c6396ae398ae8f8f21901f27b05", func := "landaid/landaidlaw29.ReductionSteps", spec := "reductionSteps", unfollowed := true, recurses := true, named := ["math/bits.divideError", "math/bits.overflowError"], apart := false }
def ReductionStepsSaid : Prop := reductionStepsRow.holds Try.pinned (OpenSpec.ofChange reductionStepsSpec)

/-- ITS FALSE NEIGHBOUR: 'it returns false'. Refute it at one input. -/
def reductionStepsWrong : ChangeSpec := { name := "reductionSteps", fn := fun _ => fun
  | [d] => { results := [.lit (.bool false)], args := [d] }
  | _ => none }
def ReductionStepsWrongFalsely : Prop := reductionStepsRow.holds Try.pinned (OpenSpec.ofChange reductionStepsWrong)

/-- 'landaidlaw29.ReductionDoubles': WHATEVER THE INPUT: true; the input reads as it did. -/
def reductionDoublesSpec : ChangeSpec := { name := "reductionDoubles", fn := fun _ => fun
  | [d1, d2] => { results := [.lit (.bool true)], args := [d1, d2] }
  | _ => none }
def reductionDoublesRow : OpenClaim := { program := "ytmgdbbmheiligaa", sum := "60bb9a4477dd5276169a111f9df87954430a7c6396ae398ae8f8f21901f27b05", func := "landaid/landaidlaw29.ReductionDoubles", spec := "reductionDoubles", unfollowed := true, recurses := true, named := ["math/bits.divideError", "math/bits.overflowError"], apart := false }
def ReductionDoublesSaid : Prop := reductionDoublesRow.holds Try.pinned (OpenSpec.ofChange reductionDoublesSpec)

/-- ITS FALSE NEIGHBOUR: 'it returns false'. Refute it at one input. -/
def reductionDoublesWrong : ChangeSpec := { name := "reductionDoubles", fn := fun _ => fun
  | [d1, d2] => { results := [.lit (.bool false)], args := [d1, d2] }
  | _ => none }
def ReductionDoublesWrongFalsely : Prop := reductionDoublesRow.holds Try.pinned (OpenSpec.ofChange reductionDoublesWrong)

/- THE SECOND FORM. 'bulk': how many values and letters a reading holds, each counted each time it is reached (what is shared counts as often as it is met; a slice's spare places count too). A statement '..UptoSaid' is the law's where the arguments, and the package variables that the reading takes, are together of bulk at most 1048576: NARROWER than '..Said'. Prove '..Said' where nothing that the law and all that it calls make is longer than what came in: it says more and counts as full. Else prove '..UptoSaid'. A law counts once. -/
mutual
def uptoBulk {H : Type} : DataW H → Nat
  | .lit (.string bytes) => bytes.length + 1
  | .lit _ => 1
  | .nil => 1
  | .ptr d => uptoBulk d + 1
  | .slice elems spare => uptoBulkAll elems + uptoBulkAll spare + 1
  | .agg parts => uptoBulkAll parts + 1
  | .iface _ d => uptoBulk d + 1
  | .map entries => uptoBulkEntries entries + 1
  | .held _ => 1
def uptoBulkAll {H : Type} : List (DataW H) → Nat
  | [] => 0
  | d :: r => uptoBulk d + uptoBulkAll r
def uptoBulkEntries {H : Type} : List (Lit × DataW H) → Nat
  | [] => 0
  | x :: r => uptoBulkEntry x + uptoBulkEntries r
def uptoBulkEntry {H : Type} : Lit × DataW H → Nat
  | (.string bytes, d) => bytes.length + uptoBulk d + 1
  | (_, d) => uptoBulk d + 1
 end
def uptoSmall : (H : Type) → List (DataW H) → Bool := fun _ ds => decide (uptoBulkAll ds ≤ 1048576)
def OpenSpec.upto (s : _root_.Go.ChangeSpec) : _root_.Go.OpenSpec := { _root_.Go.OpenSpec.ofChange s with cond := some uptoSmall }

/-- 'landaidlaw01.ExactAnswers', WHERE WHAT IT READS IS OF BULK AT MOST 1048576: true; the input reads as it did. -/
def exactAnswersUptoRow : OpenClaim := { program := "ytmgdbbmheiligaa", sum := "60bb9a4477dd5276169a111f9df87954430a7c6396ae398ae8f8f21901f27b05", func := "landaid/landaidlaw01.ExactAnswers", spec := "exactAnswers", unfollowed := true, recurses := true, named := ["math/bits.divideError", "math/bits.overflowError"], apart := false, narrowed := true }
def ExactAnswersUptoSaid : Prop := exactAnswersUptoRow.holds Try.pinned (OpenSpec.upto exactAnswersSpec)

/-- 'landaidlaw32.CeilingAnswers', WHERE WHAT IT READS IS OF BULK AT MOST 1048576: true; the input reads as it did. -/
def ceilingAnswersUptoRow : OpenClaim := { program := "ytmgdbbmheiligaa", sum := "60bb9a4477dd5276169a111f9df87954430a7c6396ae398ae8f8f21901f27b05", func := "landaid/landaidlaw32.CeilingAnswers", spec := "ceilingAnswers", unfollowed := true, recurses := true, named := ["math/bits.divideError", "math/bits.overflowError"], apart := false, narrowed := true }
def CeilingAnswersUptoSaid : Prop := ceilingAnswersUptoRow.holds Try.pinned (OpenSpec.upto ceilingAnswersSpec)

/-- 'landaidlaw32.CeilingRises', WHERE WHAT IT READS IS OF BULK AT MOST 1048576: true; the input reads as it did. -/
def ceilingRisesUptoRow : OpenClaim := { program := "ytmgdbbmheiligaa", sum := "60bb9a4477dd5276169a111f9df87954430a7c6396ae398ae8f8f21901f27b05", func := "landaid/landaidlaw32.CeilingRises", spec := "ceilingRises", unfollowed := true, recurses := true, named := ["math/bits.divideError", "math/bits.overflowError"], apart := false, narrowed := true }
def CeilingRisesUptoSaid : Prop := ceilingRisesUptoRow.holds Try.pinned (OpenSpec.upto ceilingRisesSpec)

/-- 'landaidlaw32.CeilingSums', WHERE WHAT IT READS IS OF BULK AT MOST 1048576: true; the input reads as it did. -/
def ceilingSumsUptoRow : OpenClaim := { program := "ytmgdbbmheiligaa", sum := "60bb9a4477dd5276169a111f9df87954430a7c6396ae398ae8f8f21901f27b05", func := "landaid/landaidlaw32.CeilingSums", spec := "ceilingSums", unfollowed := true, recurses := true, named := ["math/bits.divideError", "math/bits.overflowError"], apart := false, narrowed := true }
def CeilingSumsUptoSaid : Prop := ceilingSumsUptoRow.holds Try.pinned (OpenSpec.upto ceilingSumsSpec)

/-- 'landaidlaw32.CeilingStricter', WHERE WHAT IT READS IS OF BULK AT MOST 1048576: true; the input reads as it did. -/
def ceilingStricterUptoRow : OpenClaim := { program := "ytmgdbbmheiligaa", sum := "60bb9a4477dd5276169a111f9df87954430a7c6396ae398ae8f8f21901f27b05", func := "landaid/landaidlaw32.CeilingStricter", spec := "ceilingStricter", unfollowed := true, recurses := true, named := ["math/bits.divideError", "math/bits.overflowError"], apart := false, narrowed := true }
def CeilingStricterUptoSaid : Prop := ceilingStricterUptoRow.holds Try.pinned (OpenSpec.upto ceilingStricterSpec)

/-- 'landaidlaw32.CeilingAlone', WHERE WHAT IT READS IS OF BULK AT MOST 1048576: true; the input reads as it did. -/
def ceilingAloneUptoRow : OpenClaim := { program := "ytmgdbbmheiligaa", sum := "60bb9a4477dd5276169a111f9df87954430a7c6396ae398ae8f8f21901f27b05", func := "landaid/landaidlaw32.CeilingAlone", spec := "ceilingAlone", unfollowed := true, recurses := true, named := ["math/bits.divideError", "math/bits.overflowError"], apart := false, narrowed := true }
def CeilingAloneUptoSaid : Prop := ceilingAloneUptoRow.holds Try.pinned (OpenSpec.upto ceilingAloneSpec)

/-- 'landaidlaw29.ReductionAnswers', WHERE WHAT IT READS IS OF BULK AT MOST 1048576: true; the input reads as it did. -/
def reductionAnswersUptoRow : OpenClaim := { program := "ytmgdbbmheiligaa", sum := "60bb9a4477dd5276169a111f9df87954430a7c6396ae398ae8f8f21901f27b05", func := "landaid/landaidlaw29.ReductionAnswers", spec := "reductionAnswers", unfollowed := true, recurses := true, named := ["math/bits.divideError", "math/bits.overflowError"], apart := false, narrowed := true }
def ReductionAnswersUptoSaid : Prop := reductionAnswersUptoRow.holds Try.pinned (OpenSpec.upto reductionAnswersSpec)

/-- 'landaidlaw29.ReductionGroups', WHERE WHAT IT READS IS OF BULK AT MOST 1048576: true; the input reads as it did. -/
def reductionGroupsUptoRow : OpenClaim := { program := "ytmgdbbmheiligaa", sum := "60bb9a4477dd5276169a111f9df87954430a7c6396ae398ae8f8f21901f27b05", func := "landaid/landaidlaw29.ReductionGroups", spec := "reductionGroups", unfollowed := true, recurses := true, named := ["math/bits.divideError", "math/bits.overflowError"], apart := false, narrowed := true }
def ReductionGroupsUptoSaid : Prop := reductionGroupsUptoRow.holds Try.pinned (OpenSpec.upto reductionGroupsSpec)

/-- 'landaidlaw29.ReductionWithin', WHERE WHAT IT READS IS OF BULK AT MOST 1048576: true; the input reads as it did. -/
def reductionWithinUptoRow : OpenClaim := { program := "ytmgdbbmheiligaa", sum := "60bb9a4477dd5276169a111f9df87954430a7c6396ae398ae8f8f21901f27b05", func := "landaid/landaidlaw29.ReductionWithin", spec := "reductionWithin", unfollowed := true, recurses := true, named := ["math/bits.divideError", "math/bits.overflowError"], apart := false, narrowed := true }
def ReductionWithinUptoSaid : Prop := reductionWithinUptoRow.holds Try.pinned (OpenSpec.upto reductionWithinSpec)

/-- 'landaidlaw29.ReductionShares', WHERE WHAT IT READS IS OF BULK AT MOST 1048576: true; the input reads as it did. -/
def reductionSharesUptoRow : OpenClaim := { program := "ytmgdbbmheiligaa", sum := "60bb9a4477dd5276169a111f9df87954430a7c6396ae398ae8f8f21901f27b05", func := "landaid/landaidlaw29.ReductionShares", spec := "reductionShares", unfollowed := true, recurses := true, named := ["math/bits.divideError", "math/bits.overflowError"], apart := false, narrowed := true }
def ReductionSharesUptoSaid : Prop := reductionSharesUptoRow.holds Try.pinned (OpenSpec.upto reductionSharesSpec)

/-- 'landaidlaw29.ReductionSteps', WHERE WHAT IT READS IS OF BULK AT MOST 1048576: true; the input reads as it did. -/
def reductionStepsUptoRow : OpenClaim := { program := "ytmgdbbmheiligaa", sum := "60bb9a4477dd5276169a111f9df87954430a7c6396ae398ae8f8f21901f27b05", func := "landaid/landaidlaw29.ReductionSteps", spec := "reductionSteps", unfollowed := true, recurses := true, named := ["math/bits.divideError", "math/bits.overflowError"], apart := false, narrowed := true }
def ReductionStepsUptoSaid : Prop := reductionStepsUptoRow.holds Try.pinned (OpenSpec.upto reductionStepsSpec)

/-- 'landaidlaw29.ReductionDoubles', WHERE WHAT IT READS IS OF BULK AT MOST 1048576: true; the input reads as it did. -/
def reductionDoublesUptoRow : OpenClaim := { program := "ytmgdbbmheiligaa", sum := "60bb9a4477dd5276169a111f9df87954430a7c6396ae398ae8f8f21901f27b05", func := "landaid/landaidlaw29.ReductionDoubles", spec := "reductionDoubles", unfollowed := true, recurses := true, named := ["math/bits.divideError", "math/bits.overflowError"], apart := false, narrowed := true }
def ReductionDoublesUptoSaid : Prop := reductionDoublesUptoRow.holds Try.pinned (OpenSpec.upto reductionDoublesSpec)

end Rows
end Go.Proofs.Ytmgdbbmheiligaa
