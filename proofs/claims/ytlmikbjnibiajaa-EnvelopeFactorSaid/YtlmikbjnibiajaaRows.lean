/-
  No cell of these rows narrows 'for every input' (looked for: loops, veiled, ifaces, maps, wideKeys, modest, calm, conditions, laid).
  DERIVED. THE GIVEN ROWS OF THIS SEAT. 12 by the template 'for every input the law returns true; each argument reads behind the call as it read before'; 0 by the template 'total and deterministic' (their statements: YtlmikbjnibiajaaTotals.lean).
  GIVEN WITH THE SEED: the statements are not yours to turn. If you find one false, say at which input.
  Laid BY PROGRAM, IN A SANDBOX (cutbox-rows.mjs): the forced cells as the released guide's own fill.sh prints them over the translation c572a03dcb951aea… (all of the seat's roots in one cut). By AI agents, Wed Nov 11 2026. No macro, syntax, notation, axiom, sorry.
-/
import Derived.Test.YtlmikbjnibiajaaChecked
import GoSem.Claim
import GoSem.ClaimJoined
import GoSem.ClaimMapViews
import Derived.JoinedTies
import Derived.KernelRfl
namespace Go.Proofs.Ytlmikbjnibiajaa
/- THE CELL 'sum', in the pinned program and in every row, IS THE sha256 OF THE DUMP (.gsa) THAT YtlmikbjnibiajaaProg.lean LOADS. Nothing in Lean hashes anything: it is a label: what it is worth is what the hold of that sum in a sandbox is worth. -/
noncomputable def Try.pinned : Pinned := { name := "ytlmikbjnibiajaa", sum := "c572a03dcb951aea4733405867984008fc7ab49fc28182f5c508b9d238e10169", checked := Try.checked }
namespace Rows
def none {H : Type} : Left H := { results := [], args := [] }

/-- 'landaidlaw01.ExactRounds': WHATEVER THE INPUT: true; the input reads as it did. -/
def exactRoundsSpec : ChangeSpec := { name := "exactRounds", fn := fun _ => fun
  | [d1, d2] => { results := [.lit (.bool true)], args := [d1, d2] }
  | _ => none }
def exactRoundsRow : OpenClaim := { program := "ytlmikbjnibiajaa", sum := "c572a03dcb951aea4733405867984008fc7ab49fc28182f5c508b9d238e10169", func := "landaid/landaidlaw01.ExactRounds", spec := "exactRounds", unfollowed := true, recurses := true, named := ["math/bits.divideError", "math/bits.overflowError"], apart := false }
def ExactRoundsSaid : Prop := exactRoundsRow.holds Try.pinned (OpenSpec.ofChange exactRoundsSpec)

/-- ITS FALSE NEIGHBOUR: 'it returns false'. Refute it at one input. -/
def exactRoundsWrong : ChangeSpec := { name := "exactRounds", fn := fun _ => fun
  | [d1, d2] => { results := [.lit (.bool false)], args := [d1, d2] }
  | _ => none }
def ExactRoundsWrongFalsely : Prop := exactRoundsRow.holds Try.pinned (OpenSpec.ofChange exactRoundsWrong)

/-- 'landaidlaw01.ExactShares': WHATEVER THE INPUT: true; the input reads as it did. -/
def exactSharesSpec : ChangeSpec := { name := "exactShares", fn := fun _ => fun
  | [d1, d2] => { results := [.lit (.bool true)], args := [d1, d2] }
  | _ => none }
def exactSharesRow : OpenClaim := { program := "ytlmikbjnibiajaa", sum := "c572a03dcb951aea4733405867984008fc7ab49fc28182f5c508b9d238e10169", func := "landaid/landaidlaw01.ExactShares", spec := "exactShares", unfollowed := true, recurses := true, named := ["math/bits.divideError", "math/bits.overflowError"], apart := false }
def ExactSharesSaid : Prop := exactSharesRow.holds Try.pinned (OpenSpec.ofChange exactSharesSpec)

/-- ITS FALSE NEIGHBOUR: 'it returns false'. Refute it at one input. -/
def exactSharesWrong : ChangeSpec := { name := "exactShares", fn := fun _ => fun
  | [d1, d2] => { results := [.lit (.bool false)], args := [d1, d2] }
  | _ => none }
def ExactSharesWrongFalsely : Prop := exactSharesRow.holds Try.pinned (OpenSpec.ofChange exactSharesWrong)

/-- 'landaidlaw01.ExactOrder': WHATEVER THE INPUT: true; the input reads as it did. -/
def exactOrderSpec : ChangeSpec := { name := "exactOrder", fn := fun _ => fun
  | [d1, d2, d3, d4, d5, d6] => { results := [.lit (.bool true)], args := [d1, d2, d3, d4, d5, d6] }
  | _ => none }
def exactOrderRow : OpenClaim := { program := "ytlmikbjnibiajaa", sum := "c572a03dcb951aea4733405867984008fc7ab49fc28182f5c508b9d238e10169", func := "landaid/landaidlaw01.ExactOrder", spec := "exactOrder", unfollowed := true, recurses := true, named := ["math/bits.divideError", "math/bits.overflowError"], apart := false }
def ExactOrderSaid : Prop := exactOrderRow.holds Try.pinned (OpenSpec.ofChange exactOrderSpec)

/-- ITS FALSE NEIGHBOUR: 'it returns false'. Refute it at one input. -/
def exactOrderWrong : ChangeSpec := { name := "exactOrder", fn := fun _ => fun
  | [d1, d2, d3, d4, d5, d6] => { results := [.lit (.bool false)], args := [d1, d2, d3, d4, d5, d6] }
  | _ => none }
def ExactOrderWrongFalsely : Prop := exactOrderRow.holds Try.pinned (OpenSpec.ofChange exactOrderWrong)

/-- 'landaidlaw01.ExactAnswers': WHATEVER THE INPUT: true; the input reads as it did. -/
def exactAnswersSpec : ChangeSpec := { name := "exactAnswers", fn := fun _ => fun
  | [d1, d2, d3, d4, d5, d6] => { results := [.lit (.bool true)], args := [d1, d2, d3, d4, d5, d6] }
  | _ => none }
def exactAnswersRow : OpenClaim := { program := "ytlmikbjnibiajaa", sum := "c572a03dcb951aea4733405867984008fc7ab49fc28182f5c508b9d238e10169", func := "landaid/landaidlaw01.ExactAnswers", spec := "exactAnswers", unfollowed := true, recurses := true, named := ["math/bits.divideError", "math/bits.overflowError"], apart := false }
def ExactAnswersSaid : Prop := exactAnswersRow.holds Try.pinned (OpenSpec.ofChange exactAnswersSpec)

/-- ITS FALSE NEIGHBOUR: 'it returns false'. Refute it at one input. -/
def exactAnswersWrong : ChangeSpec := { name := "exactAnswers", fn := fun _ => fun
  | [d1, d2, d3, d4, d5, d6] => { results := [.lit (.bool false)], args := [d1, d2, d3, d4, d5, d6] }
  | _ => none }
def ExactAnswersWrongFalsely : Prop := exactAnswersRow.holds Try.pinned (OpenSpec.ofChange exactAnswersWrong)

/-- 'landaidlaw01.ExactParts': WHATEVER THE INPUT: true; the input reads as it did. -/
def exactPartsSpec : ChangeSpec := { name := "exactParts", fn := fun _ => fun
  | [d1, d2, d3] => { results := [.lit (.bool true)], args := [d1, d2, d3] }
  | _ => none }
def exactPartsRow : OpenClaim := { program := "ytlmikbjnibiajaa", sum := "c572a03dcb951aea4733405867984008fc7ab49fc28182f5c508b9d238e10169", func := "landaid/landaidlaw01.ExactParts", spec := "exactParts", unfollowed := true, recurses := true, named := ["math/bits.divideError", "math/bits.overflowError"], apart := false }
def ExactPartsSaid : Prop := exactPartsRow.holds Try.pinned (OpenSpec.ofChange exactPartsSpec)

/-- ITS FALSE NEIGHBOUR: 'it returns false'. Refute it at one input. -/
def exactPartsWrong : ChangeSpec := { name := "exactParts", fn := fun _ => fun
  | [d1, d2, d3] => { results := [.lit (.bool false)], args := [d1, d2, d3] }
  | _ => none }
def ExactPartsWrongFalsely : Prop := exactPartsRow.holds Try.pinned (OpenSpec.ofChange exactPartsWrong)

/-- 'landaidlaw33.EnvelopeAnswers': WHATEVER THE INPUT: true; the input reads as it did. -/
def envelopeAnswersSpec : ChangeSpec := { name := "envelopeAnswers", fn := fun _ => fun
  | [d1, d2, d3, d4] => { results := [.lit (.bool true)], args := [d1, d2, d3, d4] }
  | _ => none }
def envelopeAnswersRow : OpenClaim := { program := "ytlmikbjnibiajaa", sum := "c572a03dcb951aea4733405867984008fc7ab49fc28182f5c508b9d238e10169", func := "landaid/landaidlaw33.EnvelopeAnswers", spec := "envelopeAnswers", unfollowed := true, recurses := true, named := ["math/bits.divideError", "math/bits.overflowError"], apart := false }
def EnvelopeAnswersSaid : Prop := envelopeAnswersRow.holds Try.pinned (OpenSpec.ofChange envelopeAnswersSpec)

/-- ITS FALSE NEIGHBOUR: 'it returns false'. Refute it at one input. -/
def envelopeAnswersWrong : ChangeSpec := { name := "envelopeAnswers", fn := fun _ => fun
  | [d1, d2, d3, d4] => { results := [.lit (.bool false)], args := [d1, d2, d3, d4] }
  | _ => none }
def EnvelopeAnswersWrongFalsely : Prop := envelopeAnswersRow.holds Try.pinned (OpenSpec.ofChange envelopeAnswersWrong)

/-- 'landaidlaw33.EnvelopeKeeps': WHATEVER THE INPUT: true; the input reads as it did. -/
def envelopeKeepsSpec : ChangeSpec := { name := "envelopeKeeps", fn := fun _ => fun
  | [d1, d2, d3] => { results := [.lit (.bool true)], args := [d1, d2, d3] }
  | _ => none }
def envelopeKeepsRow : OpenClaim := { program := "ytlmikbjnibiajaa", sum := "c572a03dcb951aea4733405867984008fc7ab49fc28182f5c508b9d238e10169", func := "landaid/landaidlaw33.EnvelopeKeeps", spec := "envelopeKeeps", unfollowed := true, recurses := true, named := ["math/bits.divideError", "math/bits.overflowError"], apart := false }
def EnvelopeKeepsSaid : Prop := envelopeKeepsRow.holds Try.pinned (OpenSpec.ofChange envelopeKeepsSpec)

/-- ITS FALSE NEIGHBOUR: 'it returns false'. Refute it at one input. -/
def envelopeKeepsWrong : ChangeSpec := { name := "envelopeKeeps", fn := fun _ => fun
  | [d1, d2, d3] => { results := [.lit (.bool false)], args := [d1, d2, d3] }
  | _ => none }
def EnvelopeKeepsWrongFalsely : Prop := envelopeKeepsRow.holds Try.pinned (OpenSpec.ofChange envelopeKeepsWrong)

/-- 'landaidlaw33.EnvelopeEnough': WHATEVER THE INPUT: true; the input reads as it did. -/
def envelopeEnoughSpec : ChangeSpec := { name := "envelopeEnough", fn := fun _ => fun
  | [d1, d2] => { results := [.lit (.bool true)], args := [d1, d2] }
  | _ => none }
def envelopeEnoughRow : OpenClaim := { program := "ytlmikbjnibiajaa", sum := "c572a03dcb951aea4733405867984008fc7ab49fc28182f5c508b9d238e10169", func := "landaid/landaidlaw33.EnvelopeEnough", spec := "envelopeEnough", unfollowed := true, recurses := true, named := ["math/bits.divideError", "math/bits.overflowError"], apart := false }
def EnvelopeEnoughSaid : Prop := envelopeEnoughRow.holds Try.pinned (OpenSpec.ofChange envelopeEnoughSpec)

/-- ITS FALSE NEIGHBOUR: 'it returns false'. Refute it at one input. -/
def envelopeEnoughWrong : ChangeSpec := { name := "envelopeEnough", fn := fun _ => fun
  | [d1, d2] => { results := [.lit (.bool false)], args := [d1, d2] }
  | _ => none }
def EnvelopeEnoughWrongFalsely : Prop := envelopeEnoughRow.holds Try.pinned (OpenSpec.ofChange envelopeEnoughWrong)

/-- 'landaidlaw33.EnvelopeGrows': WHATEVER THE INPUT: true; the input reads as it did. -/
def envelopeGrowsSpec : ChangeSpec := { name := "envelopeGrows", fn := fun _ => fun
  | [d1, d2, d3, d4] => { results := [.lit (.bool true)], args := [d1, d2, d3, d4] }
  | _ => none }
def envelopeGrowsRow : OpenClaim := { program := "ytlmikbjnibiajaa", sum := "c572a03dcb951aea4733405867984008fc7ab49fc28182f5c508b9d238e10169", func := "landaid/landaidlaw33.EnvelopeGrows", spec := "envelopeGrows", unfollowed := true, recurses := true, named := ["math/bits.divideError", "math/bits.overflowError"], apart := false }
def EnvelopeGrowsSaid : Prop := envelopeGrowsRow.holds Try.pinned (OpenSpec.ofChange envelopeGrowsSpec)

/-- ITS FALSE NEIGHBOUR: 'it returns false'. Refute it at one input. -/
def envelopeGrowsWrong : ChangeSpec := { name := "envelopeGrows", fn := fun _ => fun
  | [d1, d2, d3, d4] => { results := [.lit (.bool false)], args := [d1, d2, d3, d4] }
  | _ => none }
def EnvelopeGrowsWrongFalsely : Prop := envelopeGrowsRow.holds Try.pinned (OpenSpec.ofChange envelopeGrowsWrong)

/-- 'landaidlaw33.EnvelopeFactor': WHATEVER THE INPUT: true; the input reads as it did. -/
def envelopeFactorSpec : ChangeSpec := { name := "envelopeFactor", fn := fun _ => fun
  | [d1, d2] => { results := [.lit (.bool true)], args := [d1, d2] }
  | _ => none }
def envelopeFactorRow : OpenClaim := { program := "ytlmikbjnibiajaa", sum := "c572a03dcb951aea4733405867984008fc7ab49fc28182f5c508b9d238e10169", func := "landaid/landaidlaw33.EnvelopeFactor", spec := "envelopeFactor", unfollowed := true, recurses := true, named := ["math/bits.divideError", "math/bits.overflowError"], apart := false }
def EnvelopeFactorSaid : Prop := envelopeFactorRow.holds Try.pinned (OpenSpec.ofChange envelopeFactorSpec)

/-- ITS FALSE NEIGHBOUR: 'it returns false'. Refute it at one input. -/
def envelopeFactorWrong : ChangeSpec := { name := "envelopeFactor", fn := fun _ => fun
  | [d1, d2] => { results := [.lit (.bool false)], args := [d1, d2] }
  | _ => none }
def EnvelopeFactorWrongFalsely : Prop := envelopeFactorRow.holds Try.pinned (OpenSpec.ofChange envelopeFactorWrong)

/-- 'landaidlaw32.CeilingAnswers': WHATEVER THE INPUT: true; the input reads as it did. -/
def ceilingAnswersSpec : ChangeSpec := { name := "ceilingAnswers", fn := fun _ => fun
  | [d1, d2, d3, d4, d5, d6] => { results := [.lit (.bool true)], args := [d1, d2, d3, d4, d5, d6] }
  | _ => none }
def ceilingAnswersRow : OpenClaim := { program := "ytlmikbjnibiajaa", sum := "c572a03dcb951aea4733405867984008fc7ab49fc28182f5c508b9d238e10169", func := "landaid/landaidlaw32.CeilingAnswers", spec := "ceilingAnswers", unfollowed := true, recurses := true, named := ["math/bits.divideError", "math/bits.overflowError"], apart := false }
def CeilingAnswersSaid : Prop := ceilingAnswersRow.holds Try.pinned (OpenSpec.ofChange ceilingAnswersSpec)

/-- ITS FALSE NEIGHBOUR: 'it returns false'. Refute it at one input. -/
def ceilingAnswersWrong : ChangeSpec := { name := "ceilingAnswers", fn := fun _ => fun
  | [d1, d2, d3, d4, d5, d6] => { results := [.lit (.bool false)], args := [d1, d2, d3, d4, d5, d6] }
  | _ => none }
def CeilingAnswersWrongFalsely : Prop := ceilingAnswersRow.holds Try.pinned (OpenSpec.ofChange ceilingAnswersWrong)

/-- 'landaidlaw32.CeilingRises': WHATEVER THE INPUT: true; the input reads as it did. -/
def ceilingRisesSpec : ChangeSpec := { name := "ceilingRises", fn := fun _ => fun
  | [d] => { results := [.lit (.bool true)], args := [d] }
  | _ => none }
def ceilingRisesRow : OpenClaim := { program := "ytlmikbjnibiajaa", sum := "c572a03dcb951aea4733405867984008fc7ab49fc28182f5c508b9d238e10169", func := "landaid/landaidlaw32.CeilingRises", spec := "ceilingRises", unfollowed := true, recurses := true, named := ["math/bits.divideError", "math/bits.overflowError"], apart := false }
def CeilingRisesSaid : Prop := ceilingRisesRow.holds Try.pinned (OpenSpec.ofChange ceilingRisesSpec)

/-- ITS FALSE NEIGHBOUR: 'it returns false'. Refute it at one input. -/
def ceilingRisesWrong : ChangeSpec := { name := "ceilingRises", fn := fun _ => fun
  | [d] => { results := [.lit (.bool false)], args := [d] }
  | _ => none }
def CeilingRisesWrongFalsely : Prop := ceilingRisesRow.holds Try.pinned (OpenSpec.ofChange ceilingRisesWrong)

/- THE SECOND FORM. 'bulk': how many values and letters a reading holds, each counted each time it is reached (what is shared counts as often as it is met; a slice's spare places count too). A statement '..UptoSaid' is the law's where the arguments, and the package variables that the reading takes, are together of bulk at most 1048576: NARROWER than '..Said'. Prove '..Said' where nothing that the law and all that it calls make is longer than what came in: it says more and counts as full. Else prove '..UptoSaid'. A law counts once. -/
mutual
def uptoBulk {H : Type} : DataW H → Nat
  | .lit (.string bytes) => bytes.length + 1
  | .lit _ => 1
  | .nil => 1
  | .ptr d => uptoBulk d + 1
  | .slice elems spare => uptoBulkAll elems + uptoBulkAll spare + 1
  | .agg parts => uptoBulkAll parts + 1
  | .iface _ d => uptoBulk d + 1
  | .map entries => uptoBulkEntries entries + 1
  | .held _ => 1
def uptoBulkAll {H : Type} : List (DataW H) → Nat
  | [] => 0
  | d :: r => uptoBulk d + uptoBulkAll r
def uptoBulkEntries {H : Type} : List (Lit × DataW H) → Nat
  | [] => 0
  | x :: r => uptoBulkEntry x + uptoBulkEntries r
def uptoBulkEntry {H : Type} : Lit × DataW H → Nat
  | (.string bytes, d) => bytes.length + uptoBulk d + 1
  | (_, d) => uptoBulk d + 1
 end
def uptoSmall : (H : Type) → List (DataW H) → Bool := fun _ ds => decide (uptoBulkAll ds ≤ 1048576)
def OpenSpec.upto (s : _root_.Go.ChangeSpec) : _root_.Go.OpenSpec := { _root_.Go.OpenSpec.ofChange s with cond := some uptoSmall }

/-- 'landaidlaw01.ExactRounds', WHERE WHAT IT READS IS OF BULK AT MOST 1048576: true; the input reads as it did. -/
def exactRoundsUptoRow : OpenClaim := { program := "ytlmikbjnibiajaa", sum := "c572a03dcb951aea4733405867984008fc7ab49fc28182f5c508b9d238e10169", func := "landaid/landaidlaw01.ExactRounds", spec := "exactRounds", unfollowed := true, recurses := true, named := ["math/bits.divideError", "math/bits.overflowError"], apart := false, narrowed := true }
def ExactRoundsUptoSaid : Prop := exactRoundsUptoRow.holds Try.pinned (OpenSpec.upto exactRoundsSpec)

/-- 'landaidlaw01.ExactShares', WHERE WHAT IT READS IS OF BULK AT MOST 1048576: true; the input reads as it did. -/
def exactSharesUptoRow : OpenClaim := { program := "ytlmikbjnibiajaa", sum := "c572a03dcb951aea4733405867984008fc7ab49fc28182f5c508b9d238e10169", func := "landaid/landaidlaw01.ExactShares", spec := "exactShares", unfollowed := true, recurses := true, named := ["math/bits.divideError", "math/bits.overflowError"], apart := false, narrowed := true }
def ExactSharesUptoSaid : Prop := exactSharesUptoRow.holds Try.pinned (OpenSpec.upto exactSharesSpec)

/-- 'landaidlaw01.ExactOrder', WHERE WHAT IT READS IS OF BULK AT MOST 1048576: true; the input reads as it did. -/
def exactOrderUptoRow : OpenClaim := { program := "ytlmikbjnibiajaa", sum := "c572a03dcb951aea4733405867984008fc7ab49fc28182f5c508b9d238e10169", func := "landaid/landaidlaw01.ExactOrder", spec := "exactOrder", unfollowed := true, recurses := true, named := ["math/bits.divideError", "math/bits.overflowError"], apart := false, narrowed := true }
def ExactOrderUptoSaid : Prop := exactOrderUptoRow.holds Try.pinned (OpenSpec.upto exactOrderSpec)

/-- 'landaidlaw01.ExactAnswers', WHERE WHAT IT READS IS OF BULK AT MOST 1048576: true; the input reads as it did. -/
def exactAnswersUptoRow : OpenClaim := { program := "ytlmikbjnibiajaa", sum := "c572a03dcb951aea4733405867984008fc7ab49fc28182f5c508b9d238e10169", func := "landaid/landaidlaw01.ExactAnswers", spec := "exactAnswers", unfollowed := true, recurses := true, named := ["math/bits.divideError", "math/bits.overflowError"], apart := false, narrowed := true }
def ExactAnswersUptoSaid : Prop := exactAnswersUptoRow.holds Try.pinned (OpenSpec.upto exactAnswersSpec)

/-- 'landaidlaw01.ExactParts', WHERE WHAT IT READS IS OF BULK AT MOST 1048576: true; the input reads as it did. -/
def exactPartsUptoRow : OpenClaim := { program := "ytlmikbjnibiajaa", sum := "c572a03dcb951aea4733405867984008fc7ab49fc28182f5c508b9d238e10169", func := "landaid/landaidlaw01.ExactParts", spec := "exactParts", unfollowed := true, recurses := true, named := ["math/bits.divideError", "math/bits.overflowError"], apart := false, narrowed := true }
def ExactPartsUptoSaid : Prop := exactPartsUptoRow.holds Try.pinned (OpenSpec.upto exactPartsSpec)

/-- 'landaidlaw33.EnvelopeAnswers', WHERE WHAT IT READS IS OF BULK AT MOST 1048576: true; the input reads as it did. -/
def envelopeAnswersUptoRow : OpenClaim := { program := "ytlmikbjnibiajaa", sum := "c572a03dcb951aea4733405867984008fc7ab49fc28182f5c508b9d238e10169", func := "landaid/landaidlaw33.EnvelopeAnswers", spec := "envelopeAnswers", unfollowed := true, recurses := true, named := ["math/bits.divideError", "math/bits.overflowError"], apart := false, narrowed := true }
def EnvelopeAnswersUptoSaid : Prop := envelopeAnswersUptoRow.holds Try.pinned (OpenSpec.upto envelopeAnswersSpec)

/-- 'landaidlaw33.EnvelopeKeeps', WHERE WHAT IT READS IS OF BULK AT MOST 1048576: true; the input reads as it did. -/
def envelopeKeepsUptoRow : OpenClaim := { program := "ytlmikbjnibiajaa", sum := "c572a03dcb951aea4733405867984008fc7ab49fc28182f5c508b9d238e10169", func := "landaid/landaidlaw33.EnvelopeKeeps", spec := "envelopeKeeps", unfollowed := true, recurses := true, named := ["math/bits.divideError", "math/bits.overflowError"], apart := false, narrowed := true }
def EnvelopeKeepsUptoSaid : Prop := envelopeKeepsUptoRow.holds Try.pinned (OpenSpec.upto envelopeKeepsSpec)

/-- 'landaidlaw33.EnvelopeEnough', WHERE WHAT IT READS IS OF BULK AT MOST 1048576: true; the input reads as it did. -/
def envelopeEnoughUptoRow : OpenClaim := { program := "ytlmikbjnibiajaa", sum := "c572a03dcb951aea4733405867984008fc7ab49fc28182f5c508b9d238e10169", func := "landaid/landaidlaw33.EnvelopeEnough", spec := "envelopeEnough", unfollowed := true, recurses := true, named := ["math/bits.divideError", "math/bits.overflowError"], apart := false, narrowed := true }
def EnvelopeEnoughUptoSaid : Prop := envelopeEnoughUptoRow.holds Try.pinned (OpenSpec.upto envelopeEnoughSpec)

/-- 'landaidlaw33.EnvelopeGrows', WHERE WHAT IT READS IS OF BULK AT MOST 1048576: true; the input reads as it did. -/
def envelopeGrowsUptoRow : OpenClaim := { program := "ytlmikbjnibiajaa", sum := "c572a03dcb951aea4733405867984008fc7ab49fc28182f5c508b9d238e10169", func := "landaid/landaidlaw33.EnvelopeGrows", spec := "envelopeGrows", unfollowed := true, recurses := true, named := ["math/bits.divideError", "math/bits.overflowError"], apart := false, narrowed := true }
def EnvelopeGrowsUptoSaid : Prop := envelopeGrowsUptoRow.holds Try.pinned (OpenSpec.upto envelopeGrowsSpec)

/-- 'landaidlaw33.EnvelopeFactor', WHERE WHAT IT READS IS OF BULK AT MOST 1048576: true; the input reads as it did. -/
def envelopeFactorUptoRow : OpenClaim := { program := "ytlmikbjnibiajaa", sum := "c572a03dcb951aea4733405867984008fc7ab49fc28182f5c508b9d238e10169", func := "landaid/landaidlaw33.EnvelopeFactor", spec := "envelopeFactor", unfollowed := true, recurses := true, named := ["math/bits.divideError", "math/bits.overflowError"], apart := false, narrowed := true }
def EnvelopeFactorUptoSaid : Prop := envelopeFactorUptoRow.holds Try.pinned (OpenSpec.upto envelopeFactorSpec)

/-- 'landaidlaw32.CeilingAnswers', WHERE WHAT IT READS IS OF BULK AT MOST 1048576: true; the input reads as it did. -/
def ceilingAnswersUptoRow : OpenClaim := { program := "ytlmikbjnibiajaa", sum := "c572a03dcb951aea4733405867984008fc7ab49fc28182f5c508b9d238e10169", func := "landaid/landaidlaw32.CeilingAnswers", spec := "ceilingAnswers", unfollowed := true, recurses := true, named := ["math/bits.divideError", "math/bits.overflowError"], apart := false, narrowed := true }
def CeilingAnswersUptoSaid : Prop := ceilingAnswersUptoRow.holds Try.pinned (OpenSpec.upto ceilingAnswersSpec)

/-- 'landaidlaw32.CeilingRises', WHERE WHAT IT READS IS OF BULK AT MOST 1048576: true; the input reads as it did. -/
def ceilingRisesUptoRow : OpenClaim := { program := "ytlmikbjnibiajaa", sum := "c572a03dcb951aea4733405867984008fc7ab49fc28182f5c508b9d238e10169", func := "landaid/landaidlaw32.CeilingRises", spec := "ceilingRises", unfollowed := true, recurses := true, named := ["math/bits.divideError", "math/bits.overflowError"], apart := false, narrowed := true }
def CeilingRisesUptoSaid : Prop := ceilingRisesUptoRow.holds Try.pinned (OpenSpec.upto ceilingRisesSpec)

end Rows
end Go.Proofs.Ytlmikbjnibiajaa
