/-
  No cell of these rows narrows 'for every input' (looked for: loops, veiled, ifaces, maps, wideKeys, modest, calm, conditions, laid).
  DERIVED. THE GIVEN ROWS OF THIS SEAT. 6 by the template 'for every input the law returns true; each argument reads behind the call as it read before'; 0 by the template 'total and deterministic' (their statements: YtdnddikchchdkaaTotals.lean).
  GIVEN WITH THE SEED: the statements are not yours to turn. If you find one false, say at which input.
  Laid BY PROGRAM, IN A SANDBOX (cutbox-rows.mjs): the forced cells as the released guide's own fill.sh prints them over the translation e1cade128aa3ead7… (all of the seat's roots in one cut). By AI agents, Wed Nov 11 2026. No macro, syntax, notation, axiom, sorry.
-/
import Derived.Test.YtdnddikchchdkaaChecked
import GoSem.Claim
import GoSem.ClaimJoined
import GoSem.ClaimMapViews
import Derived.JoinedTies
import Derived.KernelRfl
namespace Go.Proofs.Ytdnddikchchdkaa
/- THE CELL 'sum', in the pinned program and in every row, IS THE sha256 OF THE DUMP (.gsa) THAT YtdnddikchchdkaaProg.lean LOADS. Nothing in Lean hashes anything: it is a label: what it is worth is what the hold of that sum in a sandbox is worth. -/
noncomputable def Try.pinned : Pinned := { name := "ytdnddikchchdkaa", sum := "e1cade128aa3ead79b15f9ea1ddd8d3ec9587d4ecf61228f54c03acfda7eadd6", checked := Try.checked }
namespace Rows
def none {H : Type} : Left H := { results := [], args := [] }

/-- 'landaidlaw01.ExactAnswers': WHATEVER THE INPUT: true; the input reads as it did. -/
def exactAnswersSpec : ChangeSpec := { name := "exactAnswers", fn := fun _ => fun
  | [d1, d2, d3, d4, d5, d6] => { results := [.lit (.bool true)], args := [d1, d2, d3, d4, d5, d6] }
  | _ => none }
def exactAnswersRow : OpenClaim := { program := "ytdnddikchchdkaa", sum := "e1cade128aa3ead79b15f9ea1ddd8d3ec9587d4ecf61228f54c03acfda7eadd6", func := "landaid/landaidlaw01.ExactAnswers", spec := "exactAnswers", unfollowed := true, recurses := true, named := ["math/bits.divideError", "math/bits.overflowError"], apart := false }
def ExactAnswersSaid : Prop := exactAnswersRow.holds Try.pinned (OpenSpec.ofChange exactAnswersSpec)

/-- ITS FALSE NEIGHBOUR: 'it returns false'. Refute it at one input. -/
def exactAnswersWrong : ChangeSpec := { name := "exactAnswers", fn := fun _ => fun
  | [d1, d2, d3, d4, d5, d6] => { results := [.lit (.bool false)], args := [d1, d2, d3, d4, d5, d6] }
  | _ => none }
def ExactAnswersWrongFalsely : Prop := exactAnswersRow.holds Try.pinned (OpenSpec.ofChange exactAnswersWrong)

/-- 'landaidlaw39.DebtKeeps': WHATEVER THE INPUT: true; the input reads as it did. -/
def debtKeepsSpec : ChangeSpec := { name := "debtKeeps", fn := fun _ => fun
  | [d1, d2, d3] => { results := [.lit (.bool true)], args := [d1, d2, d3] }
  | _ => none }
def debtKeepsRow : OpenClaim := { program := "ytdnddikchchdkaa", sum := "e1cade128aa3ead79b15f9ea1ddd8d3ec9587d4ecf61228f54c03acfda7eadd6", func := "landaid/landaidlaw39.DebtKeeps", spec := "debtKeeps", unfollowed := true, recurses := true, named := ["math/bits.divideError", "math/bits.overflowError"], apart := false }
def DebtKeepsSaid : Prop := debtKeepsRow.holds Try.pinned (OpenSpec.ofChange debtKeepsSpec)

/-- ITS FALSE NEIGHBOUR: 'it returns false'. Refute it at one input. -/
def debtKeepsWrong : ChangeSpec := { name := "debtKeeps", fn := fun _ => fun
  | [d1, d2, d3] => { results := [.lit (.bool false)], args := [d1, d2, d3] }
  | _ => none }
def DebtKeepsWrongFalsely : Prop := debtKeepsRow.holds Try.pinned (OpenSpec.ofChange debtKeepsWrong)

/-- 'landaidlaw39.DebtParts': WHATEVER THE INPUT: true; the input reads as it did. -/
def debtPartsSpec : ChangeSpec := { name := "debtParts", fn := fun _ => fun
  | [d1, d2, d3, d4] => { results := [.lit (.bool true)], args := [d1, d2, d3, d4] }
  | _ => none }
def debtPartsRow : OpenClaim := { program := "ytdnddikchchdkaa", sum := "e1cade128aa3ead79b15f9ea1ddd8d3ec9587d4ecf61228f54c03acfda7eadd6", func := "landaid/landaidlaw39.DebtParts", spec := "debtParts", unfollowed := true, recurses := true, named := ["math/bits.divideError", "math/bits.overflowError"], apart := false }
def DebtPartsSaid : Prop := debtPartsRow.holds Try.pinned (OpenSpec.ofChange debtPartsSpec)

/-- ITS FALSE NEIGHBOUR: 'it returns false'. Refute it at one input. -/
def debtPartsWrong : ChangeSpec := { name := "debtParts", fn := fun _ => fun
  | [d1, d2, d3, d4] => { results := [.lit (.bool false)], args := [d1, d2, d3, d4] }
  | _ => none }
def DebtPartsWrongFalsely : Prop := debtPartsRow.holds Try.pinned (OpenSpec.ofChange debtPartsWrong)

/-- 'landaidlaw39.DebtFirst': WHATEVER THE INPUT: true; the input reads as it did. -/
def debtFirstSpec : ChangeSpec := { name := "debtFirst", fn := fun _ => fun
  | [d1, d2, d3] => { results := [.lit (.bool true)], args := [d1, d2, d3] }
  | _ => none }
def debtFirstRow : OpenClaim := { program := "ytdnddikchchdkaa", sum := "e1cade128aa3ead79b15f9ea1ddd8d3ec9587d4ecf61228f54c03acfda7eadd6", func := "landaid/landaidlaw39.DebtFirst", spec := "debtFirst", unfollowed := true, recurses := true, named := ["math/bits.divideError", "math/bits.overflowError"], apart := false }
def DebtFirstSaid : Prop := debtFirstRow.holds Try.pinned (OpenSpec.ofChange debtFirstSpec)

/-- ITS FALSE NEIGHBOUR: 'it returns false'. Refute it at one input. -/
def debtFirstWrong : ChangeSpec := { name := "debtFirst", fn := fun _ => fun
  | [d1, d2, d3] => { results := [.lit (.bool false)], args := [d1, d2, d3] }
  | _ => none }
def DebtFirstWrongFalsely : Prop := debtFirstRow.holds Try.pinned (OpenSpec.ofChange debtFirstWrong)

/-- 'landaidlaw39.DebtAnswers': WHATEVER THE INPUT: true; the input reads as it did. -/
def debtAnswersSpec : ChangeSpec := { name := "debtAnswers", fn := fun _ => fun
  | [d1, d2, d3, d4, d5, d6, d7, d8] => { results := [.lit (.bool true)], args := [d1, d2, d3, d4, d5, d6, d7, d8] }
  | _ => none }
def debtAnswersRow : OpenClaim := { program := "ytdnddikchchdkaa", sum := "e1cade128aa3ead79b15f9ea1ddd8d3ec9587d4ecf61228f54c03acfda7eadd6", func := "landaid/landaidlaw39.DebtAnswers", spec := "debtAnswers", unfollowed := true, recurses := true, named := ["math/bits.divideError", "math/bits.overflowError"], apart := false }
def DebtAnswersSaid : Prop := debtAnswersRow.holds Try.pinned (OpenSpec.ofChange debtAnswersSpec)

/-- ITS FALSE NEIGHBOUR: 'it returns false'. Refute it at one input. -/
def debtAnswersWrong : ChangeSpec := { name := "debtAnswers", fn := fun _ => fun
  | [d1, d2, d3, d4, d5, d6, d7, d8] => { results := [.lit (.bool false)], args := [d1, d2, d3, d4, d5, d6, d7, d8] }
  | _ => none }
def DebtAnswersWrongFalsely : Prop := debtAnswersRow.holds Try.pinned (OpenSpec.ofChange debtAnswersWrong)

/-- 'landaidlaw39.DebtWaives': WHATEVER THE INPUT: true; the input reads as it did. -/
def debtWaivesSpec : ChangeSpec := { name := "debtWaives", fn := fun _ => fun
  | [d1, d2, d3] => { results := [.lit (.bool true)], args := [d1, d2, d3] }
  | _ => none }
def debtWaivesRow : OpenClaim := { program := "ytdnddikchchdkaa", sum := "e1cade128aa3ead79b15f9ea1ddd8d3ec9587d4ecf61228f54c03acfda7eadd6", func := "landaid/landaidlaw39.DebtWaives", spec := "debtWaives", unfollowed := true, recurses := true, named := ["math/bits.divideError", "math/bits.overflowError"], apart := false }
def DebtWaivesSaid : Prop := debtWaivesRow.holds Try.pinned (OpenSpec.ofChange debtWaivesSpec)

/-- ITS FALSE NEIGHBOUR: 'it returns false'. Refute it at one input. -/
def debtWaivesWrong : ChangeSpec := { name := "debtWaives", fn := fun _ => fun
  | [d1, d2, d3] => { results := [.lit (.bool false)], args := [d1, d2, d3] }
  | _ => none }
def DebtWaivesWrongFalsely : Prop := debtWaivesRow.holds Try.pinned (OpenSpec.ofChange debtWaivesWrong)

/- THE SECOND FORM. 'bulk': how many values and letters a reading holds, each counted each time it is reached (what is shared counts as often as it is met; a slice's spare places count too). A statement '..UptoSaid' is the law's where the arguments, and the package variables that the reading takes, are together of bulk at most 1048576: NARROWER than '..Said'. Prove '..Said' where nothing that the law and all that it calls make is longer than what came in: it says more and counts as full. Else prove '..UptoSaid'. A law counts once. -/
mutual
def uptoBulk {H : Type} : DataW H → Nat
  | .lit (.string bytes) => bytes.length + 1
  | .lit _ => 1
  | .nil => 1
  | .ptr d => uptoBulk d + 1
  | .slice elems spare => uptoBulkAll elems + uptoBulkAll spare + 1
  | .agg parts => uptoBulkAll parts + 1
  | .iface _ d => uptoBulk d + 1
  | .map entries => uptoBulkEntries entries + 1
  | .held _ => 1
def uptoBulkAll {H : Type} : List (DataW H) → Nat
  | [] => 0
  | d :: r => uptoBulk d + uptoBulkAll r
def uptoBulkEntries {H : Type} : List (Lit × DataW H) → Nat
  | [] => 0
  | x :: r => uptoBulkEntry x + uptoBulkEntries r
def uptoBulkEntry {H : Type} : Lit × DataW H → Nat
  | (.string bytes, d) => bytes.length + uptoBulk d + 1
  | (_, d) => uptoBulk d + 1
 end
def uptoSmall : (H : Type) → List (DataW H) → Bool := fun _ ds => decide (uptoBulkAll ds ≤ 1048576)
def OpenSpec.upto (s : _root_.Go.ChangeSpec) : _root_.Go.OpenSpec := { _root_.Go.OpenSpec.ofChange s with cond := some uptoSmall }

/-- 'landaidlaw01.ExactAnswers', WHERE WHAT IT READS IS OF BULK AT MOST 1048576: true; the input reads as it did. -/
def exactAnswersUptoRow : OpenClaim := { program := "ytdnddikchchdkaa", sum := "e1cade128aa3ead79b15f9ea1ddd8d3ec9587d4ecf61228f54c03acfda7eadd6", func := "landaid/landaidlaw01.ExactAnswers", spec := "exactAnswers", unfollowed := true, recurses := true, named := ["math/bits.divideError", "math/bits.overflowError"], apart := false, narrowed := true }
def ExactAnswersUptoSaid : Prop := exactAnswersUptoRow.holds Try.pinned (OpenSpec.upto exactAnswersSpec)

/-- 'landaidlaw39.DebtKeeps', WHERE WHAT IT READS IS OF BULK AT MOST 1048576: true; the input reads as it did. -/
def debtKeepsUptoRow : OpenClaim := { program := "ytdnddikchchdkaa", sum := "e1cade128aa3ead79b15f9ea1ddd8d3ec9587d4ecf61228f54c03acfda7eadd6", func := "landaid/landaidlaw39.DebtKeeps", spec := "debtKeeps", unfollowed := true, recurses := true, named := ["math/bits.divideError", "math/bits.overflowError"], apart := false, narrowed := true }
def DebtKeepsUptoSaid : Prop := debtKeepsUptoRow.holds Try.pinned (OpenSpec.upto debtKeepsSpec)

/-- 'landaidlaw39.DebtParts', WHERE WHAT IT READS IS OF BULK AT MOST 1048576: true; the input reads as it did. -/
def debtPartsUptoRow : OpenClaim := { program := "ytdnddikchchdkaa", sum := "e1cade128aa3ead79b15f9ea1ddd8d3ec9587d4ecf61228f54c03acfda7eadd6", func := "landaid/landaidlaw39.DebtParts", spec := "debtParts", unfollowed := true, recurses := true, named := ["math/bits.divideError", "math/bits.overflowError"], apart := false, narrowed := true }
def DebtPartsUptoSaid : Prop := debtPartsUptoRow.holds Try.pinned (OpenSpec.upto debtPartsSpec)

/-- 'landaidlaw39.DebtFirst', WHERE WHAT IT READS IS OF BULK AT MOST 1048576: true; the input reads as it did. -/
def debtFirstUptoRow : OpenClaim := { program := "ytdnddikchchdkaa", sum := "e1cade128aa3ead79b15f9ea1ddd8d3ec9587d4ecf61228f54c03acfda7eadd6", func := "landaid/landaidlaw39.DebtFirst", spec := "debtFirst", unfollowed := true, recurses := true, named := ["math/bits.divideError", "math/bits.overflowError"], apart := false, narrowed := true }
def DebtFirstUptoSaid : Prop := debtFirstUptoRow.holds Try.pinned (OpenSpec.upto debtFirstSpec)

/-- 'landaidlaw39.DebtAnswers', WHERE WHAT IT READS IS OF BULK AT MOST 1048576: true; the input reads as it did. -/
def debtAnswersUptoRow : OpenClaim := { program := "ytdnddikchchdkaa", sum := "e1cade128aa3ead79b15f9ea1ddd8d3ec9587d4ecf61228f54c03acfda7eadd6", func := "landaid/landaidlaw39.DebtAnswers", spec := "debtAnswers", unfollowed := true, recurses := true, named := ["math/bits.divideError", "math/bits.overflowError"], apart := false, narrowed := true }
def DebtAnswersUptoSaid : Prop := debtAnswersUptoRow.holds Try.pinned (OpenSpec.upto debtAnswersSpec)

/-- 'landaidlaw39.DebtWaives', WHERE WHAT IT READS IS OF BULK AT MOST 1048576: true; the input reads as it did. -/
def debtWaivesUptoRow : OpenClaim := { program := "ytdnddikchchdkaa", sum := "e1cade128aa3ead79b15f9ea1ddd8d3ec9587d4ecf61228f54c03acfda7eadd6", func := "landaid/landaidlaw39.DebtWaives", spec := "debtWaives", unfollowed := true, recurses := true, named := ["math/bits.divideError", "math/bits.overflowError"], apart := false, narrowed := true }
def DebtWaivesUptoSaid : Prop := debtWaivesUptoRow.holds Try.pinned (OpenSpec.upto debtWaivesSpec)

end Rows
end Go.Proofs.Ytdnddikchchdkaa
