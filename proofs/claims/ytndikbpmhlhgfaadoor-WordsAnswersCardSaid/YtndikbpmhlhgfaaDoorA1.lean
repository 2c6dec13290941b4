/-
  The chapter's examples, plain.
-/
import Derived.Test.YtndikbpmhlhgfaaDoorS5
import Derived.Test.YtndikbpmhlhgfaaDoorW11
namespace Go.Proofs.YtndikbpmhlhgfaaDoor
open Go.RowKit

theorem aw_err : Wo.sErr [97, 32, 32, 98, 32, 35, 32, 99, 10, 10] = 0 := by decide
theorem aw_lines : sLines ⟨#[97, 32, 32, 98, 32, 35, 32, 99, 10, 10]⟩ = [[⟨#[97]⟩, ⟨#[98]⟩], []] := by
  unfold sLines
  rw [show Wo.sList ((⟨#[97, 32, 32, 98, 32, 35, 32, 99, 10, 10]⟩ : ByteArray).data.toList) = [[[97], [98]], []] by decide +kernel]
  rfl
theorem aw_num : Wo.numB [48, 48, 55] 0 9 = false := by decide +kernel
theorem aw_name : Wo.nameB [97, 55] = true := by decide +kernel
theorem aw_dec : Lib.itoa (-10) = [45, 49, 48] := by decide +kernel
theorem aw_jerr : Wo.jErr (lb [[⟨#[120]⟩, ⟨#[55]⟩]]) = 0 := by decide +kernel
theorem aw_jout : Wo.jOut (lb [[⟨#[120]⟩, ⟨#[55]⟩]]) = [120, 32, 55, 10] := by decide +kernel
end Go.Proofs.YtndikbpmhlhgfaaDoor
