/-
  PACKED (pack8.py): what is needed of the texts Fr.
-/
import Derived.Test.YtmlfcpglhipjgaaGreatB18
namespace Go.Proofs.YtmlfcpglhipjgaaGreat
open Go.RowKit Sc As
theorem As.awards64 {Y : YLaw} {F : List FarmF} (hl : Y.sch.length ≤ 3) (hF : F.length ≤ 4) : (allAw Y F).length ≤ 64 := by
 have h1 := allAw_le Y F; have h2 : F.length * Y.sch.length ≤ 4 * 3 := Nat.mul_le_mul hF hl; omega
theorem As.err01 {l : YLaw} {F : List FarmF} (h : FOk l F) (hl : (allAw l F).length ≤ 64) : assErr l F = 0 ∨ assErr l F = 67 := by
 rcases assErr_cases h with ⟨e, _⟩ | ⟨_, g, _⟩ | ⟨_, _, e⟩
 ·exact .inr e
 ·omega
 ·exact .inl e
end Go.Proofs.YtmlfcpglhipjgaaGreat
