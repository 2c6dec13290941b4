/-
  PACKED (pack8.py): what is needed of the texts Fa.
-/
import Derived.Test.YtmlfcpglhipjgaaGreatM4
namespace Go.Proofs.YtmlfcpglhipjgaaGreat
open Go.RowKit Sc As
theorem As.usum_bd {u : Int} (hu : 1 ≤ u) : ∀ {xs : List Int}, (∀ x ∈ xs, 0 ≤ x ∧ x ≤ 68719476736) → 0 ≤ En.usum u xs ∧ En.usum u xs ≤ 68719476736 * xs.length := by
 intro xs h; have h1 : ∀ y ∈ En.units u xs, 0 ≤ y ∧ y ≤ 68719476736 := fun y hy => by
  unfold En.units at hy; obtain ⟨x, hx, rfl⟩ := List.mem_map.1 hy; have := h x hx; exact ⟨Int.ediv_nonneg this.1 (by omega), Int.le_trans (Int.ediv_le_self _ this.1) this.2⟩
 have h2 : Sh.sum (En.units u xs) ≤ 68719476736 * (En.units u xs).length := Sh.sum_le_len fun y hy => (h1 y hy).2
 have h3 : (En.units u xs).length = xs.length := by unfold En.units; simp
 unfold En.usum; rw [h3] at h2; exact ⟨Sh.sum_nonneg fun y hy => (h1 y hy).1, h2⟩
end Go.Proofs.YtmlfcpglhipjgaaGreat
