/-
  PLAIN: a number's text behind a nought is no number.
-/
import Derived.Test.YtndikbpmhlhgfaaDoorA2
namespace Go.Proofs.YtndikbpmhlhgfaaDoor
namespace Wo
open Go.Lib

theorem numO_zero (n : Int) (h0 : -9223372036854775808 ≤ n) (h1 : n ≤ 9223372036854775807) : numO (48 :: itoa n) = none := by
  by_cases hn : n < 0
  · refine numO_bad ?_
    unfold itoa
    rw [if_pos hn]
    rfl
  · obtain ⟨-, hf⟩ := itoa_tail n h0 h1
    have e : negN (itoa n) = false ∧ tailN (itoa n) = itoa n := by
      unfold itoa
      rw [if_neg hn]
      obtain ⟨c, r, e, h2, h3⟩ := decDigits_first n.toNat
      rw [e]
      have hc : ¬ c.toNat = 45 := by omega
      exact ⟨by simp [negN, hc], by simp [tailN, hc]⟩
    rw [e.1, e.2] at hf
    have e2 : foldN (negN (48 :: itoa n)) (tailN (48 :: itoa n)) = n := by
      have a1 : negN (48 :: itoa n) = false := by simp only [negN]; decide
      have a2 : tailN (48 :: itoa n) = 48 :: itoa n := by simp only [tailN]; exact if_neg (by decide)
      have a3 : stepN false 0 48 = 0 := by decide
      rw [a1, a2]
      refine Eq.trans ?_ hf
      unfold foldN
      rw [List.foldl_cons, a3]
    rw [numO_fold, e2, if_neg]
    intro h
    have := congrArg List.length h
    simp at this
end Wo
end Go.Proofs.YtndikbpmhlhgfaaDoor
