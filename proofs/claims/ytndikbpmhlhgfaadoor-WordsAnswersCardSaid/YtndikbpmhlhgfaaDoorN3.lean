/-
  PLAIN: the limits of texts and lines.
-/
import Derived.Test.YtndikbpmhlhgfaaDoorN1
namespace Go.Proofs.YtndikbpmhlhgfaaDoor
namespace Wo
open Go.Lib

theorem plain97 : plainB 97 = true := by decide
theorem plain10 : plainB 10 = true := by decide
theorem word97 {k : Nat} (h : 1 ≤ k) : wordB (List.replicate k 97) = true := by
  unfold wordB
  rw [Bool.and_eq_true]
  constructor
  · cases k with
    | zero => omega
    | succ k => rfl
  · rw [List.all_eq_true]
    intro c hc
    obtain rfl := List.eq_of_mem_replicate hc
    decide

theorem lim_split (n : Nat) (h : 1 ≤ n) : sErr (List.replicate (n - 1) 97 ++ [10]) = if 16384 < n then 1 else 0 := by
  unfold sErr
  have hc : (List.replicate (n - 1) (97 : UInt8) ++ [10]).count 10 = 1 := by
    rw [List.count_append, List.count_replicate, if_neg (by decide)]
    decide
  have hl : (List.replicate (n - 1) (97 : UInt8) ++ [10]).length = n := by
    rw [List.length_append, List.length_replicate]; simp; omega
  rw [hc, hl]
  by_cases h1 : 16384 < n
  · rw [if_pos (.inl h1), if_pos h1]
  · rw [if_neg (by omega), if_neg h1, if_neg]
    rintro (⟨-, h2⟩ | h2)
    · exact h2 (by simp)
    · have : (List.replicate (n - 1) (97 : UInt8) ++ [10]).all plainB = true := by
        rw [List.all_append, Bool.and_eq_true]
        refine ⟨?_, by simp [plain10]⟩
        rw [List.all_eq_true]
        intro c hc
        obtain rfl := List.eq_of_mem_replicate hc
        exact plain97
      rw [this] at h2; cases h2

theorem lim_lines (m : Nat) (h : m ≤ 16384) : sErr (List.replicate m 10) = if 400 < m then 1 else 0 := by
  unfold sErr
  rw [List.count_replicate_self, List.length_replicate]
  by_cases h1 : 400 < m
  · rw [if_pos (.inr h1), if_pos h1]
  · rw [if_neg (by omega), if_neg h1, if_neg]
    rintro (⟨h1, h2⟩ | h2)
    · apply h2
      cases m with
      | zero => exact absurd rfl h1
      | succ m => rw [List.replicate_succ', List.getLast?_append]; rfl
    · have : (List.replicate m (10 : UInt8)).all plainB = true := by
        rw [List.all_eq_true]
        intro c hc
        obtain rfl := List.eq_of_mem_replicate hc
        exact plain10
      rw [this] at h2; cases h2

theorem jText_nils : ∀ m : Nat, (jText (List.replicate m [])).length = m
  | 0 => rfl
  | m + 1 => by
    rw [List.replicate_succ]
    unfold jText
    rw [List.flatMap_cons, List.length_append]
    have ih := jText_nils m
    unfold jText at ih
    rw [ih]
    simp [lineT, join_nil]
    omega

theorem lim_join (m : Nat) (h : m ≤ 16384) : jErr (List.replicate m []) = if 400 < m then 1 else 0 := by
  unfold jErr
  rw [List.length_replicate]
  by_cases h1 : 400 < m
  · rw [if_pos h1, if_pos h1]
  · have : ((List.replicate m ([] : List (List UInt8))).all fun ws => ws.all wordB) = true := by
      rw [List.all_eq_true]
      intro c hc
      obtain rfl := List.eq_of_mem_replicate hc
      rfl
    rw [if_neg h1, if_neg h1, if_neg (by rw [this]; simp), if_neg (by rw [jText_nils]; omega)]

theorem lim_word (n : Nat) (h : 2 ≤ n) : jErr [[List.replicate (n - 1) 97]] = if 16384 < n then 1 else 0 := by
  unfold jErr
  have ht : (jText [[List.replicate (n - 1) (97 : UInt8)]]).length = n := by
    simp [jText, lineT, join_one]; omega
  have hw : ([[List.replicate (n - 1) (97 : UInt8)]].all fun ws => ws.all wordB) = true := by
    simp [word97 (show 1 ≤ n - 1 by omega)]
  rw [if_neg (by simp), if_neg (by rw [hw]; simp), ht]

theorem lim_form : sErr [97] = 4 := by decide
end Wo
end Go.Proofs.YtndikbpmhlhgfaaDoor
