/-
  PLAIN: more about shares: how near they are to the exact ones. No program in sight.
-/
import Derived.Test.YtmgdbbmheiligaaHi
namespace Go.Proofs.Ytmgdbbmheiligaa.Sh

variable {t : Int} {ws : List Int}

/-- A share is less than one away from its exact value. -/
theorem Right.share_cut (h : Right t ws) {i : Nat} (hi : i < ws.length) : t * ws.getD i 0 - sum ws < share t ws i * sum ws ∧ share t ws i * sum ws < t * ws.getD i 0 + sum ws := by
  have e1 := Int.emod_add_ediv_mul (t * ws.getD i 0) (sum ws)
  have r0 := h.rest0 i
  have r1 := h.rest1 i
  have hp := h.pos
  unfold share
  have hq : quo t ws i = t * ws.getD i 0 / sum ws := rfl
  have hr : rest t ws i = t * ws.getD i 0 % sum ws := rfl
  rw [← hq, ← hr] at e1
  by_cases hz : rest t ws i = 0
  · rw [top_none (s := sum ws) (Nat.le_of_lt h.left_lt) (fun i _ => h.rest0 i) (fun i _ => h.rest1 i) h.left_eq.2 h.pos hi hz]
    simp only [Bool.false_eq_true, if_false, Int.add_zero]
    omega
  · split
    · rw [Int.add_mul, Int.one_mul]; omega
    · rw [Int.add_zero]; omega

/-- A share of less than all weights together is at most its weight. -/
theorem Right.share_le (h : Right t ws) (hlt : t < sum ws) {i : Nat} (hi : i < ws.length) : share t ws i ≤ ws.getD i 0 := by
  by_cases hz : ws.getD i 0 = 0
  · rw [h.share_zero hi hz, hz]; exact Int.le_refl _
  · have w0 := h.w0 i
    have hq : quo t ws i < ws.getD i 0 := by
      unfold quo
      rw [Int.ediv_lt_iff_lt_mul h.pos, Int.mul_comm]
      exact Int.mul_lt_mul_of_pos_left hlt (by omega)
    unfold share
    split <;> omega

theorem shares_getD (t : Int) (ws : List Int) (i : Nat) (hi : i < ws.length) : (shares t ws).getD i 0 = share t ws i := by
  unfold shares; exact getD_map_range _ _ _ hi

end Go.Proofs.Ytmgdbbmheiligaa.Sh
