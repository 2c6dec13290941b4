/-
  PLAIN: what package exact computes: rounding, comparing of fractions, parts. Whole numbers only; no program in sight.
-/
import Derived.WalkKit
namespace Go.Proofs.Ytdnddikchchdkaa.Ex

def fits (a b : Int) : Bool := decide (-1125899906842624 ≤ a) && decide (a ≤ 1125899906842624) && decide (1 ≤ b) && decide (b ≤ 1099511627776)
theorem fits_iff {a b : Int} : fits a b = true ↔ -1125899906842624 ≤ a ∧ a ≤ 1125899906842624 ∧ 1 ≤ b ∧ b ≤ 1099511627776 := by
  unfold fits; simp [and_assoc]
theorem fits_not {a b : Int} : fits a b = false ↔ ¬ (-1125899906842624 ≤ a ∧ a ≤ 1125899906842624 ∧ 1 ≤ b ∧ b ≤ 1099511627776) := by
  rw [← fits_iff]; simp
theorem fits_of {a b : Int} (h1 : -1125899906842624 ≤ a) (h2 : a ≤ 1125899906842624) (h3 : 1 ≤ b) (h4 : b ≤ 1099511627776) : fits a b = true := fits_iff.2 ⟨h1, h2, h3, h4⟩

def down (a b : Int) : Int := if fits a b = true then a / b else 0
def up (a b : Int) : Int := - down (-a) b
def half (a b : Int) : Int := if fits a b = true then (if b ≤ 2 * (a - a / b * b) then a / b + 1 else a / b) else 0
def less (a b c d : Int) : Bool := fits a b && fits c d && decide (a * d < c * b)

theorem tdiv_floor {a b : Int} (hb : 1 ≤ b) : (if a.tmod b < 0 then a.tdiv b - 1 else a.tdiv b) = a / b := by
  have h := Int.tdiv_eq_ediv (a := a) (b := b)
  have h2 := Int.tmod_eq_emod (a := a) (b := b)
  have e1 := Int.emod_lt_of_pos a (show 0 < b by omega)
  have e2 := Int.emod_nonneg a (show b ≠ 0 by omega)
  have hs : b.sign = 1 := Int.sign_eq_one_of_pos (by omega)
  by_cases hc : 0 ≤ a ∨ b ∣ a
  · rw [if_pos hc] at h h2
    rw [h, h2, if_neg (by omega)]; omega
  · rw [if_neg hc] at h h2
    have : a % b ≠ 0 := fun e => hc (.inr (Int.dvd_of_emod_eq_zero e))
    have hn : ((b.natAbs : Nat) : Int) = b := by omega
    rw [h, h2, if_pos (by omega), hs]; omega

theorem tdiv_bd {a b : Int} (h : fits a b = true) : -1125899906842624 ≤ a.tdiv b ∧ a.tdiv b ≤ 1125899906842624 := by
  obtain ⟨h1, h2, h3, h4⟩ := fits_iff.1 h
  have := Int.natAbs_tdiv_le_natAbs a b
  omega

theorem tdiv_mul {a b : Int} (h : fits a b = true) : -1125899906842624 ≤ a.tdiv b * b ∧ a.tdiv b * b ≤ 1125899906842624 ∧ (if a < a.tdiv b * b then a.tdiv b - 1 else a.tdiv b) = a / b := by
  obtain ⟨h1, h2, h3, h4⟩ := fits_iff.1 h
  have e := Int.tmod_add_tdiv_mul a b
  have f := tdiv_floor (a := a) h3
  refine ⟨?_, ?_, ?_⟩
  · by_cases ha : 0 ≤ a
    · have := Int.mul_nonneg (Int.tdiv_nonneg ha (show 0 ≤ b by omega)) (show 0 ≤ b by omega); omega
    · have := Int.tmod_nonneg (a := -a) b (by omega); rw [Int.neg_tmod] at this; omega
  · by_cases ha : 0 ≤ a
    · have := Int.tmod_nonneg (a := a) b ha; omega
    · have h0 : a.tdiv b ≤ 0 := by have := Int.tdiv_nonneg (show 0 ≤ -a by omega) (show 0 ≤ b by omega); rw [Int.neg_tdiv] at this; omega
      have := Int.mul_le_mul_of_nonneg_right h0 (show 0 ≤ b by omega)
      omega
  · rw [← f]
    by_cases hc : a < a.tdiv b * b
    · rw [if_pos hc, if_pos (by omega)]
    · rw [if_neg hc, if_neg (by omega)]

theorem down_bd (a b : Int) : -1125899906842624 ≤ down a b ∧ down a b ≤ 1125899906842624 := by
  unfold down
  split
  · rename_i h
    obtain ⟨h1, h2, h3, h4⟩ := fits_iff.1 h
    refine ⟨?_, ?_⟩
    · rw [Int.le_ediv_iff_mul_le (by omega)]
      have : -1125899906842624 * b ≤ -1125899906842624 * 1 := Int.mul_le_mul_of_nonpos_left (by omega) h3
      omega
    · by_cases ha : 0 ≤ a
      · have := Int.ediv_le_self b ha; omega
      · have := Int.ediv_neg_of_neg_of_pos (show a < 0 by omega) (show 0 < b by omega); omega
  · omega

theorem rest_bd {a b : Int} (h : fits a b = true) : 0 ≤ a - a / b * b ∧ a - a / b * b < b := by
  obtain ⟨h1, h2, h3, h4⟩ := fits_iff.1 h
  have e := Int.emod_add_ediv_mul a b
  have e1 := Int.emod_lt_of_pos a (show 0 < b by omega)
  have e2 := Int.emod_nonneg a (show b ≠ 0 by omega)
  omega

end Go.Proofs.Ytdnddikchchdkaa.Ex
