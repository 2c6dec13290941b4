/-
  THE WALKS over package exact, third part: Less and the reference's Less.
-/
import Derived.Test.YtdnddikchchdkaaEy
namespace Go.Proofs.Ytdnddikchchdkaa
open Go.RowKit

theorem lz_said : LzSaid := fun y w h1 h2 => by
  obtain ⟨s1, s2, s3, s4⟩ := Kn.lz_spec h1 h2
  rw [← s2]
  exact Calls.same (Try.bits_LeadingZeros64 y w (by omega) (by omega))

theorem div_any (hi lo y : Int) (w : World) (h0 : 0 ≤ hi) (h1 : hi < y) (h2 : y < 18446744073709551616) (h3 : 0 ≤ lo) (h4 : lo < 18446744073709551616) :
    Calls Try.prog 77 #[.int .u64 hi, .int .u64 lo, .int .u64 y] w fun e w' => e = .returned (.tuple #[.int .u64 ((hi * 18446744073709551616 + lo) / y), .int .u64 ((hi * 18446744073709551616 + lo) % y)]) ∧ ∃ n, w' = w.drewN n :=
  div64_any lz_said hi lo y w h0 h1 h2 h3 h4

set_option maxHeartbeats 400000 in
theorem size_any (n : Int) (w : World) (h0 : -9223372036854775808 < n) (h1 : n ≤ 9223372036854775807) :
    Calls Try.prog 53 #[.int .i64 n] w fun e w' => e = .returned (.int .i64 (n.natAbs : Int)) ∧ w = w' := by
  go_enter Try.func53, Try.ntmps53
  go_wp2
  all_goals
    go_ret
    exact ⟨ret_int (show max n (-n) = (n.natAbs : Int) by omega), rfl⟩

/-- What the two fractions' products come to, by their signs. -/
theorem less_eq {a b c d : Int} (h1 : Ex.fits a b = true) (h2 : Ex.fits c d = true) : Ex.less a b c d =
    if a < 0 ∧ c < 0 then decide (c.natAbs * b.natAbs < a.natAbs * d.natAbs) else if a < 0 ∨ c < 0 then decide (a < 0) else decide (a.natAbs * d.natAbs < c.natAbs * b.natAbs) := by
  obtain ⟨_, _, hb, _⟩ := Ex.fits_iff.1 h1
  obtain ⟨_, _, hd, _⟩ := Ex.fits_iff.1 h2
  obtain ⟨B, rfl⟩ := Int.eq_ofNat_of_zero_le (show 0 ≤ b by omega)
  obtain ⟨D, rfl⟩ := Int.eq_ofNat_of_zero_le (show 0 ≤ d by omega)
  unfold Ex.less
  rw [h1, h2, Bool.and_self, Bool.true_and, Int.natAbs_natCast, Int.natAbs_natCast]
  rcases Int.lt_or_le a 0 with ha | ha <;> rcases Int.lt_or_le c 0 with hc | hc
  · obtain ⟨A, rfl⟩ : ∃ A : Nat, a = -(A : Int) := ⟨a.natAbs, by omega⟩
    obtain ⟨C, rfl⟩ : ∃ C : Nat, c = -(C : Int) := ⟨c.natAbs, by omega⟩
    rw [if_pos ⟨ha, hc⟩, Bool.eq_iff_iff, decide_eq_true_eq, decide_eq_true_eq, Int.neg_mul, Int.neg_mul, Int.natAbs_neg, Int.natAbs_neg, Int.natAbs_natCast, Int.natAbs_natCast, ← Int.natCast_mul, ← Int.natCast_mul]
    omega
  · rw [if_neg (by omega), if_pos (.inl ha), Bool.eq_iff_iff, decide_eq_true_eq, decide_eq_true_eq]
    have e1 : a * (D : Int) < 0 := Int.mul_neg_of_neg_of_pos ha (by omega)
    have e2 : 0 ≤ c * (B : Int) := Int.mul_nonneg hc (by omega)
    omega
  · rw [if_neg (by omega), if_pos (.inr hc), Bool.eq_iff_iff, decide_eq_true_eq, decide_eq_true_eq]
    have e1 : c * (B : Int) < 0 := Int.mul_neg_of_neg_of_pos hc (by omega)
    have e2 : 0 ≤ a * (D : Int) := Int.mul_nonneg ha (by omega)
    omega
  · obtain ⟨A, rfl⟩ := Int.eq_ofNat_of_zero_le ha
    obtain ⟨C, rfl⟩ := Int.eq_ofNat_of_zero_le hc
    rw [if_neg (by omega), if_neg (by omega), Bool.eq_iff_iff, decide_eq_true_eq, decide_eq_true_eq, Int.natAbs_natCast, Int.natAbs_natCast, ← Int.natCast_mul, ← Int.natCast_mul]
    omega

set_option maxHeartbeats 1000000 in
theorem less_any (a b c d : Int) (w : World) :
    Calls Try.prog 22 #[.int .i64 a, .int .i64 b, .int .i64 c, .int .i64 d] w fun e w' => e = .returned (.bool (Ex.less a b c d)) ∧ Below w.heap.size w w' := by
  by_cases h1 : Ex.fits a b = true
  · by_cases h2 : Ex.fits c d = true
    · obtain ⟨a1, a2, hb, b2⟩ := Ex.fits_iff.1 h1
      obtain ⟨c1, c2, hd, d2⟩ := Ex.fits_iff.1 h2
      rw [less_eq h1 h2]
      have P1 := product_any c.natAbs b.natAbs (by omega) (by omega)
      have P2 := product_any a.natAbs d.natAbs (by omega) (by omega)
      rw [show (b.natAbs : Int) = b by omega] at P1
      rw [show (d.natAbs : Int) = d by omega] at P2
      by_cases ha : a < 0
      · by_cases hc : c < 0
        · rw [if_pos ⟨ha, hc⟩, ← cmp_words]
          have H1 := Lib.hid P1
          have H2 := Lib.hid P2
          clear P1 P2
          generalize c.natAbs * b.natAbs = X at *
          generalize a.natAbs * d.natAbs = Y at *
          generalize X / 18446744073709551616 = x1 at *
          generalize X % 18446744073709551616 = x0 at *
          generalize Y / 18446744073709551616 = y1 at *
          generalize Y % 18446744073709551616 = y0 at *
          go_enter Try.func22, Try.ntmps22
          go_wp2_with (first | (go_at_call 49; refine (fits_any _ _ _).mono ?_; rintro e w' ⟨rfl, rfl⟩) | (go_at_call 53; refine (size_any _ _ (by omega) (by omega)).mono ?_; rintro e w' ⟨rfl, rfl⟩) | (go_at_call_of 52 b; refine (H1.out _).mono ?_; rintro e w1 ⟨rfl, hb1⟩) | (go_at_call_of 52 d; refine (H2.out _).mono ?_; rintro e w2 ⟨rfl, hb2⟩) | (go_at_call 51; refine (compare_any _ _ _ _ _).mono ?_; rintro e w3 ⟨rfl, hb3⟩))
          go_ret
          exact ⟨rfl, (hb1.trans (hb2.mono hb1.size)).trans (hb3.mono (Nat.le_trans hb1.size hb2.size))⟩
        · rw [if_neg (by omega), if_pos (.inl ha)]
          clear P1 P2
          go_enter Try.func22, Try.ntmps22
          go_wp2_with ((go_at_call 49; refine (fits_any _ _ _).mono ?_; rintro e w' ⟨rfl, rfl⟩))
          go_ret
          exact ⟨ret_bool (by simp [ha]), Below.refl _ _⟩
      · by_cases hc : c < 0
        · rw [if_neg (by omega), if_pos (.inr hc)]
          clear P1 P2
          go_enter Try.func22, Try.ntmps22
          go_wp2_with ((go_at_call 49; refine (fits_any _ _ _).mono ?_; rintro e w' ⟨rfl, rfl⟩))
          go_ret
          exact ⟨ret_bool (by simp [ha]), Below.refl _ _⟩
        · rw [if_neg (by omega), if_neg (by omega), ← cmp_words]
          rw [show (a.natAbs : Int) = a by omega] at P2
          rw [show (c.natAbs : Int) = c by omega] at P1
          have H1 := Lib.hid P1
          have H2 := Lib.hid P2
          clear P1 P2
          generalize c.natAbs * b.natAbs = X at *
          generalize a.natAbs * d.natAbs = Y at *
          generalize X / 18446744073709551616 = x1 at *
          generalize X % 18446744073709551616 = x0 at *
          generalize Y / 18446744073709551616 = y1 at *
          generalize Y % 18446744073709551616 = y0 at *
          go_enter Try.func22, Try.ntmps22
          go_wp2_with (first | (go_at_call 49; refine (fits_any _ _ _).mono ?_; rintro e w' ⟨rfl, rfl⟩) | (go_at_call_of 52 b; refine (H1.out _).mono ?_; rintro e w1 ⟨rfl, hb1⟩) | (go_at_call_of 52 d; refine (H2.out _).mono ?_; rintro e w2 ⟨rfl, hb2⟩) | (go_at_call 51; refine (compare_any _ _ _ _ _).mono ?_; rintro e w3 ⟨rfl, hb3⟩))
          go_ret
          exact ⟨rfl, (hb2.trans (hb1.mono hb2.size)).trans (hb3.mono (Nat.le_trans hb2.size hb1.size))⟩
    · replace h2 : Ex.fits c d = false := by simpa using h2
      have hl : Ex.less a b c d = false := by unfold Ex.less; rw [h2]; simp
      rw [hl]
      go_enter Try.func22, Try.ntmps22
      go_wp2_with ((go_at_call 49; refine (fits_any _ _ _).mono ?_; rintro e w' ⟨rfl, rfl⟩))
      go_ret
      exact ⟨rfl, Below.refl _ _⟩
  · replace h1 : Ex.fits a b = false := by simpa using h1
    have hl : Ex.less a b c d = false := by unfold Ex.less; rw [h1]; simp
    rw [hl]
    go_enter Try.func22, Try.ntmps22
    go_wp2_with ((go_at_call 49; refine (fits_any _ _ _).mono ?_; rintro e w' ⟨rfl, rfl⟩))
    go_ret
    exact ⟨rfl, Below.refl _ _⟩

theorem words_less (X Y : Nat) : decide (X < Y) = (decide (X / 18446744073709551616 < Y / 18446744073709551616) || (decide (X / 18446744073709551616 = Y / 18446744073709551616) && decide (X % 18446744073709551616 < Y % 18446744073709551616))) := by
  rw [Bool.eq_iff_iff]; simp; omega

end Go.Proofs.Ytdnddikchchdkaa
