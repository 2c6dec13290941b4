/-
  THE WALKS over package exact (rounding): each function returns what the plain function of Pe computes, for any numbers that are ints; the world is as it was.
-/
import Derived.Test.YtdnddikchchdkaaPe
import Derived.Test.YtdnddikchchdkaaHp
import Derived.Test.YtdnddikchchdkaaDv
import Derived.Test.YtdnddikchchdkaaShelf
namespace Go.Proofs.Ytdnddikchchdkaa
open Go.RowKit

set_option maxHeartbeats 400000 in
theorem fits_any (a b : Int) (w : World) :
    Calls Try.prog 49 #[.int .i64 a, .int .i64 b] w fun e w' => e = .returned (.bool (Ex.fits a b)) ∧ w = w' := by
  go_enter Try.func49, Try.ntmps49
  go_wp2
  all_goals
    go_ret
    refine ⟨ret_bool ?_, rfl⟩
    unfold Ex.fits
    simp
    try omega

set_option maxHeartbeats 400000 in
theorem proper_any (a b : Int) (w : World) :
    Calls Try.prog 50 #[.int .i64 a, .int .i64 b] w fun e w' => e = .returned (.bool (Ex.fits a b)) ∧ w = w' := by
  go_enter Try.func50, Try.ntmps50
  go_wp2
  all_goals
    go_ret
    refine ⟨ret_bool ?_, rfl⟩
    unfold Ex.fits
    simp
    try omega

set_option maxHeartbeats 400000 in
theorem down_any (a b : Int) (w : World) :
    Calls Try.prog 16 #[.int .i64 a, .int .i64 b] w fun e w' => e = .returned (.int .i64 (Ex.down a b)) ∧ w = w' := by
  by_cases hf : Ex.fits a b = true
  · obtain ⟨h1, h2, h3, h4⟩ := Ex.fits_iff.1 hf
    have e := Ex.tdiv_floor (a := a) h3
    obtain ⟨b1, b2⟩ := Ex.tdiv_bd hf
    have hd : Ex.down a b = a / b := by unfold Ex.down; rw [if_pos hf]
    rw [hd, ← e]
    clear e hd
    have hb : ¬ b = 0 := by omega
    go_enter Try.func16, Try.ntmps16
    go_wp2_with (go_at_call 49; refine (fits_any _ _ _).mono ?_; rintro e w' ⟨rfl, rfl⟩)
    all_goals
      go_ret
      refine ⟨ret_int ?_, rfl⟩
      simp [*]
      try omega
  · replace hf : Ex.fits a b = false := by simpa using hf
    have hd : Ex.down a b = 0 := by unfold Ex.down; rw [hf]; rfl
    rw [hd]
    go_enter Try.func16, Try.ntmps16
    go_wp2_with (go_at_call 49; refine (fits_any _ _ _).mono ?_; rintro e w' ⟨rfl, rfl⟩)
    go_ret
    exact ⟨rfl, rfl⟩


set_option maxHeartbeats 400000 in
theorem refdown_any (a b : Int) (w : World) :
    Calls Try.prog 17 #[.int .i64 a, .int .i64 b] w fun e w' => e = .returned (.int .i64 (Ex.down a b)) ∧ w = w' := by
  by_cases hf : Ex.fits a b = true
  · obtain ⟨h1, h2, h3, h4⟩ := Ex.fits_iff.1 hf
    obtain ⟨e1, e2, e3⟩ := Ex.tdiv_mul hf
    obtain ⟨b1, b2⟩ := Ex.tdiv_bd hf
    have hd : Ex.down a b = a / b := by unfold Ex.down; rw [if_pos hf]
    rw [hd, ← e3]
    have em : IntKind.i64.wrap (a.tdiv b * b) = a.tdiv b * b := IntWalk.i64_in _ ⟨by omega, by omega⟩
    clear hd e3
    have hb : ¬ b = 0 := by omega
    by_cases hlt : a < a.tdiv b * b
    · rw [if_pos hlt]
      go_enter Try.func17, Try.ntmps17
      go_wp2_with (go_at_call 50; refine (proper_any _ _ _).mono ?_; rintro e w' ⟨rfl, rfl⟩)
      go_ret
      exact ⟨rfl, rfl⟩
    · rw [if_neg hlt]
      go_enter Try.func17, Try.ntmps17
      go_wp2_with (go_at_call 50; refine (proper_any _ _ _).mono ?_; rintro e w' ⟨rfl, rfl⟩)
      go_ret
      exact ⟨rfl, rfl⟩
  · replace hf : Ex.fits a b = false := by simpa using hf
    have hd : Ex.down a b = 0 := by unfold Ex.down; rw [hf]; rfl
    rw [hd]
    go_enter Try.func17, Try.ntmps17
    go_wp2_with (go_at_call 50; refine (proper_any _ _ _).mono ?_; rintro e w' ⟨rfl, rfl⟩)
    go_ret
    exact ⟨rfl, rfl⟩

set_option maxHeartbeats 400000 in
/-- 'ha': the number's opposite is an int too. -/
theorem up_any (a b : Int) (w : World) (ha : -9223372036854775808 < a) (ha' : a ≤ 9223372036854775807) :
    Calls Try.prog 18 #[.int .i64 a, .int .i64 b] w fun e w' => e = .returned (.int .i64 (Ex.up a b)) ∧ w = w' := by
  unfold Ex.up
  have h := Ex.down_bd (-a) b
  go_enter Try.func18, Try.ntmps18
  go_wp2_with (go_at_call 16; refine (down_any _ _ _).mono ?_; rintro e w' ⟨rfl, rfl⟩)
  go_ret
  exact ⟨rfl, rfl⟩

set_option maxHeartbeats 400000 in
theorem half_any (a b : Int) (w : World) :
    Calls Try.prog 20 #[.int .i64 a, .int .i64 b] w fun e w' => e = .returned (.int .i64 (Ex.half a b)) ∧ w = w' := by
  by_cases hf : Ex.fits a b = true
  · obtain ⟨h1, h2, h3, h4⟩ := Ex.fits_iff.1 hf
    obtain ⟨r1, r2⟩ := Ex.rest_bd hf
    have hd : Ex.down a b = a / b := by unfold Ex.down; rw [if_pos hf]
    have hh : Ex.half a b = if b ≤ 2 * (a - Ex.down a b * b) then Ex.down a b + 1 else Ex.down a b := by unfold Ex.half; rw [if_pos hf, hd]
    rw [← hd] at r1 r2
    have bd := Ex.down_bd a b
    have em : IntKind.i64.wrap (Ex.down a b * b) = Ex.down a b * b := IntWalk.i64_in _ ⟨by omega, by omega⟩
    rw [hh]
    clear hd hh
    by_cases hlt : b ≤ 2 * (a - Ex.down a b * b)
    · rw [if_pos hlt]
      go_enter Try.func20, Try.ntmps20
      go_wp2_with (first | (go_at_call 49; refine (fits_any _ _ _).mono ?_; rintro e w' ⟨rfl, rfl⟩) | (go_at_call 16; refine (down_any _ _ _).mono ?_; rintro e w' ⟨rfl, rfl⟩))
      go_ret
      exact ⟨rfl, rfl⟩
    · rw [if_neg hlt]
      go_enter Try.func20, Try.ntmps20
      go_wp2_with (first | (go_at_call 49; refine (fits_any _ _ _).mono ?_; rintro e w' ⟨rfl, rfl⟩) | (go_at_call 16; refine (down_any _ _ _).mono ?_; rintro e w' ⟨rfl, rfl⟩))
      go_ret
      exact ⟨rfl, rfl⟩
  · replace hf : Ex.fits a b = false := by simpa using hf
    have hd : Ex.half a b = 0 := by unfold Ex.half; rw [hf]; rfl
    rw [hd]
    go_enter Try.func20, Try.ntmps20
    go_wp2_with (first | (go_at_call 49; refine (fits_any _ _ _).mono ?_; rintro e w' ⟨rfl, rfl⟩) | (go_at_call 16; refine (down_any _ _ _).mono ?_; rintro e w' ⟨rfl, rfl⟩))
    go_ret
    exact ⟨rfl, rfl⟩

end Go.Proofs.Ytdnddikchchdkaa
