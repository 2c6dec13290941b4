/-
  THE WALKS over the reference of layer 1: Up, Half, Less, Part return what the program's functions return.
-/
import Derived.Test.YtdnddikchchdkaaEi
namespace Go.Proofs.Ytdnddikchchdkaa
open Go.RowKit

set_option maxRecDepth 100000 in
set_option maxHeartbeats 400000 in
/-- The program's Up, for any int. -/
theorem up_all (a b : Int) (w : World) (ha : -9223372036854775808 ≤ a) (ha' : a ≤ 9223372036854775807) :
    Calls Try.prog 18 #[.int .i64 a, .int .i64 b] w fun e w' => e = .returned (.int .i64 (Ex.up a b)) ∧ w = w' := by
  by_cases h : a = -9223372036854775808
  · have e : Ex.up a b = 0 := by
      unfold Ex.up Ex.down
      rw [if_neg (by rw [Ex.fits_iff]; omega)]
      rfl
    have e2 : Ex.down a b = 0 := by
      unfold Ex.down
      rw [if_neg (by rw [Ex.fits_iff]; omega)]
    have mm : IntKind.i64.wrap (-a) = a := by rw [IntKind.wrap_i64]; omega
    have hd := fun w => down_any a b w
    rw [e2] at hd
    rw [e]
    have HD := Lib.hid hd
    clear hd e e2 h ha ha'
    go_enter Try.func18, Try.ntmps18
    go_wp2_with ((go_at_call 16; refine (HD.out _).mono ?_; rintro e w' ⟨rfl, rfl⟩))
    go_ret
    exact ⟨rfl, rfl⟩
  · exact up_any a b w (by omega) ha'

set_option maxHeartbeats 400000 in
theorem refup_any (a b : Int) (w : World) :
    Calls Try.prog 19 #[.int .i64 a, .int .i64 b] w fun e w' => e = .returned (.int .i64 (Ex.up a b)) ∧ w = w' := by
  by_cases hf : Ex.fits a b = true
  · obtain ⟨h1, h2, h3, h4⟩ := Ex.fits_iff.1 hf
    have h := Ex.down_bd (-a) b
    unfold Ex.up
    go_enter Try.func19, Try.ntmps19
    go_wp2_with (first | (go_at_call 17; refine (refdown_any _ _ _).mono ?_; rintro e w' ⟨rfl, rfl⟩) | (go_at_call 50; refine (proper_any _ _ _).mono ?_; rintro e w' ⟨rfl, rfl⟩))
    go_ret
    exact ⟨rfl, rfl⟩
  · have e : Ex.up a b = 0 := by
      unfold Ex.up Ex.down
      rw [if_neg]
      · rfl
      · rw [Ex.fits_iff]
        rw [Ex.fits_iff] at hf
        omega
    replace hf : Ex.fits a b = false := by simpa using hf
    rw [e]
    go_enter Try.func19, Try.ntmps19
    go_wp2_with (first | (go_at_call 50; refine (proper_any _ _ _).mono ?_; rintro e w' ⟨rfl, rfl⟩))
    go_ret
    exact ⟨rfl, rfl⟩

set_option maxHeartbeats 400000 in
theorem refhalf_any (a b : Int) (w : World) :
    Calls Try.prog 21 #[.int .i64 a, .int .i64 b] w fun e w' => e = .returned (.int .i64 (Ex.half a b)) ∧ w = w' := by
  by_cases hf : Ex.fits a b = true
  · obtain ⟨h1, h2, h3, h4⟩ := Ex.fits_iff.1 hf
    obtain ⟨r1, r2⟩ := Ex.rest_bd hf
    have hd : Ex.down a b = a / b := by unfold Ex.down; rw [if_pos hf]
    have hh : Ex.half a b = if b ≤ 2 * (a - Ex.down a b * b) then Ex.down a b + 1 else Ex.down a b := by unfold Ex.half; rw [if_pos hf, hd]
    rw [← hd] at r1 r2
    have bd := Ex.down_bd a b
    have em : IntKind.i64.wrap (Ex.down a b * b) = Ex.down a b * b := IntWalk.i64_in _ ⟨by omega, by omega⟩
    rw [hh]
    clear hd hh
    by_cases hlt : b ≤ 2 * (a - Ex.down a b * b)
    · rw [if_pos hlt]
      go_enter Try.func21, Try.ntmps21
      go_wp2_with (first | (go_at_call 17; refine (refdown_any _ _ _).mono ?_; rintro e w' ⟨rfl, rfl⟩) | (go_at_call 50; refine (proper_any _ _ _).mono ?_; rintro e w' ⟨rfl, rfl⟩))
      go_ret
      exact ⟨rfl, rfl⟩
    · rw [if_neg hlt]
      go_enter Try.func21, Try.ntmps21
      go_wp2_with (first | (go_at_call 17; refine (refdown_any _ _ _).mono ?_; rintro e w' ⟨rfl, rfl⟩) | (go_at_call 50; refine (proper_any _ _ _).mono ?_; rintro e w' ⟨rfl, rfl⟩))
      go_ret
      exact ⟨rfl, rfl⟩
  · replace hf : Ex.fits a b = false := by simpa using hf
    have hd : Ex.half a b = 0 := by unfold Ex.half; rw [hf]; rfl
    rw [hd]
    go_enter Try.func21, Try.ntmps21
    go_wp2_with (first | (go_at_call 50; refine (proper_any _ _ _).mono ?_; rintro e w' ⟨rfl, rfl⟩))
    go_ret
    exact ⟨rfl, rfl⟩

set_option maxHeartbeats 1000000 in
theorem refpart_any (t p s : Int) (w : World) :
    Calls Try.prog 15 #[.int .i64 t, .int .i64 p, .int .i64 s] w fun e w' => e = .returned (.tuple #[.int .i64 (part t p s).1, .int .i64 (part t p s).2]) ∧ ∃ n, w' = w.drewN n := by
  by_cases hin : 0 ≤ t ∧ t ≤ 1099511627776 ∧ 0 ≤ p ∧ p ≤ 1099511627776 ∧ 1 ≤ s ∧ s ≤ 1099511627776
  · have hp : part t p s = if 1125899906842624 < t * p / s then (0, 2) else (t * p / s, 0) := by unfold part; rw [if_pos hin]
    obtain ⟨t0, t1, p0, p1, s0, s1⟩ := hin
    have h : Div t p s := ⟨t0, t1, p0, p1, s0, by omega⟩
    obtain ⟨g1, g2⟩ := rq_gt h
    have hd := refdivide_any h
    rw [hp]
    clear hp h
    have HD := Lib.hid hd
    clear hd
    generalize rq t p s = q at *
    generalize rk t p s = k at *
    generalize t * p / s = x at *
    by_cases hgt : 1125899906842624 < x
    · rw [if_pos hgt]
      have hq := g1.2 hgt
      clear g1 g2
      rcases hq with hq | hq
      · subst hq
        go_enter Try.func15, Try.ntmps15
        go_wp2_with (first | (go_at_call 48; refine (HD.out _).mono ?_; rintro e w1 ⟨rfl, n, rfl⟩))
        go_ret2
        exact ⟨rfl, n, rfl⟩
      · cases k
        all_goals
          go_enter Try.func15, Try.ntmps15
          go_wp2_with (first | (go_at_call 48; refine (HD.out _).mono ?_; rintro e w1 ⟨rfl, n, rfl⟩))
          go_ret2
          exact ⟨rfl, n, rfl⟩
    · rw [if_neg hgt]
      obtain ⟨rfl, rfl⟩ := g2 hgt
      clear g1 g2
      go_enter Try.func15, Try.ntmps15
      go_wp2_with (first | (go_at_call 48; refine (HD.out _).mono ?_; rintro e w1 ⟨rfl, n, rfl⟩))
      go_ret2
      exact ⟨rfl, n, rfl⟩
  · have hp : part t p s = (0, 2) := by unfold part; rw [if_neg hin]
    rw [hp]
    by_cases c1 : t < 0
    · go_enter Try.func15, Try.ntmps15
      go_wp2
      go_ret2
      exact ⟨rfl, 0, rfl⟩
    by_cases c2 : 1099511627776 < t
    · go_enter Try.func15, Try.ntmps15
      go_wp2
      go_ret2
      exact ⟨rfl, 0, rfl⟩
    by_cases c3 : p < 0
    · go_enter Try.func15, Try.ntmps15
      go_wp2
      go_ret2
      exact ⟨rfl, 0, rfl⟩
    by_cases c4 : 1099511627776 < p
    · go_enter Try.func15, Try.ntmps15
      go_wp2
      go_ret2
      exact ⟨rfl, 0, rfl⟩
    by_cases c5 : s < 1
    · go_enter Try.func15, Try.ntmps15
      go_wp2
      go_ret2
      exact ⟨rfl, 0, rfl⟩
    have c6 : 1099511627776 < s := by omega
    go_enter Try.func15, Try.ntmps15
    go_wp2
    go_ret2
    exact ⟨rfl, 0, rfl⟩

theorem two_words (X : Nat) (hX : X < 340282366920938463463374607431768211456) : X / 18446744073709551616 < 18446744073709551616 := by omega

set_option maxHeartbeats 1000000 in
theorem refless_any (a b c d : Int) (w : World) :
    Calls Try.prog 23 #[.int .i64 a, .int .i64 b, .int .i64 c, .int .i64 d] w fun e w' => e = .returned (.bool (Ex.less a b c d)) ∧ w = w' := by
  by_cases h1 : Ex.fits a b = true
  · by_cases h2 : Ex.fits c d = true
    · obtain ⟨a1, a2, hb, b2⟩ := Ex.fits_iff.1 h1
      obtain ⟨c1, c2, hd, d2⟩ := Ex.fits_iff.1 h2
      rw [less_eq h1 h2]
      have M1 := fun w => Calls.same (Try.bits_Mul64 c.natAbs b.natAbs (by omega) (by omega) w)
      have M2 := fun w => Calls.same (Try.bits_Mul64 a.natAbs d.natAbs (by omega) (by omega) w)
      rw [show (b.natAbs : Int) = b by omega] at M1
      rw [show (d.natAbs : Int) = d by omega] at M2
      by_cases ha : a < 0
      · by_cases hc : c < 0
        · rw [if_pos ⟨ha, hc⟩, words_less]
          rw [show (c.natAbs : Int) = -c by omega] at M1
          rw [show (a.natAbs : Int) = -a by omega] at M2
          have H1 := Lib.hid M1
          have H2 := Lib.hid M2
          clear M1 M2
          generalize c.natAbs * b.natAbs = X at *
          generalize a.natAbs * d.natAbs = Y at *
          generalize X / 18446744073709551616 = x1 at *
          generalize X % 18446744073709551616 = x0 at *
          generalize Y / 18446744073709551616 = y1 at *
          generalize Y % 18446744073709551616 = y0 at *
          rcases Nat.lt_trichotomy x1 y1 with k1 | k1 | k1
          · have k2 : ¬ y1 < x1 := by omega
            rw [decide_eq_true k1, Bool.true_or]
            go_enter Try.func23, Try.ntmps23
            go_wp2_with (first | (go_at_call 50; refine (proper_any _ _ _).mono ?_; rintro e w' ⟨rfl, rfl⟩) | (go_at_call_of 54 b; refine (H1.out _).mono ?_; rintro e w' ⟨rfl, rfl⟩) | (go_at_call_of 54 d; refine (H2.out _).mono ?_; rintro e w' ⟨rfl, rfl⟩))
            go_ret
            exact ⟨rfl, rfl⟩
          · subst k1
            rw [decide_eq_false (Nat.lt_irrefl _), decide_eq_true rfl, Bool.false_or, Bool.true_and]
            by_cases k3 : x0 < y0
            · rw [decide_eq_true k3]
              go_enter Try.func23, Try.ntmps23
              go_wp2_with (first | (go_at_call 50; refine (proper_any _ _ _).mono ?_; rintro e w' ⟨rfl, rfl⟩) | (go_at_call_of 54 b; refine (H1.out _).mono ?_; rintro e w' ⟨rfl, rfl⟩) | (go_at_call_of 54 d; refine (H2.out _).mono ?_; rintro e w' ⟨rfl, rfl⟩))
              go_ret
              exact ⟨rfl, rfl⟩
            · rw [decide_eq_false k3]
              go_enter Try.func23, Try.ntmps23
              go_wp2_with (first | (go_at_call 50; refine (proper_any _ _ _).mono ?_; rintro e w' ⟨rfl, rfl⟩) | (go_at_call_of 54 b; refine (H1.out _).mono ?_; rintro e w' ⟨rfl, rfl⟩) | (go_at_call_of 54 d; refine (H2.out _).mono ?_; rintro e w' ⟨rfl, rfl⟩))
              go_ret
              exact ⟨rfl, rfl⟩
          · rw [decide_eq_false (by omega), decide_eq_false (by omega), Bool.false_and, Bool.false_or]
            go_enter Try.func23, Try.ntmps23
            go_wp2_with (first | (go_at_call 50; refine (proper_any _ _ _).mono ?_; rintro e w' ⟨rfl, rfl⟩) | (go_at_call_of 54 b; refine (H1.out _).mono ?_; rintro e w' ⟨rfl, rfl⟩) | (go_at_call_of 54 d; refine (H2.out _).mono ?_; rintro e w' ⟨rfl, rfl⟩))
            go_ret
            exact ⟨ret_bool (show decide (x1 < y1) = false from decide_eq_false (by omega)), rfl⟩
        · rw [if_neg (by omega), if_pos (.inl ha)]
          clear M1 M2
          go_enter Try.func23, Try.ntmps23
          go_wp2_with (first | (go_at_call 50; refine (proper_any _ _ _).mono ?_; rintro e w' ⟨rfl, rfl⟩))
          go_ret
          exact ⟨ret_bool (by simp [ha]), rfl⟩
      · by_cases hc : c < 0
        · rw [if_neg (by omega), if_pos (.inr hc)]
          clear M1 M2
          go_enter Try.func23, Try.ntmps23
          go_wp2_with (first | (go_at_call 50; refine (proper_any _ _ _).mono ?_; rintro e w' ⟨rfl, rfl⟩))
          go_ret
          exact ⟨ret_bool (by simp [ha]), rfl⟩
        · rw [if_neg (by omega), if_neg (by omega), words_less]
          rw [show (c.natAbs : Int) = c by omega] at M1
          rw [show (a.natAbs : Int) = a by omega] at M2
          have H1 := Lib.hid M1
          have H2 := Lib.hid M2
          clear M1 M2
          generalize c.natAbs * b.natAbs = X at *
          generalize a.natAbs * d.natAbs = Y at *
          generalize X / 18446744073709551616 = x1 at *
          generalize X % 18446744073709551616 = x0 at *
          generalize Y / 18446744073709551616 = y1 at *
          generalize Y % 18446744073709551616 = y0 at *
          rcases Nat.lt_trichotomy y1 x1 with k1 | k1 | k1
          · have k2 : ¬ x1 < y1 := by omega
            rw [decide_eq_true k1, Bool.true_or]
            go_enter Try.func23, Try.ntmps23
            go_wp2_with (first | (go_at_call 50; refine (proper_any _ _ _).mono ?_; rintro e w' ⟨rfl, rfl⟩) | (go_at_call_of 54 b; refine (H1.out _).mono ?_; rintro e w' ⟨rfl, rfl⟩) | (go_at_call_of 54 d; refine (H2.out _).mono ?_; rintro e w' ⟨rfl, rfl⟩))
            go_ret
            exact ⟨rfl, rfl⟩
          · subst k1
            rw [decide_eq_false (Nat.lt_irrefl _), decide_eq_true rfl, Bool.false_or, Bool.true_and]
            by_cases k3 : y0 < x0
            · rw [decide_eq_true k3]
              go_enter Try.func23, Try.ntmps23
              go_wp2_with (first | (go_at_call 50; refine (proper_any _ _ _).mono ?_; rintro e w' ⟨rfl, rfl⟩) | (go_at_call_of 54 b; refine (H1.out _).mono ?_; rintro e w' ⟨rfl, rfl⟩) | (go_at_call_of 54 d; refine (H2.out _).mono ?_; rintro e w' ⟨rfl, rfl⟩))
              go_ret
              exact ⟨rfl, rfl⟩
            · rw [decide_eq_false k3]
              go_enter Try.func23, Try.ntmps23
              go_wp2_with (first | (go_at_call 50; refine (proper_any _ _ _).mono ?_; rintro e w' ⟨rfl, rfl⟩) | (go_at_call_of 54 b; refine (H1.out _).mono ?_; rintro e w' ⟨rfl, rfl⟩) | (go_at_call_of 54 d; refine (H2.out _).mono ?_; rintro e w' ⟨rfl, rfl⟩))
              go_ret
              exact ⟨rfl, rfl⟩
          · rw [decide_eq_false (by omega), decide_eq_false (by omega), Bool.false_and, Bool.false_or]
            go_enter Try.func23, Try.ntmps23
            go_wp2_with (first | (go_at_call 50; refine (proper_any _ _ _).mono ?_; rintro e w' ⟨rfl, rfl⟩) | (go_at_call_of 54 b; refine (H1.out _).mono ?_; rintro e w' ⟨rfl, rfl⟩) | (go_at_call_of 54 d; refine (H2.out _).mono ?_; rintro e w' ⟨rfl, rfl⟩))
            go_ret
            exact ⟨ret_bool (show decide (y1 < x1) = false from decide_eq_false (by omega)), rfl⟩
    · replace h2 : Ex.fits c d = false := by simpa using h2
      have hl : Ex.less a b c d = false := by unfold Ex.less; rw [h2]; simp
      rw [hl]
      go_enter Try.func23, Try.ntmps23
      go_wp2_with ((go_at_call 50; refine (proper_any _ _ _).mono ?_; rintro e w' ⟨rfl, rfl⟩))
      go_ret
      exact ⟨rfl, rfl⟩
  · replace h1 : Ex.fits a b = false := by simpa using h1
    have hl : Ex.less a b c d = false := by unfold Ex.less; rw [h1]; simp
    rw [hl]
    go_enter Try.func23, Try.ntmps23
    go_wp2_with ((go_at_call 50; refine (proper_any _ _ _).mono ?_; rintro e w' ⟨rfl, rfl⟩))
    go_ret
    exact ⟨rfl, rfl⟩

end Go.Proofs.Ytdnddikchchdkaa
