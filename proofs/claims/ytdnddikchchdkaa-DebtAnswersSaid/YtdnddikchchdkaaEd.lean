/-
  THE WALKS over the quotient of a product: exact.divide and the reference's divide; Part, both ways.
-/
import Derived.Test.YtdnddikchchdkaaEz
import Derived.Test.YtdnddikchchdkaaPs
namespace Go.Proofs.Ytdnddikchchdkaa
open Go.RowKit

def dq (t p s : Int) : Int := if s ≤ t * p / 18446744073709551616 then 1125899906842625 else min (t * p / s) 1125899906842625
def dr (t p s : Int) : Int := if s ≤ t * p / 18446744073709551616 then 0 else t * p % s

/-- What 'divide' needs of its numbers. -/
structure Div (t p s : Int) : Prop where
  t0 : 0 ≤ t
  t1 : t ≤ 1099511627776
  p0 : 0 ≤ p
  p1 : p ≤ 1099511627776
  s0 : 1 ≤ s
  s1 : s ≤ 70368744177664

theorem Div.prod {t p s : Int} (h : Div t p s) : 0 ≤ t * p ∧ t * p ≤ 1208925819614629174706176 := by
  refine ⟨Int.mul_nonneg h.t0 h.p0, ?_⟩
  have h1 : t * p ≤ 1099511627776 * p := Int.mul_le_mul_of_nonneg_right h.t1 h.p0
  have := h.p1
  omega

theorem Div.words {t p s : Int} (h : Div t p s) : ((t.toNat * p.toNat / 18446744073709551616 : Nat) : Int) = t * p / 18446744073709551616 ∧ ((t.toNat * p.toNat % 18446744073709551616 : Nat) : Int) = t * p % 18446744073709551616 := by
  obtain ⟨a, rfl⟩ := Int.eq_ofNat_of_zero_le h.t0
  obtain ⟨b, rfl⟩ := Int.eq_ofNat_of_zero_le h.p0
  simp

set_option maxHeartbeats 1000000 in
theorem divide_any {t p s : Int} (h : Div t p s) (w : World) :
    Calls Try.prog 47 #[.int .i64 t, .int .i64 p, .int .i64 s] w fun e w' => e = .returned (.tuple #[.int .i64 (dq t p s), .int .i64 (dr t p s)]) ∧ Below w.heap.size w w' := by
  have hp := product_any t.toNat p.toNat (by have := h.t1; omega) (by have := h.p1; omega)
  rw [h.words.1, h.words.2, Int.toNat_of_nonneg h.t0, Int.toNat_of_nonneg h.p0] at hp
  obtain ⟨x0, x1⟩ := h.prod
  have s0 := h.s0
  have s1 := h.s1
  unfold dq dr
  clear h
  generalize t * p = X at *
  have HP := Lib.hid hp
  clear hp
  have e1 : X / 18446744073709551616 * 18446744073709551616 + X % 18446744073709551616 = X := by omega
  have hd := fun w (hlt : X / 18446744073709551616 < s) => div_any (X / 18446744073709551616) (X % 18446744073709551616) s w (by omega) hlt (by omega) (by omega) (by omega)
  rw [e1] at hd
  have l0 : 0 ≤ X / 18446744073709551616 := by omega
  have l1 : X / 18446744073709551616 ≤ 65536 := by omega
  have m0 : 0 ≤ X % 18446744073709551616 := by omega
  have m1 : X % 18446744073709551616 < 18446744073709551616 := by omega
  have q0 : 0 ≤ X / s := Int.ediv_nonneg x0 (by omega)
  have q1 : X / 18446744073709551616 < s → X / s < 18446744073709551616 := fun hlt => by rw [Int.ediv_lt_iff_lt_mul (by omega)]; omega
  have r0 : 0 ≤ X % s := Int.emod_nonneg _ (by omega)
  have r1 : X % s < s := Int.emod_lt_of_pos _ (by omega)
  by_cases hs : s ≤ X / 18446744073709551616
  · rw [if_pos hs, if_pos hs]
    clear hd q1 e1
    generalize X / 18446744073709551616 = hi at *
    generalize X % 18446744073709551616 = lo at *
    go_enter Try.func47, Try.ntmps47
    go_wp2_with (first | (go_at_call 52; refine (HP.out _).mono ?_; rintro e w1 ⟨rfl, hb1⟩))
    go_ret2
    have hs1 := hb1.size
    exact ⟨rfl, by go_grown⟩
  · rw [if_neg hs, if_neg hs]
    have hd2 := fun w => hd w (by omega)
    have HD := Lib.hid hd2
    have q1' := q1 (by omega)
    clear hd hd2 q1 e1
    generalize X / 18446744073709551616 = hi at *
    generalize X % 18446744073709551616 = lo at *
    generalize X / s = q at *
    generalize X % s = r at *
    go_enter Try.func47, Try.ntmps47
    go_wp2_with (first | (go_at_call 52; refine (HP.out _).mono ?_; rintro e w1 ⟨rfl, hb1⟩) | (go_at_call 77; refine (HD.out _).mono ?_; rintro e w2 ⟨rfl, n, rfl⟩))
    have hs1 := hb1.size
    go_ret2
    have er : IntKind.i64.wrap r = r := IntWalk.i64_in _ ⟨by omega, by omega⟩
    have eq : IntKind.i64.wrap (min q 1125899906842625) = min q 1125899906842625 := IntWalk.i64_in _ ⟨by omega, by omega⟩
    exact ⟨by first | rfl | (simp only [er, eq]; rfl), bnext (hb1.alloc hs1 _) (by simp; omega) (drewN_below _ _)⟩

def rq (t p s : Int) : Int := if s ≤ t * p / 18446744073709551616 then 0 else wrap64 (t * p / s)
def rr (t p s : Int) : Int := if s ≤ t * p / 18446744073709551616 then 0 else t * p % s
def rk (t p s : Int) : Bool := if s ≤ t * p / 18446744073709551616 then false else decide (t * p / s < 9223372036854775808)

set_option maxHeartbeats 1000000 in
theorem refdivide_any {t p s : Int} (h : Div t p s) (w : World) :
    Calls Try.prog 48 #[.int .i64 t, .int .i64 p, .int .i64 s] w fun e w' => e = .returned (.tuple #[.int .i64 (rq t p s), .int .i64 (rr t p s), .bool (rk t p s)]) ∧ ∃ n, w' = w.drewN n := by
  have hm := fun w => Calls.same (Try.bits_Mul64 t.toNat p.toNat (by have := h.t1; omega) (by have := h.p1; omega) w)
  rw [h.words.1, h.words.2, Int.toNat_of_nonneg h.t0, Int.toNat_of_nonneg h.p0] at hm
  obtain ⟨x0, x1⟩ := h.prod
  have t0 := h.t0
  have t1 := h.t1
  have p0 := h.p0
  have p1 := h.p1
  have s0 := h.s0
  have s1 := h.s1
  unfold rq rr rk
  clear h
  generalize t * p = X at *
  have HP := Lib.hid hm
  clear hm
  have e1 : X / 18446744073709551616 * 18446744073709551616 + X % 18446744073709551616 = X := by omega
  have hd := fun w (hlt : X / 18446744073709551616 < s) => div_any (X / 18446744073709551616) (X % 18446744073709551616) s w (by omega) hlt (by omega) (by omega) (by omega)
  rw [e1] at hd
  have l0 : 0 ≤ X / 18446744073709551616 := by omega
  have l1 : X / 18446744073709551616 ≤ 65536 := by omega
  have m0 : 0 ≤ X % 18446744073709551616 := by omega
  have m1 : X % 18446744073709551616 < 18446744073709551616 := by omega
  have q0 : 0 ≤ X / s := Int.ediv_nonneg x0 (by omega)
  have q1 : X / 18446744073709551616 < s → X / s < 18446744073709551616 := fun hlt => by rw [Int.ediv_lt_iff_lt_mul (by omega)]; omega
  have r0 : 0 ≤ X % s := Int.emod_nonneg _ (by omega)
  have r1 : X % s < s := Int.emod_lt_of_pos _ (by omega)
  by_cases hs : s ≤ X / 18446744073709551616
  · rw [if_pos hs, if_pos hs, if_pos hs]
    clear hd q1 e1
    generalize X / 18446744073709551616 = hi at *
    generalize X % 18446744073709551616 = lo at *
    go_enter Try.func48, Try.ntmps48
    go_wp2_with (first | (go_at_call 54; refine (HP.out _).mono ?_; rintro e w' ⟨rfl, rfl⟩))
    go_ret3
    exact ⟨rfl, 0, rfl⟩
  · rw [if_neg hs, if_neg hs, if_neg hs]
    have hd2 := fun w => hd w (by omega)
    have HD := Lib.hid hd2
    have q1' := q1 (by omega)
    clear hd hd2 q1 e1
    generalize X / 18446744073709551616 = hi at *
    generalize X % 18446744073709551616 = lo at *
    generalize X / s = q at *
    generalize X % s = r at *
    go_enter Try.func48, Try.ntmps48
    go_wp2_with (first | (go_at_call 54; refine (HP.out _).mono ?_; rintro e w' ⟨rfl, rfl⟩) | (go_at_call 77; refine (HD.out _).mono ?_; rintro e w2 ⟨rfl, n, rfl⟩))
    go_ret3
    have er : IntKind.i64.wrap r = r := IntWalk.i64_in _ ⟨by omega, by omega⟩
    exact ⟨by first | rfl | (simp only [er]; rfl), n, rfl⟩

/-! ### Part -/
def part (t p s : Int) : Int × Int :=
  if 0 ≤ t ∧ t ≤ 1099511627776 ∧ 0 ≤ p ∧ p ≤ 1099511627776 ∧ 1 ≤ s ∧ s ≤ 1099511627776 then (if 1125899906842624 < t * p / s then (0, 2) else (t * p / s, 0)) else (0, 2)

theorem dq_gt {t p s : Int} (h : Div t p s) : (1125899906842624 < dq t p s ↔ 1125899906842624 < t * p / s) ∧ (¬ 1125899906842624 < t * p / s → dq t p s = t * p / s) := by
  obtain ⟨x0, x1⟩ := h.prod
  have s0 := h.s0
  unfold dq
  by_cases hs : s ≤ t * p / 18446744073709551616
  · rw [if_pos hs]
    have : 18446744073709551616 ≤ t * p / s := by rw [Int.le_ediv_iff_mul_le (by omega)]; omega
    omega
  · rw [if_neg hs]; omega

theorem rq_gt {t p s : Int} (h : Div t p s) : (rk t p s = false ∨ 1125899906842624 < rq t p s ↔ 1125899906842624 < t * p / s) ∧ (¬ 1125899906842624 < t * p / s → rq t p s = t * p / s ∧ rk t p s = true) := by
  obtain ⟨x0, x1⟩ := h.prod
  have s0 := h.s0
  unfold rq rk
  by_cases hs : s ≤ t * p / 18446744073709551616
  · rw [if_pos hs, if_pos hs]
    have : 18446744073709551616 ≤ t * p / s := by rw [Int.le_ediv_iff_mul_le (by omega)]; omega
    simp; omega
  · rw [if_neg hs, if_neg hs]
    have q0 : 0 ≤ t * p / s := Int.ediv_nonneg x0 (by omega)
    rw [decide_eq_false_iff_not]
    by_cases hk : t * p / s < 9223372036854775808
    · rw [IntWalk.wrap64_in _ ⟨by omega, by omega⟩]
      simp [hk]
    · simp only [hk, not_false_eq_true, true_or, true_iff]
      omega

set_option maxHeartbeats 400000 in
theorem limited_any (n : Int) (w : World) :
    Calls Try.prog 46 #[.int .i64 n] w fun e w' => e = .returned (.bool (Sh.limited n)) ∧ w = w' := by
  go_enter Try.func46, Try.ntmps46
  go_wp2
  all_goals
    go_ret
    refine ⟨ret_bool ?_, rfl⟩
    unfold Sh.limited
    simp
    try omega

set_option maxHeartbeats 1000000 in
theorem part_any (t p s : Int) (w : World) :
    Calls Try.prog 14 #[.int .i64 t, .int .i64 p, .int .i64 s] w fun e w' => e = .returned (.tuple #[.int .i64 (part t p s).1, .int .i64 (part t p s).2]) ∧ Below w.heap.size w w' := by
  by_cases hin : 0 ≤ t ∧ t ≤ 1099511627776 ∧ 0 ≤ p ∧ p ≤ 1099511627776 ∧ 1 ≤ s ∧ s ≤ 1099511627776
  · have hp : part t p s = if 1125899906842624 < t * p / s then (0, 2) else (t * p / s, 0) := by unfold part; rw [if_pos hin]
    obtain ⟨t0, t1, p0, p1, s0, s1⟩ := hin
    have h : Div t p s := ⟨t0, t1, p0, p1, s0, by omega⟩
    obtain ⟨g1, g2⟩ := dq_gt h
    have hd := divide_any h
    rw [hp]
    clear hp h
    have HD := Lib.hid hd
    clear hd
    have l1 : Sh.limited t = true := Sh.limited_iff.2 ⟨t0, t1⟩
    have l2 : Sh.limited p = true := Sh.limited_iff.2 ⟨p0, p1⟩
    have l3 : Sh.limited s = true := Sh.limited_iff.2 ⟨by omega, s1⟩
    generalize dq t p s = q at *
    generalize t * p / s = x at *
    by_cases hgt : 1125899906842624 < x
    · rw [if_pos hgt]
      have hq := g1.2 hgt
      clear g1 g2
      go_enter Try.func14, Try.ntmps14
      go_wp2_with (first | (go_at_call 46; refine (limited_any _ _).mono ?_; rintro e w' ⟨rfl, rfl⟩) | (go_at_call 47; refine (HD.out _).mono ?_; rintro e w1 ⟨rfl, hb1⟩))
      go_ret2
      exact ⟨rfl, hb1⟩
    · rw [if_neg hgt]
      have hq : ¬ 1125899906842624 < q := fun h => hgt (g1.1 h)
      obtain rfl := g2 hgt
      clear g1 g2 hq
      go_enter Try.func14, Try.ntmps14
      go_wp2_with (first | (go_at_call 46; refine (limited_any _ _).mono ?_; rintro e w' ⟨rfl, rfl⟩) | (go_at_call 47; refine (HD.out _).mono ?_; rintro e w1 ⟨rfl, hb1⟩))
      go_ret2
      exact ⟨rfl, hb1⟩
  · have hp : part t p s = (0, 2) := by unfold part; rw [if_neg hin]
    rw [hp]
    rcases Bool.eq_false_or_eq_true (Sh.limited t) with l1 | l1
    · rcases Bool.eq_false_or_eq_true (Sh.limited p) with l2 | l2
      · by_cases hs : s < 1
        · go_enter Try.func14, Try.ntmps14
          go_wp2_with (first | (go_at_call 46; refine (limited_any _ _).mono ?_; rintro e w' ⟨rfl, rfl⟩))
          go_ret2
          exact ⟨rfl, Below.refl _ _⟩
        · have l3 : Sh.limited s = false := by
            apply Bool.eq_false_iff.2
            intro l3
            have a := Sh.limited_iff.1 l1
            have b := Sh.limited_iff.1 l2
            have c := Sh.limited_iff.1 l3
            omega
          go_enter Try.func14, Try.ntmps14
          go_wp2_with (first | (go_at_call 46; refine (limited_any _ _).mono ?_; rintro e w' ⟨rfl, rfl⟩))
          go_ret2
          exact ⟨rfl, Below.refl _ _⟩
      · go_enter Try.func14, Try.ntmps14
        go_wp2_with (first | (go_at_call 46; refine (limited_any _ _).mono ?_; rintro e w' ⟨rfl, rfl⟩))
        go_ret2
        exact ⟨rfl, Below.refl _ _⟩
    · go_enter Try.func14, Try.ntmps14
      go_wp2_with (first | (go_at_call 46; refine (limited_any _ _).mono ?_; rintro e w' ⟨rfl, rfl⟩))
      go_ret2
      exact ⟨rfl, Below.refl _ _⟩

end Go.Proofs.Ytdnddikchchdkaa
