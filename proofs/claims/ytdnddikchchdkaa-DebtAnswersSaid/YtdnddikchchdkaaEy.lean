/-
  THE WALKS over package exact, second part: products of 128 bits, how they compare, and Less; the reference's Less.
-/
import Derived.Test.YtdnddikchchdkaaEx
namespace Go.Proofs.Ytdnddikchchdkaa
open Go.RowKit

def cmpI (a b : Int) : Int := if a < b then -1 else if b < a then 1 else 0
def orI (x y : Int) : Int := if x = 0 then y else x

theorem cmp_words (X Y : Nat) : decide (orI (cmpI ((X / 18446744073709551616 : Nat) : Int) ((Y / 18446744073709551616 : Nat) : Int)) (cmpI ((X % 18446744073709551616 : Nat) : Int) ((Y % 18446744073709551616 : Nat) : Int)) < 0) = decide (X < Y) := by
  unfold orI cmpI
  rw [Bool.eq_iff_iff, decide_eq_true_eq, decide_eq_true_eq]
  split <;> (try split) <;> (try split) <;> (try split) <;> omega

set_option maxHeartbeats 400000 in
theorem compareU_any (a b : Int) (w : World) :
    Calls Try.prog 78 #[.int .u64 a, .int .u64 b] w fun e w' => e = .returned (.int .i64 (cmpI a b)) ∧ w = w' := by
  unfold cmpI
  rcases Int.lt_trichotomy a b with h | h | h
  · have h2 : ¬ b < a := by omega
    rw [if_pos h]
    go_enter Try.func78, Try.ntmps78
    go_wp2
    go_ret
    exact ⟨rfl, rfl⟩
  · subst h
    rw [if_neg (by omega), if_neg (by omega)]
    go_enter Try.func78, Try.ntmps78
    go_wp2
    go_ret
    exact ⟨rfl, rfl⟩
  · have h2 : ¬ a < b := by omega
    rw [if_neg h2, if_pos h]
    go_enter Try.func78, Try.ntmps78
    go_wp2
    go_ret
    exact ⟨rfl, rfl⟩

set_option maxHeartbeats 400000 in
theorem or2_any (x y : Int) (b c : Nat) (w : World) (h0 : w.cell? ⟨b, 0, none⟩ = some (.int .i64 x)) (h1 : w.cell? ⟨b, 0 + 1, none⟩ = some (.int .i64 y)) :
    Calls Try.prog 59 #[.slice (some ⟨b, 0, none⟩) 2 c] w fun e w' => e = .returned (.int .i64 (orI x y)) ∧ w = w' := by
  unfold orI
  by_cases hx : x = 0
  · subst hx
    rw [if_pos rfl]
    by_cases hy : y = 0
    · subst hy
      go_enter Try.func59, Try.ntmps59
      go_wp2
      refine wp_loop_rounds 3 ?_
      rw [rounds_succ]
      go_wp2
      rw [rounds_succ]
      go_wp2
      rw [rounds_succ]
      go_wp2
      go_ret
      exact ⟨rfl, rfl⟩
    · have hyb : (y == 0) = false := by simpa using hy
      go_enter Try.func59, Try.ntmps59
      go_wp2
      refine wp_loop_rounds 3 ?_
      rw [rounds_succ]
      go_wp2
      rw [rounds_succ]
      go_wp2
      go_ret
      exact ⟨rfl, rfl⟩
  · rw [if_neg hx]
    have hxb : (x == 0) = false := by simpa using hx
    go_enter Try.func59, Try.ntmps59
    go_wp2
    refine wp_loop_rounds 3 ?_
    rw [rounds_succ]
    go_wp2
    go_ret
    exact ⟨rfl, rfl⟩

set_option maxRecDepth 100000 in
set_option maxHeartbeats 400000 in
theorem compare_any (a b c d : Int) (w : World) :
    Calls Try.prog 51 #[.agg #[.int .u64 a, .int .u64 b], .agg #[.int .u64 c, .int .u64 d]] w fun e w' => e = .returned (.int .i64 (orI (cmpI a c) (cmpI b d))) ∧ Below w.heap.size w w' := by
  go_enter Try.func51, Try.ntmps51
  go_wp2_with fail
  refine wp_tail 10 (by kernel_rfl) (by kernel_rfl) ?_
  simp only [List.take_succ_cons, List.take_zero, List.drop_succ_cons, List.drop_zero]
  repeat still_step
  still_call (Calls.turn (compareU_any a c _))
  repeat still_step
  still_call (Calls.turn (compareU_any b d _))
  refine wpStill_nil ?_
  change wpList _ _ _ _ _ (World.drew _)
  go_wp2_with (go_at_call 59; refine (or2_any (cmpI a c) (cmpI b d) _ _ _ (by go_simp) (by go_simp)).mono ?_; rintro e w1 ⟨rfl, rfl⟩)
  go_ret
  exact ⟨rfl, by go_grown⟩

set_option maxHeartbeats 400000 in
theorem product_any (x y : Nat) (hx : x < 9223372036854775808) (hy : y < 9223372036854775808) (w : World) :
    Calls Try.prog 52 #[.int .i64 x, .int .i64 y] w fun e w' => e = .returned (.agg #[.int .u64 ((x * y / 18446744073709551616 : Nat) : Int), .int .u64 ((x * y % 18446744073709551616 : Nat) : Int)]) ∧ Below w.heap.size w w' := by
  have hm := fun w => Calls.same (Try.bits_Mul64 x y (by omega) (by omega) w)
  have HM := Lib.hid hm
  clear hm
  generalize hX : x * y / 18446744073709551616 = X at *
  generalize hY : x * y % 18446744073709551616 = Y at *
  clear hX hY
  go_enter Try.func52, Try.ntmps52
  go_wp2_with (go_at_call 54; refine (HM.out _).mono ?_; rintro e w' ⟨rfl, rfl⟩)
  exact bodyPost_ret (v := .agg #[.int .u64 X, .int .u64 Y]) (by simp [results, Try.results52, go_sem]) rfl ⟨rfl, by go_grown⟩

end Go.Proofs.Ytdnddikchchdkaa
