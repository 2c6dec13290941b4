/-
  THE WALKS over the laws ExactRounds and ExactOrder of chapter 1: for every input they return true, and nothing that was there is written.
-/
import Derived.Test.YtlmikbjnibiajaaEi
namespace Go.Proofs.Ytlmikbjnibiajaa
open Go.RowKit

theorem bd_i32 {n : Int} (h : (Lit.int .i32 n).wf = true) : -2147483648 ≤ n ∧ n ≤ 2147483647 := by simpa [Lit.wf, IntKind.min, IntKind.max, IntKind.signed, IntKind.bits] using h
theorem bd_u16 {n : Int} (h : (Lit.int .u16 n).wf = true) : 0 ≤ n ∧ n ≤ 65535 := by simpa [Lit.wf, IntKind.min, IntKind.max, IntKind.signed, IntKind.bits] using h
theorem bd_u32 {n : Int} (h : (Lit.int .u32 n).wf = true) : 0 ≤ n ∧ n ≤ 4294967295 := by simpa [Lit.wf, IntKind.min, IntKind.max, IntKind.signed, IntKind.bits] using h
theorem bd_u8 {n : Int} (h : (Lit.int .u8 n).wf = true) : 0 ≤ n ∧ n ≤ 255 := by simpa [Lit.wf, IntKind.min, IntKind.max, IntKind.signed, IntKind.bits] using h
theorem bd_i64 {n : Int} (h : (Lit.int .i64 n).wf = true) : -9223372036854775808 ≤ n ∧ n ≤ 9223372036854775807 := by simpa [Lit.wf, IntKind.min, IntKind.max, IntKind.signed, IntKind.bits] using h

/-- Rounding, with the products that the law forms. -/
structure Rounds (n d : Int) : Prop where
  d1 : Ex.down n d * d ≤ n
  d2 : n < (Ex.down n d + 1) * d
  u1 : n ≤ Ex.up n d * d
  u2 : (Ex.up n d - 1) * d < n
  o : Ex.down (-n) d = - Ex.up n d
  h1 : 2 * Ex.half n d * d ≤ 2 * n + d
  h2 : 2 * n + d < 2 * (Ex.half n d + 1) * d

theorem rounds {n d : Int} (h1 : -2147483648 ≤ n) (h2 : n ≤ 2147483647) (h3 : 1 ≤ d) (h4 : d ≤ 65536) : Rounds n d := by
  have f1 : Ex.fits n d = true := Ex.fits_of (by omega) (by omega) h3 (by omega)
  have f2 : Ex.fits (-n) d = true := Ex.fits_of (by omega) (by omega) h3 (by omega)
  have r1 := Ex.rest_bd f1
  have r2 := Ex.rest_bd f2
  have e1 : Ex.down n d = n / d := by unfold Ex.down; rw [if_pos f1]
  have e2 : Ex.down (-n) d = -n / d := by unfold Ex.down; rw [if_pos f2]
  have e3 : Ex.up n d = - (-n / d) := by unfold Ex.up; rw [e2]
  have e4 : Ex.half n d = if d ≤ 2 * (n - n / d * d) then n / d + 1 else n / d := by unfold Ex.half; rw [if_pos f1]
  refine ⟨by rw [e1]; omega, by rw [e1, Int.add_mul]; omega, by rw [e3, Int.neg_mul]; omega, by rw [e3, Int.sub_mul, Int.neg_mul]; omega, by rw [e2, e3]; omega, ?_, ?_⟩
  · rw [e4, Int.mul_assoc]
    split
    · rw [Int.add_mul]; omega
    · omega
  · rw [e4, Int.mul_assoc]
    split
    · rw [Int.add_mul, Int.add_mul]; omega
    · rw [Int.add_mul]; omega

theorem quot_bd {q n d : Int} (h1 : -2147483648 ≤ n) (h2 : n ≤ 2147483647) (h3 : 1 ≤ d) (h4 : d ≤ 65536) (a : q * d ≤ n + d) (b : n - d ≤ q * d) : -2147549184 ≤ q ∧ q ≤ 2147549184 := by
  refine ⟨?_, ?_⟩
  · apply Int.not_lt.1
    intro h
    have : q * d ≤ -2147549185 * d := Int.mul_le_mul_of_nonneg_right (by omega) (by omega)
    omega
  · apply Int.not_lt.1
    intro h
    have : 2147549185 * d ≤ q * d := Int.mul_le_mul_of_nonneg_right (by omega) (by omega)
    omega

set_option maxHeartbeats 1000000 in
theorem exactRounds_walk (a b : Int) (w0 : (Lit.int .i32 a).wf = true) (w1 : (Lit.int .u16 b).wf = true) (w : World) :
    Calls Try.prog 3 #[.int .i32 a, .int .u16 b] w fun e w' => e = .returned (.bool true) ∧ Below w.heap.size w w' := by
  obtain ⟨a1, a2⟩ := bd_i32 w0
  obtain ⟨b1, b2⟩ := bd_u16 w1
  clear w0 w1
  have R := rounds (n := a) (d := b + 1) a1 a2 (by omega) (by omega)
  have D := fun w => down_any a (b + 1) w
  have U := fun w => up_any a (b + 1) w (by omega) (by omega)
  have F := fun w => half_any a (b + 1) w
  have M := fun w => down_any (-a) (b + 1) w
  rw [R.o] at M
  obtain ⟨d1, d2, u1, u2, -, h1, h2⟩ := R
  generalize Ex.down a (b + 1) = q at *
  generalize Ex.up a (b + 1) = u at *
  generalize Ex.half a (b + 1) = h at *
  have HD := Lib.hid D
  have HU := Lib.hid U
  have HF := Lib.hid F
  have HM := Lib.hid M
  clear D U F M
  obtain ⟨q1, q2⟩ := quot_bd (q := q) a1 a2 (show 1 ≤ b + 1 by omega) (by omega) (by omega) (by rw [Int.add_mul] at d2; omega)
  obtain ⟨u3, u4⟩ := quot_bd (q := u) a1 a2 (show 1 ≤ b + 1 by omega) (by omega) (by rw [Int.sub_mul] at u2; omega) (by omega)
  obtain ⟨h3, h4⟩ := quot_bd (q := h) a1 a2 (show 1 ≤ b + 1 by omega) (by omega) (by rw [Int.mul_assoc] at h1; omega) (by rw [Int.mul_assoc, Int.add_mul] at h2; omega)
  have p2 := Int.add_mul q 1 (b + 1)
  have p4 := Int.sub_mul u 1 (b + 1)
  have p5 := Int.mul_assoc 2 h (b + 1)
  have p6 := Int.mul_assoc 2 (h + 1) (b + 1)
  have p7 := Int.add_mul h 1 (b + 1)
  have m1 : IntKind.i64.wrap (q * (b + 1)) = q * (b + 1) := IntWalk.i64_in _ ⟨by omega, by omega⟩
  have m2 : IntKind.i64.wrap ((q + 1) * (b + 1)) = (q + 1) * (b + 1) := IntWalk.i64_in _ ⟨by omega, by omega⟩
  have m3 : IntKind.i64.wrap (u * (b + 1)) = u * (b + 1) := IntWalk.i64_in _ ⟨by omega, by omega⟩
  have m4 : IntKind.i64.wrap ((u - 1) * (b + 1)) = (u - 1) * (b + 1) := IntWalk.i64_in _ ⟨by omega, by omega⟩
  have m5 : IntKind.i64.wrap (2 * h * (b + 1)) = 2 * h * (b + 1) := IntWalk.i64_in _ ⟨by omega, by omega⟩
  have m6 : IntKind.i64.wrap (2 * (h + 1) * (b + 1)) = 2 * (h + 1) * (b + 1) := IntWalk.i64_in _ ⟨by omega, by omega⟩
  clear p2 p4 p5 p6 p7
  go_enter Try.func3, Try.ntmps3
  go_wp2_with (first | (go_at_call 16; refine (HU.out _).mono ?_; rintro e w' ⟨rfl, rfl⟩) | (go_at_call 17; refine (HF.out _).mono ?_; rintro e w' ⟨rfl, rfl⟩) | (go_at_call_of 15 (-a); refine (HM.out _).mono ?_; rintro e w' ⟨rfl, rfl⟩) | (go_at_call 15; refine (HD.out _).mono ?_; rintro e w' ⟨rfl, rfl⟩) | (go_at_call 18; refine (awake01_any _).mono ?_; rintro e w1 ⟨rfl, hb1⟩))
  go_ret
  exact ⟨rfl, hb1⟩


theorem less_prod {a b c d : Int} (h1 : Ex.fits a b = true) (h2 : Ex.fits c d = true) : Ex.less a b c d = decide (a * d < c * b) := by unfold Ex.less; rw [h1, h2]; rfl

theorem less_trans {a c x p q r : Int} (hp : 1 ≤ p) (hq : 1 ≤ q) (hr : 1 ≤ r) (h1 : a * q < c * p) (h2 : c * r < x * q) : a * r < x * p := by
  have e1 : a * q * r < c * p * r := Int.mul_lt_mul_of_pos_right h1 (by omega)
  have e2 : c * r * p < x * q * p := Int.mul_lt_mul_of_pos_right h2 (by omega)
  have e3 : a * r * q < x * p * q := by
    have x1 : a * r * q = a * q * r := by grind
    have x2 : x * p * q = x * q * p := by grind
    have x3 : c * p * r = c * r * p := by grind
    omega
  exact Int.lt_of_mul_lt_mul_right e3 (by omega)

set_option maxHeartbeats 2000000 in
theorem exactOrder_walk (a c x b d y : Int) (w0 : (Lit.int .i32 a).wf = true) (w1 : (Lit.int .i32 c).wf = true) (w2 : (Lit.int .i32 x).wf = true) (w3 : (Lit.int .u16 b).wf = true) (w4 : (Lit.int .u16 d).wf = true) (w5 : (Lit.int .u16 y).wf = true) (w : World) :
    Calls Try.prog 5 #[.int .i32 a, .int .i32 c, .int .i32 x, .int .u16 b, .int .u16 d, .int .u16 y] w fun e w' => e = .returned (.bool true) ∧ Below w.heap.size w w' := by
  obtain ⟨a1, a2⟩ := bd_i32 w0
  obtain ⟨c1, c2⟩ := bd_i32 w1
  obtain ⟨x1, x2⟩ := bd_i32 w2
  obtain ⟨b1, b2⟩ := bd_u16 w3
  obtain ⟨d1, d2⟩ := bd_u16 w4
  obtain ⟨y1, y2⟩ := bd_u16 w5
  clear w0 w1 w2 w3 w4 w5
  have fa : Ex.fits a (b + 1) = true := Ex.fits_of (by omega) (by omega) (by omega) (by omega)
  have fc : Ex.fits c (d + 1) = true := Ex.fits_of (by omega) (by omega) (by omega) (by omega)
  have fx : Ex.fits x (y + 1) = true := Ex.fits_of (by omega) (by omega) (by omega) (by omega)
  have h1 := fun w => less_any a (b + 1) c (d + 1) w
  have h2 := fun w => less_any c (d + 1) a (b + 1) w
  have h3 := fun w => less_any c (d + 1) x (y + 1) w
  have h4 := fun w => less_any a (b + 1) x (y + 1) w
  rw [less_prod fa fc] at h1
  rw [less_prod fc fa] at h2
  rw [less_prod fc fx] at h3
  rw [less_prod fa fx] at h4
  have ht := less_trans (a := a) (c := c) (x := x) (p := b + 1) (q := d + 1) (r := y + 1) (by omega) (by omega) (by omega)
  have m1 : IntKind.i64.wrap (a * (d + 1)) = a * (d + 1) := by
    have u1 : a * (d + 1) ≤ 2147483647 * (d + 1) := Int.mul_le_mul_of_nonneg_right a2 (by omega)
    have u2 : -2147483648 * (d + 1) ≤ a * (d + 1) := Int.mul_le_mul_of_nonneg_right a1 (by omega)
    exact IntWalk.i64_in _ ⟨by omega, by omega⟩
  have m2 : IntKind.i64.wrap (c * (b + 1)) = c * (b + 1) := by
    have u1 : c * (b + 1) ≤ 2147483647 * (b + 1) := Int.mul_le_mul_of_nonneg_right c2 (by omega)
    have u2 : -2147483648 * (b + 1) ≤ c * (b + 1) := Int.mul_le_mul_of_nonneg_right c1 (by omega)
    exact IntWalk.i64_in _ ⟨by omega, by omega⟩
  generalize hA : a * (d + 1) = A at *
  generalize hC : c * (b + 1) = C at *
  generalize c * (y + 1) = C' at *
  generalize x * (d + 1) = X at *
  generalize a * (y + 1) = A' at *
  generalize x * (b + 1) = X' at *
  clear fa fc fx
  by_cases k1 : A < C
  · have k2 : ¬ C < A := by omega
    rw [decide_eq_true k1] at h1
    rw [decide_eq_false k2] at h2
    have H1 := Lib.hid h1
    have H2 := Lib.hid h2
    by_cases k3 : C' < X
    · rw [decide_eq_true k3] at h3
      rw [decide_eq_true (ht k1 k3)] at h4
      have H3 := Lib.hid h3
      have H4 := Lib.hid h4
      clear h1 h2 h3 h4 ht
      go_enter Try.func5, Try.ntmps5
      go_wp2_with (first | (go_at_call 20; first | (with_reducible refine Calls.mono (H1.out _) ?_; rintro e w1 ⟨rfl, hb1⟩) | (with_reducible refine Calls.mono (H2.out _) ?_; rintro e w2 ⟨rfl, hb2⟩) | (with_reducible refine Calls.mono (H3.out _) ?_; rintro e w3 ⟨rfl, hb3⟩) | (with_reducible refine Calls.mono (H4.out _) ?_; rintro e w4 ⟨rfl, hb4⟩)) | (go_at_call 18; refine (awake01_any _).mono ?_; rintro e w9 ⟨rfl, hb9⟩))
      go_ret
      have z1 := hb1.size
      have z2 := hb2.size
      have z3 := hb3.size
      have z4 := hb4.size
      exact ⟨rfl, bnext (bnext (bnext (bnext hb1 (by omega) hb2) (by omega) hb3) (by omega) hb4) (by omega) hb9⟩
    · rw [decide_eq_false k3] at h3
      have H3 := Lib.hid h3
      have H4 := Lib.hid h4
      clear h1 h2 h3 h4 ht
      go_enter Try.func5, Try.ntmps5
      go_wp2_with (first | (go_at_call 20; first | (with_reducible refine Calls.mono (H1.out _) ?_; rintro e w1 ⟨rfl, hb1⟩) | (with_reducible refine Calls.mono (H2.out _) ?_; rintro e w2 ⟨rfl, hb2⟩) | (with_reducible refine Calls.mono (H3.out _) ?_; rintro e w3 ⟨rfl, hb3⟩) | (with_reducible refine Calls.mono (H4.out _) ?_; rintro e w4 ⟨rfl, hb4⟩)) | (go_at_call 18; refine (awake01_any _).mono ?_; rintro e w9 ⟨rfl, hb9⟩))
      go_ret
      have z1 := hb1.size
      have z2 := hb2.size
      have z3 := hb3.size
      exact ⟨rfl, bnext (bnext (bnext hb1 (by omega) hb2) (by omega) hb3) (by omega) hb9⟩
  · rw [decide_eq_false k1] at h1
    have H1 := Lib.hid h1
    have H2 := Lib.hid h2
    have H3 := Lib.hid h3
    have H4 := Lib.hid h4
    clear h1 h2 h3 h4 ht
    go_enter Try.func5, Try.ntmps5
    go_wp2_with (first | (go_at_call 20; first | (with_reducible refine Calls.mono (H1.out _) ?_; rintro e w1 ⟨rfl, hb1⟩) | (with_reducible refine Calls.mono (H2.out _) ?_; rintro e w2 ⟨rfl, hb2⟩) | (with_reducible refine Calls.mono (H3.out _) ?_; rintro e w3 ⟨rfl, hb3⟩) | (with_reducible refine Calls.mono (H4.out _) ?_; rintro e w4 ⟨rfl, hb4⟩)) | (go_at_call 18; refine (awake01_any _).mono ?_; rintro e w9 ⟨rfl, hb9⟩))
    go_ret
    have z1 := hb1.size
    exact ⟨ret_bool (show (!decide (A < C)) = true by rw [decide_eq_false (show ¬ A < C by omega)]; rfl), bnext hb1 (by omega) hb9⟩

end Go.Proofs.Ytlmikbjnibiajaa
