/-
  THE WALK over the example of chapter 33; what the numbers of a tape are for it.
-/
import Derived.Test.YtlmikbjnibiajaaEh
import Derived.Test.YtlmikbjnibiajaaKa
import Derived.Test.YtlmikbjnibiajaaPw
namespace Go.Proofs.Ytlmikbjnibiajaa
open Go.RowKit

set_option maxRecDepth 100000 in
set_option maxHeartbeats 1000000 in
theorem awake33_any (w : World) : Calls Try.prog 33 #[] w fun e w' => e = .returned (.bool true) ∧ Below w.heap.size w w' := by
  have hi : ∀ (w : World), Ints (w.alloc (.cells #[.int .i64 95, .int .i64 59] 3)) (some ⟨w.heap.size, 0, none⟩) [95, 59] := fun w => Ints.lit w _ [95, 59] (by unfold maxLen; decide)
  have hi2 : ∀ (w : World), Ints (w.alloc (.cells #[.int .i64 60, .int .i64 40] 3)) (some ⟨w.heap.size, 0, none⟩) [60, 40] := fun w => Ints.lit w _ [60, 40] (by unfold maxLen; decide)
  have h5 := fun (w : World) p cap (hl : Ints w p [60, 40]) => refints24_any p (some ⟨w.heap.size, 0, none⟩) [60, 40] [60, 40] cap 2 (w.alloc (.cells #[.int .i64 60, .int .i64 40] 3)) (hl.below ((Below.refl _ _).alloc (Nat.le_refl _) _)) (hi2 w)
  rw [decide_eq_true (rfl : ([60, 40] : List Int) = [60, 40])] at h5
  have H5 := Lib.hid h5
  clear h5 hi2
  obtain ⟨x1, x2⟩ := ex33a
  obtain ⟨x3, x4, x5⟩ := ex33b
  have h1 := fun w cap => scale_any 100 10 (some ⟨w.heap.size, 0, none⟩) [95, 59] cap _ (hi w)
  rw [x1, x2] at h1
  have h2 := fun w cap => factor_any 100 10 (some ⟨w.heap.size, 0, none⟩) [95, 59] cap _ (hi w)
  rw [x1, x3] at h2
  dsimp only at h2
  have h3 := fun (w : World) (b : Nat) (hb : b = w.heap.size) cap => scaled_any 100 10 (some ⟨b, 0, none⟩) [95, 59] cap _ (hb ▸ hi w)
  rw [x4] at h3
  have h4 := fun w => down_any 95 10 w
  rw [x5] at h4
  have H1 := Lib.hid h1
  have H2 := Lib.hid h2
  have H3 := Lib.hid h3
  have H4 := Lib.hid h4
  clear h1 h2 h3 h4 x1 x2 x3 x4 x5 hi
  go_enter Try.func33, Try.ntmps33
  go_wp2_with (first | (go_at_call 35; refine (H1.out _ _).mono ?_; rintro e w1 ⟨p, cap, rfl, hl, hb1⟩) | (go_at_call 37; refine (H2.out _ _).mono ?_; rintro e w2 ⟨rfl, hb2⟩) | (go_at_call 39; refine (H5.out _ _ _ ((hl.below ((Below.refl _ _).alloc (Nat.le_refl _) _)).below hb2)).mono ?_; rintro e w3 ⟨rfl, n, rfl⟩) | (go_at_call 40; refine (H3.out ((w2.alloc (.cells #[.int .i64 60, .int .i64 40] 3)).drewN n) (w2.heap.size + 1) (show w2.heap.size + 1 = (w2.alloc (.cells #[.int .i64 60, .int .i64 40] 3)).heap.size by simp) _).mono ?_; rintro e w4 ⟨rfl, hb4⟩) | (go_at_call 15; refine (H4.out _).mono ?_; rintro e w' ⟨rfl, rfl⟩))
  go_ret
  exact ⟨rfl, by
    have s1 := hb1.size
    rw [World.size_alloc] at s1
    have s2 := hb2.size
    rw [World.size_alloc] at s2
    have b1 := bnext ((Below.refl w.heap.size w).alloc (Nat.le_refl _) _) (by simp) hb1
    have b2 := bnext (b1.alloc (by omega) _) (by simp; omega) hb2
    have b3 := bnext (b2.alloc (by omega) (.cells #[.int .i64 60, .int .i64 40] 3)) (by simp; omega) (drewN_below _ n)
    exact bnext (b3.alloc (show w.heap.size ≤ (w2.alloc (.cells #[.int .i64 60, .int .i64 40] 3)).heap.size by simp; omega) (.cells #[.int .i64 95, .int .i64 59] 3)) (show w.heap.size ≤ ((w2.alloc (.cells #[.int .i64 60, .int .i64 40] 3)).alloc (.cells #[.int .i64 95, .int .i64 59] 3)).heap.size by simp; omega) hb4⟩

theorem amountsL_bd (l : List Int) (a : Nat) : (amountsL l a).length ≤ 7 ∧ ∀ x ∈ amountsL l a, 0 ≤ x ∧ x < 5000 := by
  unfold amountsL
  have h := gives_bd l a (n := 8) (by omega)
  exact ⟨by rw [draws_len]; omega, draws_bd _ _ _ (by omega)⟩

theorem amountsL_good (l : List Int) (a : Nat) {e u : Int} (e0 : 0 ≤ e) (e1 : e ≤ 68719476736) (u0 : 1 ≤ u) (u1 : u ≤ 100000) : En.Good e u (amountsL l a) := by
  obtain ⟨h1, h2⟩ := amountsL_bd l a
  exact ⟨e0, e1, u0, u1, by omega, fun x hx => by have := h2 x hx; omega⟩

theorem amountsL_sum (l : List Int) (a : Nat) : Sh.sum (amountsL l a) ≤ 35000 := by
  obtain ⟨h1, h2⟩ := amountsL_bd l a
  have := Sh.sum_le_len (c := 5000) fun x hx => Int.le_of_lt (h2 x hx).2
  omega

end Go.Proofs.Ytlmikbjnibiajaa
