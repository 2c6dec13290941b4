/-
  THE WALKS over envelope.scaled, Scaled, Factor.
-/
import Derived.Test.YtlmikbjnibiajaaEc
namespace Go.Proofs.Ytlmikbjnibiajaa
open Go.RowKit

theorem scaledu_any (q : Int) (v : Value) (s : Int) (w : World) :
    Calls Try.prog 67 #[.agg #[.int .i64 q, v, .int .i64 s]] w fun en w' => en = .returned (.bool (decide (q < s))) ∧ Below w.heap.size w w' := by
  go_enter Try.func67, Try.ntmps67
  go_wp2
  go_ret
  exact ⟨rfl, by go_grown⟩

set_option maxRecDepth 100000 in
theorem scaled_any (e u : Int) (p : Option Addr) (l : List Int) (cap : Nat) (w : World) (h : Ints w p l) :
    Calls Try.prog 40 #[.int .i64 e, .int .i64 u, .slice p l.length cap] w fun en w' => en = .returned (.bool (En.scaled e u l)) ∧ Below w.heap.size w w' := by
  by_cases hg : En.err e u l = 0
  · have hs : En.scaled e u l = decide (e / u < En.usum u l) := by unfold En.scaled; rw [hg]; rfl
    rw [hs]
    have hc := Lib.hid (count_good e u p l cap w h (En.good_of hg))
    clear h hg hs
    go_enter Try.func40, Try.ntmps40
    go_wp2_with (first | (go_at_call 66; refine (hc.out).mono ?_; rintro en w1 ⟨q, c, rfl, hI, hb1⟩) | (go_at_call 67; refine (scaledu_any _ _ _ _).mono ?_; rintro en w2 ⟨rfl, hb2⟩))
    go_ret
    exact ⟨rfl, bnext (hb1.alloc hb1.size _) (by have := hb1.size; simp; omega) hb2⟩
  · have hs : En.scaled e u l = false := by unfold En.scaled; rw [decide_eq_false hg]; rfl
    rw [hs]
    have hc := Lib.hid (count_bad e u p l cap w h hg)
    clear h hs
    go_enter Try.func40, Try.ntmps40
    go_wp2_with (first | (go_at_call 66; refine (hc.out).mono ?_; rintro en w1 ⟨rfl, hb1⟩))
    go_ret
    exact ⟨rfl, hb1.alloc hb1.size _⟩

set_option maxRecDepth 100000 in
theorem factor_any (e u : Int) (p : Option Addr) (l : List Int) (cap : Nat) (w : World) (h : Ints w p l) :
    Calls Try.prog 37 #[.int .i64 e, .int .i64 u, .slice p l.length cap] w fun en w' => en = .returned (.tuple #[.int .i64 (En.factor e u l).1, .int .i64 (En.factor e u l).2, .int .i64 (En.err e u l)]) ∧ Below w.heap.size w w' := by
  by_cases hg : En.err e u l = 0
  · have hc := Lib.hid (count_good e u p l cap w h (En.good_of hg))
    by_cases hq : e / u < En.usum u l
    · have hs : En.factor e u l = (e / u, En.usum u l) := by unfold En.factor; rw [if_pos hg, if_pos hq]
      rw [hs, hg]
      have hd : decide (e / u < En.usum u l) = true := decide_eq_true hq
      clear h hg hs
      go_enter Try.func37, Try.ntmps37
      go_wp2_with (first | (go_at_call 66; refine (hc.out).mono ?_; rintro en w1 ⟨q, c, rfl, hI, hb1⟩) | (go_at_call 67; refine (scaledu_any _ _ _ _).mono ?_; rintro en w2 ⟨rfl, hb2⟩))
      have k0 := (hb2.cell (p := ⟨w1.heap.size, 0, none⟩) (by simp)).trans (show _ = some (Value.int .i64 (e / u)) by go_simp)
      have k2 := (hb2.cell (p := ⟨w1.heap.size, 2, none⟩) (by simp)).trans (show _ = some (Value.int .i64 (En.usum u l)) by go_simp)
      go_region
      go_wp2
      go_ret3
      exact ⟨rfl, bnext (hb1.alloc hb1.size _) (by have := hb1.size; simp; omega) hb2.drew⟩
    · have hs : En.factor e u l = (1, 1) := by unfold En.factor; rw [if_pos hg, if_neg hq]
      rw [hs, hg]
      have hd : decide (e / u < En.usum u l) = false := decide_eq_false hq
      clear h hg hs
      go_enter Try.func37, Try.ntmps37
      go_wp2_with (first | (go_at_call 66; refine (hc.out).mono ?_; rintro en w1 ⟨q, c, rfl, hI, hb1⟩) | (go_at_call 67; refine (scaledu_any _ _ _ _).mono ?_; rintro en w2 ⟨rfl, hb2⟩))
      go_ret3
      exact ⟨rfl, bnext (hb1.alloc hb1.size _) (by have := hb1.size; simp; omega) hb2⟩
  · have hs : En.factor e u l = (0, 0) := by unfold En.factor; rw [if_neg hg]
    rw [hs]
    have hc := Lib.hid (count_bad e u p l cap w h hg)
    clear h hs
    go_enter Try.func37, Try.ntmps37
    go_wp2_with (first | (go_at_call 66; refine (hc.out).mono ?_; rintro en w1 ⟨rfl, hb1⟩))
    go_ret3
    exact ⟨rfl, hb1.alloc hb1.size _⟩

end Go.Proofs.Ytlmikbjnibiajaa
