/-
  THE WALKS over reduction.area, ref29.area; what makes a step wrong.
-/
import Derived.Test.YtmgdbbmheiligaaDi
import Derived.Test.YtmgdbbmheiligaaPr
namespace Go.Proofs.Ytmgdbbmheiligaa
open Go.RowKit

theorem area_any (n : Int) (w : World) : Calls Try.prog 74 #[.int .i64 n] w fun e w' => e = .returned (.bool (Re.area n)) ∧ w = w' := by
  by_cases h : 0 ≤ n
  · by_cases h2 : n ≤ 268435456
    · rw [Re.area_iff.2 ⟨h, h2⟩]
      go_enter Try.func74, Try.ntmps74
      go_wp2
      go_ret
      exact ⟨rfl, rfl⟩
    · rw [Re.area_not.2 (.inr (by omega))]
      go_enter Try.func74, Try.ntmps74
      go_wp2
      go_ret
      exact ⟨rfl, rfl⟩
  · rw [Re.area_not.2 (.inl (by omega))]
    go_enter Try.func74, Try.ntmps74
    go_wp2
    go_ret
    exact ⟨rfl, rfl⟩

theorem refarea_any (n : Int) (w : World) : Calls Try.prog 76 #[.int .i64 n] w fun e w' => e = .returned (.bool (Re.area n)) ∧ w = w' := by
  by_cases h : 0 ≤ n
  · by_cases h2 : n ≤ 268435456
    · rw [Re.area_iff.2 ⟨h, h2⟩]
      go_enter Try.func76, Try.ntmps76
      go_wp2
      go_ret
      exact ⟨rfl, rfl⟩
    · rw [Re.area_not.2 (.inr (by omega))]
      go_enter Try.func76, Try.ntmps76
      go_wp2
      go_ret
      exact ⟨rfl, rfl⟩
  · rw [Re.area_not.2 (.inl (by omega))]
    go_enter Try.func76, Try.ntmps76
    go_wp2
    go_ret
    exact ⟨rfl, rfl⟩

theorem de_true {p : Prop} [Decidable p] (h : decide p = true) : p := of_decide_eq_true h
theorem de_false {p : Prop} [Decidable p] (h : decide p = false) : ¬ p := of_decide_eq_false h

/-- What makes step k, (x, y), behind (lx, ly), wrong; and right. -/
theorem stOk {D : List (Int × Int)} {k : Nat} {x y lx ly : Int} (h : D.getD k (0, 0) = (x, y)) (hl : k ≠ 0 → D.getD (k - 1) (0, 0) = (lx, ly)) :
    Re.okAt D k = true ↔ ¬ (x < 0 ∨ 100000 < x ∨ (k ≠ 0 ∧ x ≤ lx)) ∧ ((y = -1 ∧ k + 1 = D.length) ∨ ¬ (y < 0 ∨ 10 < y ∨ (k ≠ 0 ∧ y < ly))) := by
  rw [Re.okAt_iff]
  unfold Re.ab Re.ti
  rw [h]
  by_cases hk : k = 0
  · simp only; omega
  · rw [hl hk]
    simp only
    omega

theorem rchk_bad {D : List (Int × Int)} {k : Nat} (hk : k < D.length) (h : ¬ Re.okAt D k = true) : Re.chk D = 66 := Re.chk_not fun hR => h (hR.ok k hk)

end Go.Proofs.Ytmgdbbmheiligaa
