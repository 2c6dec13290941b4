/-
  PLAIN: the reference's way to share: again and again the best of those that were given nothing yet. It finds the same ones in the same order.
-/
import Derived.Test.YtmgdbbmheiligaaPs
namespace Go.Proofs.Ytmgdbbmheiligaa.Sh

/-- The best of the first j that are not of the first k in the order; -1: there is none. -/
def Best (n : Nat) (r : Nat → Int) (k j : Nat) (b : Int) : Prop :=
  (b = -1 ∧ ∀ i, i < j → top n r k i = true) ∨ ∃ m : Nat, b = m ∧ m < j ∧ top n r k m = false ∧ ∀ i, i < j → top n r k i = false → i = m ∨ before r m i = true

variable {n k j : Nat} {r : Nat → Int} {b : Int}

theorem best_zero : Best n r k 0 (-1) := .inl ⟨rfl, fun i hi => absurd hi (Nat.not_lt_zero i)⟩

theorem best_skip (h : Best n r k j b) (ht : top n r k j = true) : Best n r k (j + 1) b := by
  rcases h with ⟨h1, h2⟩ | ⟨m, h1, h2, h3, h4⟩
  · exact .inl ⟨h1, fun i hi => by
      by_cases e : i = j
      · rw [e]; exact ht
      · exact h2 i (by omega)⟩
  · exact .inr ⟨m, h1, by omega, h3, fun i hi hf => by
      by_cases e : i = j
      · subst e; rw [ht] at hf; cases hf
      · exact h4 i (by omega) hf⟩

theorem best_first (h : Best n r k j b) (hb : b < 0) (ht : top n r k j = false) : Best n r k (j + 1) j := by
  rcases h with ⟨h1, h2⟩ | ⟨m, h1, h2, h3, h4⟩
  · exact .inr ⟨j, rfl, by omega, ht, fun i hi hf => by
      by_cases e : i = j
      · exact .inl e
      · rw [h2 i (by omega)] at hf; cases hf⟩
  · omega

theorem best_more (h : Best n r k j b) (hb : 0 ≤ b) (ht : top n r k j = false) (hr : r b.toNat < r j) : Best n r k (j + 1) j := by
  rcases h with ⟨h1, h2⟩ | ⟨m, rfl, h2, h3, h4⟩
  · omega
  · rw [Int.toNat_natCast] at hr
    refine .inr ⟨j, rfl, by omega, ht, fun i hi hf => ?_⟩
    by_cases e : i = j
    · exact .inl e
    · right
      rcases h4 i (by omega) hf with rfl | h5
      · rw [before_iff]; omega
      · rw [before_iff] at h5 ⊢; omega

theorem best_keep (h : Best n r k j b) (hb : 0 ≤ b) (_ht : top n r k j = false) (hr : ¬ r b.toNat < r j) : Best n r k (j + 1) b := by
  rcases h with ⟨h1, h2⟩ | ⟨m, rfl, h2, h3, h4⟩
  · omega
  · rw [Int.toNat_natCast] at hr
    refine .inr ⟨m, rfl, by omega, h3, fun i hi hf => ?_⟩
    by_cases e : i = j
    · subst e; right; rw [before_iff]; omega
    · exact h4 i (by omega) hf

theorem best_range (h : Best n r k j b) : b = -1 ∨ ∃ m : Nat, b = m ∧ m < j := by
  rcases h with ⟨h1, _⟩ | ⟨m, h1, h2, _⟩
  · exact .inl h1
  · exact .inr ⟨m, h1, h2⟩

theorem best_end (h : Best n r k n b) (hk : k < n) : b = ((order n r).getD k 0 : Nat) := by
  have hkl : k < (order n r).length := by rw [order_len]; exact hk
  have e : (order n r).getD k 0 = (order n r)[k] := by rw [List.getD_eq_getElem?_getD, List.getElem?_eq_getElem hkl]; rfl
  rw [e]
  have h0 := top_at hkl
  have hn := (order_mem n r _).1 (List.getElem_mem hkl)
  rcases h with ⟨_, h2⟩ | ⟨m, rfl, h2, h3, h4⟩
  · rw [h2 _ hn] at h0; cases h0
  · by_cases hm : m = (order n r)[k]
    · rw [hm]
    · exfalso
      have b1 := top_best hkl h2 h3 hm
      rcases h4 _ hn h0 with h5 | h5
      · exact hm h5.symm
      · rw [before_iff] at b1 h5; omega

end Go.Proofs.Ytmgdbbmheiligaa.Sh
