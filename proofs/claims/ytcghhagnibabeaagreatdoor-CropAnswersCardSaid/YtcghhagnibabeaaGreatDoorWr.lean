/-
  PLAIN: whether a text has a byte of some kind, as the library asks by runes.
-/
import Derived.Shelf.GgClosure.StringsIndexFunc
import Derived.Laws.RangeAny
import Derived.Laws.RangeString
namespace Go.Proofs.YtcghhagnibabeaaGreatDoor
namespace Wo
open Go.Lib

theorem idxFrom_any (p : Nat → Bool) (hp : ∀ x, 128 ≤ x → p x = true) (s : ByteArray) : ∀ (f pos : Nat), s.size ≤ pos + f → decide (0 ≤ idxFuncFrom p true s f pos) = (s.data.toList.drop pos).any fun c => p c.toNat
  | 0, pos, h => by
    have : s.data.toList.drop pos = [] := List.drop_of_length_le (by rw [Array.length_toList]; exact h)
    rw [this]
    simp [idxFuncFrom]
  | f + 1, pos, h => by
    unfold idxFuncFrom
    by_cases hlt : pos < s.size
    · have hd : s.data.toList.drop pos = s[pos] :: s.data.toList.drop (pos + 1) := by
        rw [List.drop_eq_getElem_cons (by simpa using hlt)]; rfl
      rw [if_pos hlt, hd, List.any_cons]
      by_cases ha : (s[pos]).toNat < 128
      · rw [decode_ascii s pos hlt ha]
        by_cases hq : p (s[pos]).toNat = true
        · rw [if_pos hq, hq]; simp
        · rw [if_neg hq, idxFrom_any p hp s f (pos + 1) (by omega)]
          rw [Bool.not_eq_true] at hq
          rw [hq, Bool.false_or]
      · have hq := hp _ (decode_high s pos hlt (by omega)).1
        rw [if_pos hq, hp (s[pos]).toNat (by omega)]; simp
    · have : s.data.toList.drop pos = [] := List.drop_of_length_le (by rw [Array.length_toList]; exact Nat.le_of_not_lt hlt)
      rw [if_neg hlt, this]; simp

/-- strings.ContainsFunc, where each rune of 128 or more is one. -/
theorem contains_any (p : Nat → Bool) (hp : ∀ x, 128 ≤ x → p x = true) (s : ByteArray) : decide (0 ≤ idxFunc p true s) = s.data.toList.any fun c => p c.toNat := by
  unfold idxFunc
  rw [idxFrom_any p hp s s.size 0 (by omega)]
  rfl

end Wo
end Go.Proofs.YtcghhagnibabeaaGreatDoor
