/-
  PACKED (pack8.py): what is needed of the texts Xp, Xr.
-/
import Derived.Test.YtmlfcpglhipjgaaGreatM34
import Derived.Test.YtmlfcpglhipjgaaGreatM37
namespace Go.Proofs.YtmlfcpglhipjgaaGreat.Re
open Go.RowKit Sc As
def farmsOf (F G : List FarmF) : List Int := Go.Lib.compact (((F ++ G).map (·.farm)).mergeSort fun x y => decide (x ≤ y))
def movedP (l : YLaw) (F G : List FarmF) (farm : Int) : Prop := (fac l F).1 ≠ (fac l G).1 ∨ (fac l F).2 ≠ (fac l G).2 ∨ ((dvd l F = true ∨ dvd l G = true) ∧ others (assess l F) farm ≠ others (assess l G) farm)
open Classical in
noncomputable def movedCh (l : YLaw) (F G : List FarmF) (farm : Int) : List Chg := if movedP l F G farm then [⟨8, -1⟩] else []
noncomputable def dif (l : YLaw) (F G : List FarmF) (farm : Int) : Dif := ⟨farm, amount (assess l F) farm, amount (assess l G) farm, farmCh (findF F farm) (findF G farm) ++ movedCh l F G farm⟩
noncomputable def difOf (l : YLaw) (F G : List FarmF) (farm : Int) : List Dif := if amount (assess l F) farm = amount (assess l G) farm then [] else [dif l F G farm]
noncomputable def difs (l : YLaw) (F G : List FarmF) : List Dif := (farmsOf F G).flatMap (difOf l F G)
theorem difs_take {l : YLaw} {F G : List FarmF} {L : List Int} {k : Nat} (hk : k < L.length) : (L.take (k + 1)).flatMap (difOf l F G) = (L.take k).flatMap (difOf l F G) ++ difOf l F G L[k] := by
 rw [tsg hk, List.flatMap_append, List.flatMap_singleton]
theorem farmsOf_len (F G : List FarmF) : (farmsOf F G).length ≤ F.length + G.length := by
 have h : ∀ zs : List Int, (Go.Lib.compact zs).length ≤ zs.length := fun zs => by
  unfold Go.Lib.compact Go.Lib.compactUpTo; rw [List.length_map]; exact Nat.le_trans (List.length_filter_le _ _) (by rw [List.length_range]; exact Nat.le_refl _)
 have := h (((F ++ G).map (·.farm)).mergeSort fun x y => decide (x ≤ y)); rw [List.length_mergeSort, List.length_map, lap] at this; exact this
theorem fok0 {l : YLaw} {F : List FarmF} (h0 : assErr l F = 0) : FOk l F := fOk (by
 by_cases h : chkF l F ≠ 0
 ·unfold assErr at h0; rw [if_pos h] at h0; exact h0
 ·omega)
theorem falls0 {l : YLaw} {F : List FarmF} (h0 : assErr l F = 0) : Falls l (assess l F) := As.falls (fok0 h0) h0
theorem due0 {l : YLaw} {F : List FarmF} (h0 : assErr l F = 0) : Due (assess l F) := (falls0 h0).due
end Go.Proofs.YtmlfcpglhipjgaaGreat.Re
