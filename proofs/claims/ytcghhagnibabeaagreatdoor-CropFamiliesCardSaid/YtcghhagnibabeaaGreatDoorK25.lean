/-
  PLAIN: the crops of all families are all crops, each once; a crop has marks if it has each of them.
-/
import Derived.Test.YtcghhagnibabeaaGreatDoorMC
namespace Go.Proofs.YtcghhagnibabeaaGreatDoor
namespace Cr

theorem kinTo_mem {L : List Crp} {f : Int} {n : Nat} {x : Int} : x ∈ kinTo L f n ↔ ∃ i : Nat, i < n ∧ x = (i : Int) ∧ famAt L (i : Int) = f := by
  unfold kinTo
  rw [List.mem_flatMap]
  constructor
  · rintro ⟨i, hi, hx⟩
    split at hx
    · exact ⟨i, List.mem_range.1 hi, List.mem_singleton.1 hx, by assumption⟩
    · cases hx
  · rintro ⟨i, hi, rfl, e⟩
    exact ⟨i, List.mem_range.2 hi, by rw [if_pos e]; simp⟩

theorem kinTo_asc (L : List Crp) (f : Int) : ∀ n, (kinTo L f n).Pairwise (fun a b => a < b)
  | 0 => List.Pairwise.nil
  | n + 1 => by
    rw [kinTo_succ, List.pairwise_append]
    refine ⟨kinTo_asc L f n, ?_, fun a ha b hb => ?_⟩
    · split
      · exact List.pairwise_singleton _ _
      · exact List.Pairwise.nil
    · obtain ⟨i, hi, rfl, -⟩ := kinTo_mem.1 ha
      split at hb
      · obtain rfl := List.mem_singleton.1 hb
        omega
      · cases hb

/-- How often a crop was seen: behind the families below f, and j of the family f. -/
def seenF (L : List Crp) (f : Int) (j i : Nat) : Int := if famAt L (i : Int) < f ∨ (i : Int) ∈ (kinTo L f L.length).take j then 1 else 0

theorem seenF_next {L : List Crp} {f : Int} {j : Nat} (hj : j < (kinTo L f L.length).length) {x : Nat} (hx : (kinTo L f L.length)[j] = (x : Int)) :
    famAt L (x : Int) = f ∧ x < L.length ∧ seenF L f j x = 0 ∧ ∀ i, i < L.length → seenF L f (j + 1) i = if i = x then 1 else seenF L f j i := by
  have hm : (x : Int) ∈ kinTo L f L.length := hx ▸ List.getElem_mem hj
  obtain ⟨i0, h0, e0, hf⟩ := kinTo_mem.1 hm
  have : x = i0 := by omega
  subst this
  have hnot : (x : Int) ∉ (kinTo L f L.length).take j := by
    intro h
    obtain ⟨q, hq, e⟩ := List.mem_iff_getElem.1 h
    rw [List.getElem_take] at e
    rw [List.length_take] at hq
    have := List.pairwise_iff_getElem.1 (kinTo_asc L f L.length) q j (by omega) hj (by omega)
    rw [e, hx] at this
    omega
  refine ⟨hf, h0, ?_, fun i hi => ?_⟩
  · unfold seenF
    rw [if_neg (by rintro (h | h); · omega
                   · exact hnot h)]
  · unfold seenF
    have e : (kinTo L f L.length).take (j + 1) = (kinTo L f L.length).take j ++ [(x : Int)] := by
      rw [List.take_succ_eq_append_getElem hj, hx]
    rw [e]
    by_cases hix : i = x
    · subst hix
      rw [if_pos rfl, if_pos (.inr (by simp))]
    · rw [if_neg hix]
      have : (i : Int) ∈ (kinTo L f L.length).take j ++ [(x : Int)] ↔ (i : Int) ∈ (kinTo L f L.length).take j := by
        rw [List.mem_append]
        constructor
        · rintro (h | h)
          · exact h
          · exact absurd (List.mem_singleton.1 h) (by omega)
        · exact .inl
      by_cases h : famAt L (i : Int) < f ∨ (i : Int) ∈ (kinTo L f L.length).take j
      · rw [if_pos h, if_pos (h.imp id this.2)]
      · rw [if_neg h, if_neg (fun k => h (k.imp id this.1))]

theorem seenF_end (L : List Crp) (f : Int) (i : Nat) (hi : i < L.length) : seenF L f (kinTo L f L.length).length i = seenF L (f + 1) 0 i := by
  unfold seenF
  rw [List.take_length, List.take_zero]
  have : (famAt L (i : Int) < f ∨ (i : Int) ∈ kinTo L f L.length) ↔ (famAt L (i : Int) < f + 1 ∨ (i : Int) ∈ ([] : List Int)) := by
    rw [kinTo_mem]
    constructor
    · rintro (h | ⟨i0, -, e, hf⟩)
      · exact .inl (by omega)
      · have : i = i0 := by omega
        subst this
        exact .inl (by omega)
    · rintro (h | h)
      · by_cases hf : famAt L (i : Int) = f
        · exact .inr ⟨i, hi, rfl, hf⟩
        · exact .inl (by omega)
      · cases h
  by_cases h : famAt L (i : Int) < f ∨ (i : Int) ∈ kinTo L f L.length
  · rw [if_pos h, if_pos (this.1 h)]
  · rw [if_neg h, if_neg (fun k => h (this.2 k))]

theorem seenF_zero {L : List Crp} (h : ∀ c ∈ L, 0 ≤ c.fam) (i : Nat) (hi : i < L.length) : seenF L 0 0 i = 0 := by
  unfold seenF
  rw [if_neg]
  rintro (k | k)
  · unfold famAt at k
    rw [Int.toNat_natCast, List.getElem?_eq_getElem hi] at k
    have := h _ (List.getElem_mem hi)
    simp only at k
    omega
  · simp at k

theorem seenF_all {L : List Crp} (h : ∀ c ∈ L, c.fam ≤ 40) (i : Nat) (hi : i < L.length) : seenF L 41 0 i = 1 := by
  unfold seenF
  rw [if_pos]
  left
  unfold famAt
  rw [Int.toNat_natCast, List.getElem?_eq_getElem hi]
  have := h _ (List.getElem_mem hi)
  simp only
  omega

/-- Of a set m of marks the first k are there. -/
def allM (a m : Nat) : Nat → Bool
  | 0 => true
  | k + 1 => allM a m k && (m / 2 ^ k % 2 == 0 || a / 2 ^ k % 2 == 1)

theorem allM_has : ∀ a, a < 32 → ∀ m, m < 32 → (bits .and .i64 ((a : Nat) : Int) ((m : Nat) : Int) == ((m : Nat) : Int)) = allM a m 5 := by decide +kernel
theorem has_bit : ∀ a, a < 32 → ∀ k, k < 5 → (bits .and .i64 ((a : Nat) : Int) ((2 ^ k : Nat) : Int) == ((2 ^ k : Nat) : Int)) = (a / 2 ^ k % 2 == 1) := by decide +kernel

end Cr
end Go.Proofs.YtcghhagnibabeaaGreatDoor
