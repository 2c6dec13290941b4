/-
  PLAIN: the laws of package envelope: what is paid is within the envelope, and the like. No program in sight.
-/
import Derived.Test.YtlmikbjnibiajaaEw
namespace Go.Proofs.Ytlmikbjnibiajaa.Sh

variable {t : Int} {ws : List Int}

/-- A share is less than one away from its exact value. -/
theorem Right.share_cut (h : Right t ws) {i : Nat} (hi : i < ws.length) : t * ws.getD i 0 - sum ws < share t ws i * sum ws ∧ share t ws i * sum ws < t * ws.getD i 0 + sum ws := by
  have e1 := Int.emod_add_ediv_mul (t * ws.getD i 0) (sum ws)
  have r0 := h.rest0 i
  have r1 := h.rest1 i
  have hp := h.pos
  unfold share
  have hq : quo t ws i = t * ws.getD i 0 / sum ws := rfl
  have hr : rest t ws i = t * ws.getD i 0 % sum ws := rfl
  rw [← hq, ← hr] at e1
  by_cases hz : rest t ws i = 0
  · rw [top_none (s := sum ws) (Nat.le_of_lt h.left_lt) (fun i _ => h.rest0 i) (fun i _ => h.rest1 i) h.left_eq.2 h.pos hi hz]
    simp only [Bool.false_eq_true, if_false, Int.add_zero]
    omega
  · split
    · rw [Int.add_mul, Int.one_mul]; omega
    · rw [Int.add_zero]; omega

/-- A share of less than all weights together is at most its weight. -/
theorem Right.share_le (h : Right t ws) (hlt : t < sum ws) {i : Nat} (hi : i < ws.length) : share t ws i ≤ ws.getD i 0 := by
  by_cases hz : ws.getD i 0 = 0
  · rw [h.share_zero hi hz, hz]; exact Int.le_refl _
  · have w0 := h.w0 i
    have hq : quo t ws i < ws.getD i 0 := by
      unfold quo
      rw [Int.ediv_lt_iff_lt_mul h.pos, Int.mul_comm]
      exact Int.mul_lt_mul_of_pos_left hlt (by omega)
    unfold share
    split <;> omega

end Go.Proofs.Ytlmikbjnibiajaa.Sh

namespace Go.Proofs.Ytlmikbjnibiajaa.En
variable {e u : Int} {l : List Int}

theorem div_le {e u : Int} (h0 : 0 ≤ e) : e / u ≤ e := Int.ediv_le_self u h0

/-- The shares where the envelope is divided. -/
theorem Good.right (h : Good e u l) (hq : e / u < En.usum u l) : Sh.Right (e / u) (units u l) ∧ shList (e / u) (units u l) = Sh.shares (e / u) (units u l) := by
  have hE := units_ok h
  have e0 : 0 ≤ e / u := Int.ediv_nonneg h.e0 (by have := h.u0; omega)
  have hs : Sh.sum (units u l) ≠ 0 := by unfold En.usum at hq; omega
  have h1 : ¬ 64 < (units u l).length := by rw [units_len]; have := h.len; omega
  have h2 : ¬ (Sh.limited (e / u) = false ∨ ((units u l).any fun x => !Sh.limited x) = true) := fun hh => by unfold shErr at hE; rw [if_neg h1, if_pos hh] at hE; omega
  refine ⟨any_odd (by simpa using fun h => h2 (.inl h)) (by simpa using fun h => h2 (.inr h)) hs, ?_⟩
  unfold shList
  rw [if_neg (by rw [hE]; simp), if_neg hs]

theorem Good.paid_scaled (h : Good e u l) (hq : e / u < En.usum u l) : paid e u l = Sh.shares (e / u) (units u l) := by
  unfold paid; rw [if_pos hq]; exact (h.right hq).2

theorem paid_enough (hq : ¬ e / u < En.usum u l) : paid e u l = units u l := by unfold paid; rw [if_neg hq]

theorem shares_getD (t : Int) (ws : List Int) (i : Nat) (hi : i < ws.length) : (Sh.shares t ws).getD i 0 = Sh.share t ws i := by
  unfold Sh.shares; exact getD_map_range _ _ _ hi

theorem units_getD (i : Nat) (hi : i < l.length) : (units u l).getD i 0 = l.getD i 0 / u := by
  unfold units; simp [List.getD_eq_getElem?_getD, hi]

theorem Good.paid_len (h : Good e u l) : (paid e u l).length = l.length := by
  by_cases hq : e / u < En.usum u l
  · rw [h.paid_scaled hq]; unfold Sh.shares; simp [units_len]
  · rw [paid_enough hq, units_len]

theorem Good.scale_eq (h : Good e u l) : scale e u l = (paid e u l).map fun x => x * u := by unfold scale; rw [if_pos (err_of h)]

theorem Good.scale_len (h : Good e u l) : (scale e u l).length = l.length := by rw [h.scale_eq, List.length_map, h.paid_len]

theorem Good.scale_getD (h : Good e u l) (i : Nat) (hi : i < l.length) : (scale e u l).getD i 0 = (paid e u l).getD i 0 * u := by
  have hl := h.paid_len
  rw [h.scale_eq]
  simp [List.getD_eq_getElem?_getD, hl, hi]

theorem Good.at (h : Good e u l) (i : Nat) (hi : i < l.length) : 0 ≤ l.getD i 0 ∧ l.getD i 0 ≤ 68719476736 := by
  rw [List.getD_eq_getElem?_getD, List.getElem?_eq_getElem hi]; exact h.all _ (List.getElem_mem hi)

theorem Good.paid_bd (h : Good e u l) (i : Nat) (hi : i < l.length) : 0 ≤ (paid e u l).getD i 0 ∧ (paid e u l).getD i 0 ≤ l.getD i 0 / u := by
  have hu := h.unit
  by_cases hq : e / u < En.usum u l
  · have hR := (h.right hq).1
    rw [h.paid_scaled hq, shares_getD _ _ _ (by rw [units_len]; exact hi), ← units_getD i hi]
    exact ⟨(hR.share_bd i).1, hR.share_le hq (by rw [units_len]; exact hi)⟩
  · rw [paid_enough hq, units_getD i hi]
    exact ⟨Int.ediv_nonneg (h.at i hi).1 (by have := h.u0; omega), Int.le_refl _⟩

theorem Good.paid_mono (h : Good e u l) (i k : Nat) (hi : i < l.length) (hk : k < l.length) (hlt : l.getD k 0 / u < l.getD i 0 / u) : (paid e u l).getD k 0 ≤ (paid e u l).getD i 0 := by
  by_cases hq : e / u < En.usum u l
  · have hR := (h.right hq).1
    rw [h.paid_scaled hq, shares_getD _ _ i (by rw [units_len]; exact hi), shares_getD _ _ k (by rw [units_len]; exact hk)]
    exact hR.share_mono (by rw [units_len]; exact hk) (by rw [units_len]; exact hi) (by rw [units_getD k hk, units_getD i hi]; exact hlt)
  · rw [paid_enough hq, units_getD i hi, units_getD k hk]; omega

theorem Good.paid_sum (h : Good e u l) : Sh.sum (paid e u l) ≤ e / u ∧ (e / u < En.usum u l → Sh.sum (paid e u l) = e / u) ∧ (¬ e / u < En.usum u l → Sh.sum (paid e u l) = En.usum u l) := by
  by_cases hq : e / u < En.usum u l
  · have hR := (h.right hq).1
    rw [h.paid_scaled hq, hR.total]
    exact ⟨Int.le_refl _, fun _ => rfl, fun hn => absurd hq hn⟩
  · rw [paid_enough hq]
    exact ⟨by unfold En.usum at hq; omega, fun hn => absurd hn hq, fun _ => rfl⟩

theorem Good.scale_sum (h : Good e u l) : Sh.sum (scale e u l) = u * Sh.sum (paid e u l) := by
  have e1 := Sh.sum_map_mul u (fun x => x) (paid e u l)
  rw [List.map_id'] at e1
  rw [h.scale_eq, ← e1]
  congr 1
  apply List.map_congr_left
  intro x _
  exact Int.mul_comm _ _

/-- T6, as one list of facts. -/
structure Keeps (e u : Int) (l s : List Int) : Prop where
  len : s.length = l.length
  at_ : ∀ i, i < l.length → 0 ≤ s.getD i 0 ∧ s.getD i 0 ≤ l.getD i 0 ∧ s.getD i 0 % u = 0
  mono : ∀ i k, i < l.length → k < l.length → l.getD k 0 / u < l.getD i 0 / u → s.getD k 0 ≤ s.getD i 0
  sum : Sh.sum s ≤ e
  near : scaled e u l = true → e - Sh.sum s < u

theorem Good.keeps (h : Good e u l) : Keeps e u l (scale e u l) := by
  have u0 := h.u0
  have hs := h.paid_sum
  have hd := Int.emod_add_mul_ediv e u
  have r0 := Int.emod_nonneg e (show u ≠ 0 by omega)
  have r1 := Int.emod_lt_of_pos e (show 0 < u by omega)
  refine ⟨h.scale_len, fun i hi => ?_, fun i k hi hk hlt => ?_, ?_, fun hsc => ?_⟩
  · have hb := h.paid_bd i hi
    have ha := h.at i hi
    rw [h.scale_getD i hi]
    refine ⟨Int.mul_nonneg hb.1 (by omega), ?_, Int.mul_emod_left _ _⟩
    have h1 : (paid e u l).getD i 0 * u ≤ l.getD i 0 / u * u := Int.mul_le_mul_of_nonneg_right hb.2 (by omega)
    have h2 := Int.ediv_mul_le (l.getD i 0) (show u ≠ 0 by omega)
    omega
  · rw [h.scale_getD i hi, h.scale_getD k hk]
    exact Int.mul_le_mul_of_nonneg_right (h.paid_mono i k hi hk hlt) (by omega)
  · rw [h.scale_sum]
    have : u * Sh.sum (paid e u l) ≤ u * (e / u) := Int.mul_le_mul_of_nonneg_left hs.1 (by omega)
    omega
  · have hq : e / u < En.usum u l := by
      unfold scaled at hsc
      simp only [Bool.and_eq_true, decide_eq_true_eq] at hsc
      exact hsc.2
    rw [h.scale_sum, hs.2.1 hq]
    omega

theorem usum_le (hu : 1 ≤ u) (_h : ∀ x ∈ l, 0 ≤ x) : u * En.usum u l ≤ Sh.sum l := by
  unfold En.usum units
  rw [← Sh.sum_map_mul]
  have := Sh.sum_map_le (f := fun x => u * (x / u)) (g := fun x => x) (l := l) fun x hx => by
    have := Int.ediv_mul_le x (show u ≠ 0 by omega)
    rw [Int.mul_comm]; exact this
  simpa using this

/-- Without a need to scale. -/
theorem Good.enough (h : Good e u l) (hle : Sh.sum l ≤ e) : scaled e u l = false ∧ factor e u l = (1, 1) ∧ ∀ i, i < l.length → (scale e u l).getD i 0 = l.getD i 0 - l.getD i 0 % u := by
  have u0 := h.u0
  have h1 := usum_le u0 fun x hx => (h.all x hx).1
  have hq : ¬ e / u < En.usum u l := by
    rw [Int.ediv_lt_iff_lt_mul (by omega), Int.mul_comm]
    omega
  refine ⟨?_, ?_, fun i hi => ?_⟩
  · unfold scaled; rw [decide_eq_false hq, Bool.and_false]
  · unfold factor; rw [if_pos (err_of h), if_neg hq]
  · rw [h.scale_getD i hi, paid_enough hq, units_getD i hi]
    have := Int.emod_add_ediv_mul (l.getD i 0) u
    omega

/-- With a greater envelope. -/
theorem Good.grows {f : Int} (h : Good e u l) (h2 : Good f u l) (hef : e ≤ f) : (∀ i, i < l.length → (scale e u l).getD i 0 - u ≤ (scale f u l).getD i 0) ∧ Sh.sum (scale e u l) ≤ Sh.sum (scale f u l) := by
  have u0 := h.u0
  have hE : e / u ≤ f / u := Int.ediv_le_ediv (by omega) hef
  have hs1 := h.paid_sum
  have hs2 := h2.paid_sum
  refine ⟨fun i hi => ?_, ?_⟩
  · rw [h.scale_getD i hi, h2.scale_getD i hi]
    have hg : (paid e u l).getD i 0 - 1 ≤ (paid f u l).getD i 0 := by
      by_cases hq : e / u < En.usum u l
      · by_cases hq2 : f / u < En.usum u l
        · have hR := (h.right hq).1
          have hR2 := (h2.right hq2).1
          have hi' : i < (units u l).length := by rw [units_len]; exact hi
          rw [h.paid_scaled hq, h2.paid_scaled hq2, shares_getD _ _ _ hi', shares_getD _ _ _ hi']
          have hm : Sh.quo (e / u) (units u l) i ≤ Sh.quo (f / u) (units u l) i := by
            unfold Sh.quo
            exact Int.ediv_le_ediv hR.pos (Int.mul_le_mul_of_nonneg_right hE (hR.w0 i))
          unfold Sh.share
          split <;> split <;> omega
        · have := h.paid_bd i hi
          rw [paid_enough hq2, units_getD i hi]
          omega
      · rw [paid_enough hq, paid_enough (fun hq2 => hq (by omega))]
        omega
    have : ((paid e u l).getD i 0 - 1) * u ≤ (paid f u l).getD i 0 * u := Int.mul_le_mul_of_nonneg_right hg (by omega)
    rw [Int.sub_mul, Int.one_mul] at this
    exact this
  · rw [h.scale_sum, h2.scale_sum]
    refine Int.mul_le_mul_of_nonneg_left ?_ (by omega)
    by_cases hq : e / u < En.usum u l
    · by_cases hq2 : f / u < En.usum u l
      · rw [hs1.2.1 hq, hs2.2.1 hq2]; exact hE
      · rw [hs1.2.1 hq, hs2.2.2 hq2]; omega
    · rw [hs1.2.2 hq, hs2.2.2 (fun hq2 => hq (by omega))]; exact Int.le_refl _

theorem units_one : units 1 l = l := by unfold units; simp

theorem Good.factor_bd (h : Good e u l) : 1 ≤ (factor e u l).2 ∧ (factor e u l).2 ≤ 4398046511104 ∧ 0 ≤ (factor e u l).1 ∧ (factor e u l).1 ≤ 68719476736 := by
  have e0 : 0 ≤ e / u := Int.ediv_nonneg h.e0 (by have := h.u0; omega)
  have e1 := Int.ediv_le_self u h.e0
  have e2 := h.e1
  have hu := h.usum l.length
  rw [List.take_length] at hu
  unfold factor
  rw [if_pos (err_of h)]
  split <;> simp only <;> omega

/-- The factor, to within one unit. -/
theorem Good.cut (h : Good e 1 l) (i : Nat) (hi : i < l.length) : l.getD i 0 * (factor e 1 l).1 - (factor e 1 l).2 < (scale e 1 l).getD i 0 * (factor e 1 l).2 ∧ (scale e 1 l).getD i 0 * (factor e 1 l).2 < l.getD i 0 * (factor e 1 l).1 + (factor e 1 l).2 := by
  have ha := h.at i hi
  rw [h.scale_getD i hi, Int.mul_one]
  have e0 := h.e0
  have e1 := h.e1
  by_cases hq : e / 1 < En.usum 1 l
  · have hR := (h.right hq).1
    have hf : factor e 1 l = (e, En.usum 1 l) := by unfold factor; rw [if_pos (err_of h), if_pos hq, Int.ediv_one]
    have hu := h.usum l.length
    rw [List.take_length] at hu
    rw [hf, h.paid_scaled hq, shares_getD _ _ _ (by rw [units_len]; exact hi)]
    have hc := hR.share_cut (i := i) (by rw [units_len]; exact hi)
    rw [Int.ediv_one] at hc hq ⊢
    rw [units_one] at hc ⊢
    have hus : En.usum 1 l = Sh.sum l := by unfold En.usum; rw [units_one]
    rw [hus] at hq hu ⊢
    rw [Int.mul_comm (l.getD i 0)]
    exact hc
  · have hf : factor e 1 l = (1, 1) := by unfold factor; rw [if_pos (err_of h), if_neg hq]
    rw [hf, paid_enough hq, units_one]
    simp only [Int.mul_one]
    omega

end Go.Proofs.Ytlmikbjnibiajaa.En
