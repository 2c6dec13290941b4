/-
  PLAIN: what package reduction computes, and its laws. No program in sight.
-/
import Derived.Test.YtmgdbbmheiligaaPd
namespace Go.Proofs.Ytmgdbbmheiligaa.Re

def ab (l : List (Int × Int)) (i : Nat) : Int := (l.getD i (0, 0)).1
def ti (l : List (Int × Int)) (i : Nat) : Int := (l.getD i (0, 0)).2

/-- Step i of a law is right. -/
def okAt (l : List (Int × Int)) (i : Nat) : Bool :=
  decide (0 ≤ ab l i) && decide (ab l i ≤ 100000) && (decide (i = 0) || decide (ab l (i - 1) < ab l i)) &&
  ((decide (ti l i = -1) && decide (i + 1 = l.length)) || (decide (0 ≤ ti l i) && decide (ti l i ≤ 10) && (decide (i = 0) || decide (ti l (i - 1) ≤ ti l i))))

structure Right (l : List (Int × Int)) : Prop where
  len1 : 1 ≤ l.length
  len : l.length ≤ 6
  ok : ∀ i, i < l.length → okAt l i = true

def chk (l : List (Int × Int)) : Int := if 1 ≤ l.length ∧ l.length ≤ 6 ∧ ((List.range l.length).all (okAt l)) = true then 0 else 66

variable {l : List (Int × Int)}

theorem chk_zero : chk l = 0 ↔ Right l := by
  unfold chk
  constructor
  · intro h
    split at h
    · rename_i hc
      exact ⟨hc.1, hc.2.1, fun i hi => List.all_eq_true.1 hc.2.2 i (List.mem_range.2 hi)⟩
    · omega
  · intro h
    rw [if_pos ⟨h.len1, h.len, List.all_eq_true.2 fun i hi => h.ok i (List.mem_range.1 hi)⟩]

theorem chk_not (h : ¬ Right l) : chk l = 66 := by
  unfold chk
  rw [if_neg]
  exact fun hc => h ⟨hc.1, hc.2.1, fun i hi => List.all_eq_true.1 hc.2.2 i (List.mem_range.2 hi)⟩

theorem okAt_iff {i : Nat} : okAt l i = true ↔ (0 ≤ ab l i ∧ ab l i ≤ 100000) ∧ (i = 0 ∨ ab l (i - 1) < ab l i) ∧ ((ti l i = -1 ∧ i + 1 = l.length) ∨ ((0 ≤ ti l i ∧ ti l i ≤ 10) ∧ (i = 0 ∨ ti l (i - 1) ≤ ti l i))) := by
  unfold okAt
  simp only [Bool.and_eq_true, Bool.or_eq_true, decide_eq_true_eq, and_assoc]

theorem Right.ab0 (h : Right l) {i : Nat} (hi : i < l.length) : 0 ≤ ab l i ∧ ab l i ≤ 100000 := (okAt_iff.1 (h.ok i hi)).1
theorem Right.ab_step (h : Right l) {i : Nat} (hi : i + 1 < l.length) : ab l i < ab l (i + 1) := by
  rcases (okAt_iff.1 (h.ok (i + 1) hi)).2.1 with h | h
  · omega
  · exact h
theorem Right.ti0 (h : Right l) {i : Nat} (hi : i < l.length) : (ti l i = -1 ∧ i + 1 = l.length) ∨ 0 ≤ ti l i ∧ ti l i ≤ 10 := by
  rcases (okAt_iff.1 (h.ok i hi)).2.2 with h | h
  · exact .inl h
  · exact .inr h.1
theorem Right.ti_step (h : Right l) {i : Nat} (hi : i + 1 < l.length) (hn : ti l (i + 1) ≠ -1) : ti l i ≤ ti l (i + 1) := by
  rcases (okAt_iff.1 (h.ok (i + 1) hi)).2.2 with h | h
  · exact absurd h.1 hn
  · rcases h.2 with h | h
    · omega
    · exact h

theorem Right.ti_mono (h : Right l) {i j : Nat} (hij : i ≤ j) (hj : j < l.length) (hn : ti l j ≠ -1) : ti l i ≤ ti l j := by
  obtain ⟨n, rfl⟩ : ∃ n, j = i + n := ⟨j - i, by omega⟩
  clear hij
  induction n with
  | zero => exact Int.le_refl _
  | succ n ih =>
    have h1 : ti l (i + n) ≠ -1 := by
      rcases h.ti0 (show i + n < l.length by omega) with h | h <;> omega
    have := ih (by omega) h1
    have := h.ti_step (i := i + n) (by omega) hn
    show ti l i ≤ ti l (i + n + 1)
    omega

def area (n : Int) : Bool := decide (0 ≤ n) && decide (n ≤ 268435456)
theorem area_iff {n : Int} : area n = true ↔ 0 ≤ n ∧ n ≤ 268435456 := by unfold area; simp
theorem area_not {n : Int} : area n = false ↔ n < 0 ∨ 268435456 < n := by rw [← Bool.not_eq_true, area_iff]; omega

def holds (l : List (Int × Int)) (d f : Int) (i : Nat) : Bool := decide (ab l i * f < 1000 * max 0 (d - f))

/-- The last of the first k steps that holds; -1: none does. -/
def stepTo (l : List (Int × Int)) (d f : Int) : Nat → Int
  | 0 => -1
  | k + 1 => if holds l d f k = true then k else stepTo l d f k

def step (l : List (Int × Int)) (d f : Int) : Int := stepTo l d f l.length
def stepV (l : List (Int × Int)) (d f : Int) : Int := if chk l ≠ 0 ∨ area d = false ∨ area f = false then -1 else step l d f
def paid (l : List (Int × Int)) (d f : Int) : Int :=
  if d ≤ f then d else if step l d f < 0 then f else if ti l (step l d f).toNat = -1 then 0 else max 0 (f - ti l (step l d f).toNat * (d - f))
def paidErr (l : List (Int × Int)) (d f : Int) : Int := if chk l ≠ 0 then 66 else if area d = false ∨ area f = false then 2 else 0
def paidVal (l : List (Int × Int)) (d f : Int) : Int := if paidErr l d f ≠ 0 then 0 else paid l d f

variable {d f : Int}

theorem stepTo_spec (k : Nat) : (stepTo l d f k = -1 ∧ ∀ j, j < k → holds l d f j = false) ∨ ∃ n : Nat, stepTo l d f k = n ∧ n < k ∧ holds l d f n = true ∧ ∀ j, n < j → j < k → holds l d f j = false := by
  induction k with
  | zero => exact .inl ⟨rfl, fun j hj => absurd hj (Nat.not_lt_zero j)⟩
  | succ k ih =>
    unfold stepTo
    by_cases hk : holds l d f k = true
    · rw [if_pos hk]
      exact .inr ⟨k, rfl, by omega, hk, fun j h1 h2 => absurd h2 (by omega)⟩
    · rw [if_neg hk]
      have hk' : holds l d f k = false := by simpa using hk
      rcases ih with ⟨e, h⟩ | ⟨n, e, h1, h2, h3⟩
      · exact .inl ⟨e, fun j hj => by
          by_cases ej : j = k
          · rw [ej]; exact hk'
          · exact h j (by omega)⟩
      · exact .inr ⟨n, e, by omega, h2, fun j g1 g2 => by
          by_cases ej : j = k
          · rw [ej]; exact hk'
          · exact h3 j g1 (by omega)⟩

theorem step_spec : (step l d f = -1 ∧ ∀ j, j < l.length → holds l d f j = false) ∨ ∃ n : Nat, step l d f = n ∧ n < l.length ∧ holds l d f n = true ∧ ∀ j, n < j → j < l.length → holds l d f j = false := stepTo_spec l.length

/-- What holds of more holds of the first steps, too. -/
theorem step_le {d' f' : Int} (h : ∀ i, i < l.length → holds l d f i = true → holds l d' f' i = true) : step l d f ≤ step l d' f' := by
  rcases step_spec (l := l) (d := d) (f := f) with ⟨e, _⟩ | ⟨n, e, h1, h2, _⟩
  · rcases step_spec (l := l) (d := d') (f := f') with ⟨e', _⟩ | ⟨n', e', _⟩ <;> omega
  · rcases step_spec (l := l) (d := d') (f := f') with ⟨e', g⟩ | ⟨n', e', g1, g2, g3⟩
    · have := g n h1; rw [h n h1 h2] at this; cases this
    · by_cases hn : n' < n
      · have := g3 n hn h1; rw [h n h1 h2] at this; cases this
      · omega

theorem holds_iff {i : Nat} : holds l d f i = true ↔ ab l i * f < 1000 * max 0 (d - f) := by unfold holds; simp

theorem Right.paid_bd (h : Right l) (d0 : 0 ≤ d) (f0 : 0 ≤ f) : 0 ≤ paid l d f ∧ paid l d f ≤ d ∧ paid l d f ≤ f := by
  unfold paid
  by_cases h1 : d ≤ f
  · rw [if_pos h1]; omega
  · rw [if_neg h1]
    by_cases h2 : step l d f < 0
    · rw [if_pos h2]; omega
    · rw [if_neg h2]
      by_cases h3 : ti l (step l d f).toNat = -1
      · rw [if_pos h3]; omega
      · rw [if_neg h3]
        rcases step_spec (l := l) (d := d) (f := f) with ⟨e, _⟩ | ⟨n, e, hn, _⟩
        · omega
        · rw [e, Int.toNat_natCast] at h3 ⊢
          have ht : 0 ≤ ti l n := by rcases h.ti0 hn with h | h <;> omega
          have := Int.mul_nonneg ht (show 0 ≤ d - f by omega)
          omega

theorem Right.paid_mono (h : Right l) {g : Int} (d0 : 0 ≤ d) (f0 : 0 ≤ f) (hfg : f ≤ g) : paid l d f ≤ paid l d g := by
  have b1 := h.paid_bd d0 f0
  by_cases h1 : d ≤ g
  · have : paid l d g = d := by unfold paid; rw [if_pos h1]
    omega
  have hs : step l d g ≤ step l d f := step_le fun i hi hh => by
    rw [holds_iff] at hh ⊢
    have := Int.mul_le_mul_of_nonneg_left hfg (h.ab0 hi).1
    omega
  rcases step_spec (l := l) (d := d) (f := g) with ⟨e, _⟩ | ⟨n, e, hn, _⟩
  · have : paid l d g = g := by unfold paid; rw [if_neg h1, if_pos (by omega)]
    omega
  · rcases step_spec (l := l) (d := d) (f := f) with ⟨e', _⟩ | ⟨m, e', hm, _⟩
    · omega
    · have hnm : n ≤ m := by omega
      by_cases h3 : ti l m = -1
      · have : paid l d f = 0 := by unfold paid; rw [if_neg (by omega), if_neg (by omega), e', Int.toNat_natCast, if_pos h3]
        have := h.paid_bd (f := g) d0 (by omega)
        omega
      · have h4 : 0 ≤ ti l m := by rcases h.ti0 hm with h | h <;> omega
        have h5 := h.ti_mono hnm hm h3
        have h6 : ti l n ≠ -1 ∧ 0 ≤ ti l n := by
          by_cases en : n = m
          · subst en; exact ⟨h3, h4⟩
          · rcases h.ti0 hn with h | h
            · omega
            · exact ⟨by omega, h.1⟩
        have p1 : paid l d g = max 0 (g - ti l n * (d - g)) := by unfold paid; rw [if_neg h1, if_neg (by omega), e, Int.toNat_natCast, if_neg h6.1]
        have p2 : paid l d f = max 0 (f - ti l m * (d - f)) := by unfold paid; rw [if_neg (by omega), if_neg (by omega), e', Int.toNat_natCast, if_neg h3]
        have p3 : ti l n * (d - g) ≤ ti l m * (d - f) := Int.mul_le_mul h5 (by omega) (by omega) h4
        omega

theorem paid_same : paid l d d = d := by unfold paid; rw [if_pos (Int.le_refl _)]

/-- The step grows with what was declared. -/
theorem step_more {e : Int} (hde : d ≤ e) : step l d f ≤ step l e f := step_le fun i _ hh => by
  rw [holds_iff] at hh ⊢
  omega

theorem holds_times {k : Int} (hk : 0 < k) (i : Nat) : holds l (k * d) (k * f) i = holds l d f i := by
  have e1 : ab l i * (k * f) = k * (ab l i * f) := by rw [← Int.mul_assoc, Int.mul_comm (ab l i), Int.mul_assoc]
  have e2 : 1000 * max 0 (k * d - k * f) = k * (1000 * max 0 (d - f)) := by
    rw [← Int.mul_sub]
    by_cases h : 0 ≤ d - f
    · have := Int.mul_nonneg (Int.le_of_lt hk) h
      rw [Int.max_eq_right this, Int.max_eq_right h, ← Int.mul_assoc, ← Int.mul_assoc, Int.mul_comm 1000]
    · have : k * (d - f) < 0 := Int.mul_neg_of_pos_of_neg hk (by omega)
      rw [Int.max_eq_left (by omega), Int.max_eq_left (by omega)]
      simp
  unfold holds
  rw [e1, e2]
  exact decide_eq_decide.2 (Int.mul_lt_mul_left hk)

theorem step_times {k : Int} (hk : 0 < k) : step l (k * d) (k * f) = step l d f := by
  unfold step
  generalize l.length = n
  induction n with
  | zero => rfl
  | succ n ih => unfold stepTo; rw [holds_times hk, ih]

theorem paid_times {k : Int} (hk : 0 < k) : paid l (k * d) (k * f) = k * paid l d f := by
  unfold paid
  rw [step_times hk]
  have e1 : k * d ≤ k * f ↔ d ≤ f := ⟨fun h => Int.le_of_mul_le_mul_left h hk, fun h => Int.mul_le_mul_of_nonneg_left h (Int.le_of_lt hk)⟩
  by_cases h1 : d ≤ f
  · rw [if_pos h1, if_pos (e1.2 h1)]
  · rw [if_neg h1, if_neg (fun h => h1 (e1.1 h))]
    split
    · rfl
    · split
      · simp
      · generalize ti l (step l d f).toNat = t
        have e2 : k * f - t * (k * d - k * f) = k * (f - t * (d - f)) := by
          rw [← Int.mul_sub, Int.mul_sub k f, ← Int.mul_assoc t, Int.mul_comm t, Int.mul_assoc k]
        rw [e2]
        by_cases h : 0 ≤ f - t * (d - f)
        · rw [Int.max_eq_right h, Int.max_eq_right (Int.mul_nonneg (Int.le_of_lt hk) h)]
        · have : k * (f - t * (d - f)) < 0 := Int.mul_neg_of_pos_of_neg hk (by omega)
          rw [Int.max_eq_left (by omega), Int.max_eq_left (by omega)]
          simp

end Go.Proofs.Ytmgdbbmheiligaa.Re
