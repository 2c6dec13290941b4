/-
  PLAIN: what package envelope computes: whole units, the error, what is paid, the factor.
-/
import Derived.Test.YtmgdbbmheiligaaEs
namespace Go.Proofs.Ytmgdbbmheiligaa.En

def money (n : Int) : Bool := decide (0 ≤ n) && decide (n ≤ 68719476736)
theorem money_iff {n : Int} : money n = true ↔ 0 ≤ n ∧ n ≤ 68719476736 := by unfold money; simp
theorem money_not {n : Int} : money n = false ↔ n < 0 ∨ 68719476736 < n := by
  rw [← Bool.not_eq_true, money_iff]; omega

/-- The error of an envelope, a unit and amounts. -/
def err (e u : Int) (l : List Int) : Int :=
  if money e = false then 67 else if u < 1 ∨ 100000 < u then 2 else if 64 < l.length then 1 else if (l.any fun x => !money x) = true then 67 else 0

def units (u : Int) (l : List Int) : List Int := l.map fun x => x / u
def usum (u : Int) (l : List Int) : Int := Sh.sum (units u l)

/-- What is paid, in units. -/
def paid (e u : Int) (l : List Int) : List Int := if e / u < usum u l then shList (e / u) (units u l) else units u l
def scale (e u : Int) (l : List Int) : List Int := if err e u l = 0 then (paid e u l).map fun x => x * u else []
def scaled (e u : Int) (l : List Int) : Bool := decide (err e u l = 0) && decide (e / u < usum u l)
def factor (e u : Int) (l : List Int) : Int × Int := if err e u l = 0 then (if e / u < usum u l then (e / u, usum u l) else (1, 1)) else (0, 0)

structure Good (e u : Int) (l : List Int) : Prop where
  e0 : 0 ≤ e
  e1 : e ≤ 68719476736
  u0 : 1 ≤ u
  u1 : u ≤ 100000
  len : l.length ≤ 64
  all : ∀ x ∈ l, 0 ≤ x ∧ x ≤ 68719476736

theorem good_of {e u : Int} {l : List Int} (h : err e u l = 0) : Good e u l := by
  unfold err at h
  by_cases h1 : money e = false
  · rw [if_pos h1] at h; omega
  · rw [if_neg h1] at h
    by_cases h2 : u < 1 ∨ 100000 < u
    · rw [if_pos h2] at h; omega
    · rw [if_neg h2] at h
      by_cases h3 : 64 < l.length
      · rw [if_pos h3] at h; omega
      · rw [if_neg h3] at h
        by_cases h4 : (l.any fun x => !money x) = true
        · rw [if_pos h4] at h; omega
        · have m := money_iff.1 (show money e = true by simpa using h1)
          refine ⟨m.1, m.2, by omega, by omega, by omega, fun x hx => money_iff.1 ?_⟩
          have h5 : (l.any fun x => !money x) = false := by simpa using h4
          rw [List.any_eq_false] at h5
          simpa using h5 x hx

theorem err_of {e u : Int} {l : List Int} (h : Good e u l) : err e u l = 0 := by
  have h4 : (l.any fun x => !money x) = false := by
    rw [List.any_eq_false]
    intro x hx
    rw [money_iff.2 (h.all x hx)]
    simp
  unfold err
  rw [if_neg (by rw [money_iff.2 ⟨h.e0, h.e1⟩]; simp), if_neg (by have := h.u0; have := h.u1; omega), if_neg (by have := h.len; omega), if_neg (by rw [h4]; simp)]

variable {e u : Int} {l : List Int}

theorem Good.sum (h : Good e u l) (k : Nat) : 0 ≤ Sh.sum (l.take k) ∧ Sh.sum (l.take k) ≤ 4398046511104 := by
  have hx : ∀ x ∈ l.take k, 0 ≤ x ∧ x ≤ 68719476736 := fun x hx => h.all x (List.mem_of_mem_take hx)
  refine ⟨Sh.sum_nonneg fun x m => (hx x m).1, ?_⟩
  have := Sh.sum_le_len fun x m => (hx x m).2
  have hl : (l.take k).length ≤ l.length := List.length_take_le' _ _
  have := h.len
  omega

theorem Good.unit (h : Good e u l) : ∀ x ∈ units u l, 0 ≤ x ∧ x ≤ 68719476736 := fun x hx => by
  obtain ⟨y, hy, rfl⟩ := List.mem_map.1 hx
  have hb := h.all y hy
  have := Int.ediv_le_self u hb.1
  exact ⟨Int.ediv_nonneg hb.1 (by have := h.u0; omega), by omega⟩

theorem units_len : (units u l).length = l.length := by unfold units; simp

theorem units_take (k : Nat) : (units u l).take k = units u (l.take k) := by unfold units; rw [List.map_take]

theorem Good.usum (h : Good e u l) (k : Nat) : 0 ≤ usum u (l.take k) ∧ usum u (l.take k) ≤ 4398046511104 := by
  unfold En.usum
  rw [← units_take]
  have hx : ∀ x ∈ (units u l).take k, 0 ≤ x ∧ x ≤ 68719476736 := fun x hx => h.unit x (List.mem_of_mem_take hx)
  refine ⟨Sh.sum_nonneg fun x m => (hx x m).1, ?_⟩
  have := Sh.sum_le_len fun x m => (hx x m).2
  have hl : ((units u l).take k).length ≤ (units u l).length := List.length_take_le' _ _
  rw [units_len] at hl
  have := h.len
  omega

theorem units_snoc (x : Int) : units u (l ++ [x]) = units u l ++ [x / u] := by unfold units; simp

theorem usum_snoc (x : Int) : usum u (l ++ [x]) = usum u l + x / u := by unfold usum; rw [units_snoc, Sh.sum_snoc]

theorem take_snoc {k : Nat} (hk : k < l.length) : l.take (k + 1) = l.take k ++ [l.getD k 0] := by
  rw [List.take_succ_eq_append_getElem hk, List.getD_eq_getElem?_getD, List.getElem?_eq_getElem hk]; rfl

end Go.Proofs.Ytmgdbbmheiligaa.En
