/-
  PLAIN: interest, a debt more, a debt waived (package debt). No program in sight.
-/
import Derived.Test.YtdnddikchchdkaaPb
import Derived.Test.YtdnddikchchdkaaEd
namespace Go.Proofs.Ytdnddikchchdkaa.De

def dayB (n : Int) : Bool := decide (0 ≤ n) && decide (n ≤ 36864)
theorem dayB_iff {n : Int} : dayB n = true ↔ 0 ≤ n ∧ n ≤ 36864 := by unfold dayB; simp
theorem dayB_not {n : Int} : dayB n = false ↔ n < 0 ∨ 36864 < n := by rw [← Bool.not_eq_true, dayB_iff]; omega
def decB (n : Int) : Bool := decide (1 ≤ n) && decide (n ≤ 1125899906842624)
theorem decB_iff {n : Int} : decB n = true ↔ 1 ≤ n ∧ n ≤ 1125899906842624 := by unfold decB; simp
theorem decB_not {n : Int} : decB n = false ↔ n < 1 ∨ 1125899906842624 < n := by rw [← Bool.not_eq_true, decB_iff]; omega

def goodB (d : Dbt) : Bool := decB d.dec && dayB d.due && decide (1 ≤ d.amt) && decide (d.amt ≤ 68719476736) && decide (1 ≤ d.left) && decide (d.left ≤ d.amt)
theorem goodB_iff {d : Dbt} : goodB d = true ↔ good d := by
  unfold goodB good
  simp only [Bool.and_eq_true, decide_eq_true_eq, decB_iff, dayB_iff, and_assoc]
theorem goodB_not {d : Dbt} (h : ¬ good d) : goodB d = false := by rw [← Bool.not_eq_true, goodB_iff]; exact h

/-! ### interest -/
def intOne (at_ mille : Int) (d : Dbt) : Int := d.left * ((at_ - d.due) * mille) / 365000
def intr (at_ mille : Int) : List Dbt → Int
  | [] => 0
  | d :: L => (if d.due < at_ then intOne at_ mille d else 0) + intr at_ mille L

theorem mul_bd {a b A B : Int} (a0 : 0 ≤ a) (a1 : a ≤ A) (b0 : 0 ≤ b) (b1 : b ≤ B) : 0 ≤ a * b ∧ a * b ≤ A * B :=
  ⟨Int.mul_nonneg a0 b0, Int.mul_le_mul a1 b1 b0 (by omega)⟩

structure IntOk (at_ mille : Int) (d : Dbt) : Prop where
  t0 : 0 ≤ at_ ∧ at_ ≤ 36864
  m0 : 0 ≤ mille ∧ mille ≤ 1000
  d0 : 0 ≤ d.due ∧ d.due < at_
  l0 : 0 ≤ d.left ∧ d.left ≤ 68719476736

theorem IntOk.p {at_ mille : Int} {d : Dbt} (h : IntOk at_ mille d) : 0 ≤ (at_ - d.due) * mille ∧ (at_ - d.due) * mille ≤ 36864000 :=
  mul_bd (A := 36864) (B := 1000) (by have := h.d0; omega) (by have := h.d0; have := h.t0; omega) h.m0.1 h.m0.2

theorem IntOk.one {at_ mille : Int} {d : Dbt} (h : IntOk at_ mille d) : 0 ≤ intOne at_ mille d ∧ intOne at_ mille d ≤ 8796093022208 := by
  obtain ⟨h1, h2⟩ := mul_bd h.l0.1 h.l0.2 h.p.1 h.p.2
  unfold intOne
  refine ⟨Int.ediv_nonneg h1 (by omega), ?_⟩
  generalize d.left * ((at_ - d.due) * mille) = z at *
  omega

theorem IntOk.part {at_ mille : Int} {d : Dbt} (h : IntOk at_ mille d) : part d.left ((at_ - d.due) * mille) 365000 = (intOne at_ mille d, 0) := by
  have h1 := h.p
  have h2 := h.l0
  have h3 := h.one
  have e : intOne at_ mille d = d.left * ((at_ - d.due) * mille) / 365000 := rfl
  rw [e] at h3 ⊢
  unfold Go.Proofs.Ytdnddikchchdkaa.part
  rw [if_pos (by omega), if_neg (by omega)]

theorem intOne_mono {at_ mille : Int} {d e : Dbt} (hd : d.due = e.due) (hl : e.left ≤ d.left) (h0 : 0 ≤ (at_ - d.due) * mille) : intOne at_ mille e ≤ intOne at_ mille d := by
  unfold intOne
  rw [← hd]
  exact Int.ediv_le_ediv (by omega) (Int.mul_le_mul_of_nonneg_right hl h0)

theorem intr_bd {at_ mille : Int} {L : List Dbt} (h : ∀ d ∈ L, d.due < at_ → IntOk at_ mille d) : 0 ≤ intr at_ mille L ∧ intr at_ mille L ≤ 8796093022208 * L.length := by
  induction L with
  | nil => exact ⟨Int.le_refl _, Int.le_refl _⟩
  | cons a L ih =>
    obtain ⟨i1, i2⟩ := ih fun d hd => h d (List.mem_cons_of_mem _ hd)
    unfold intr
    rw [List.length_cons]
    split
    · rename_i hc
      have := (h a List.mem_cons_self hc).one
      omega
    · omega

theorem intr_nz {at_ mille : Int} (L : List Dbt) : intr at_ mille (nz L) = intr at_ mille L := by
  induction L with
  | nil => rfl
  | cons d L ih =>
    unfold nz at ih ⊢
    rw [List.filter_cons]
    split
    · simp only [intr, ih]
    · rename_i h
      simp only [ne_eq, decide_not, Bool.not_eq_eq_eq_not, Bool.not_true, decide_eq_false_iff_not, Decidable.not_not] at h
      have e : intOne at_ mille d = 0 := by unfold intOne; rw [h]; simp
      simp only [intr, ih, e]; split <;> omega

theorem intr_upd {at_ mille : Int} {L : List Dbt} {n x : Int} (h : ∀ d ∈ L, d.due < at_ → IntOk at_ mille d) (hx : ∀ d ∈ L, d.num = n → x ≤ d.left) : intr at_ mille (upd L n x) ≤ intr at_ mille L := by
  induction L with
  | nil => exact Int.le_refl _
  | cons a L ih =>
    have ih := ih (fun d hd => h d (List.mem_cons_of_mem _ hd)) (fun d hd => hx d (List.mem_cons_of_mem _ hd))
    show (if (put n x a).due < at_ then intOne at_ mille (put n x a) else 0) + intr at_ mille (upd L n x) ≤ (if a.due < at_ then intOne at_ mille a else 0) + intr at_ mille L
    rw [put_due]
    split
    · rename_i hc
      have hm := intOne_mono (at_ := at_) (mille := mille) (d := a) (e := put n x a) (put_due n x a).symm (by
        by_cases e : a.num = n
        · rw [put_eq e]; exact hx a List.mem_cons_self e
        · rw [put_ne e]; exact Int.le_refl _) (h a List.mem_cons_self hc).p.1
      omega
    · omega

theorem Right.intOk {farm : Int} {L : List Dbt} {next at_ mille : Int} (h : Right farm L next) (t0 : 0 ≤ at_ ∧ at_ ≤ 36864) (m0 : 0 ≤ mille ∧ mille ≤ 1000) : ∀ d ∈ L, d.due < at_ → IntOk at_ mille d := fun d hd hlt => by
  have hg := (h.each d hd).2.2
  unfold good at hg
  exact ⟨t0, m0, by omega, by omega⟩

/-! ### prefixes -/
theorem take_g {L : List Dbt} {k : Nat} (h : k < L.length) : L.take (k + 1) = L.take k ++ [g L k] := by
  rw [List.take_succ_eq_append_getElem h, g_eq h]
theorem total_take {L : List Dbt} {k : Nat} (h : k < L.length) : De.total (L.take (k + 1)) = De.total (L.take k) + (g L k).amt := by
  rw [take_g h, total_append]; simp only [De.total]; omega
theorem sum_take {L : List Dbt} {k : Nat} (h : k < L.length) : De.sum (L.take (k + 1)) = De.sum (L.take k) + (g L k).left := by
  rw [take_g h, sum_append]; simp only [De.sum]; omega
theorem intr_append (at_ mille : Int) (A B : List Dbt) : intr at_ mille (A ++ B) = intr at_ mille A + intr at_ mille B := by
  induction A with
  | nil => simp [intr]
  | cons a A ih => simp only [List.cons_append, intr, ih]; omega
theorem intr_take {at_ mille : Int} {L : List Dbt} {k : Nat} (h : k < L.length) : intr at_ mille (L.take (k + 1)) = intr at_ mille (L.take k) + if (g L k).due < at_ then intOne at_ mille (g L k) else 0 := by
  rw [take_g h, intr_append]; simp only [intr]; omega

theorem total_bd {L : List Dbt} {c : Int} (h : ∀ d ∈ L, 0 ≤ d.amt ∧ d.amt ≤ c) : 0 ≤ De.total L ∧ De.total L ≤ c * L.length := by
  induction L with
  | nil => simp [De.total]
  | cons a L ih =>
    have := h a List.mem_cons_self
    have := ih fun d hd => h d (List.mem_cons_of_mem _ hd)
    rw [List.length_cons, Int.natCast_succ, Int.mul_add]
    simp only [De.total]
    omega

/-! ### a debt more -/
noncomputable def cErr (farm : Int) (L : List Dbt) (next of due amount : Int) : Int :=
  if chk farm L next ≠ 0 then 22 else if decB of = false then 76 else if dayB due = false then 9 else if amount < 1 ∨ 68719476736 < amount ∨ 68719476736 < De.total L + amount then 67 else if L.length = 40 ∨ next = 1125899906842624 then 73 else 0
noncomputable def cList (farm : Int) (L : List Dbt) (next of due amount : Int) : List Dbt := if cErr farm L next of due amount ≠ 0 then L else L ++ [⟨next, of, due, amount, amount⟩]
noncomputable def cNext (farm : Int) (L : List Dbt) (next of due amount : Int) : Int := if cErr farm L next of due amount ≠ 0 then next else next + 1
noncomputable def cNum (farm : Int) (L : List Dbt) (next of due amount : Int) : Int := if cErr farm L next of due amount ≠ 0 then 0 else next

/-! ### a debt waived -/
def has (L : List Dbt) (n : Int) : Prop := ∃ i, i < L.length ∧ (g L i).num = n
open Classical in
noncomputable def wErr (farm : Int) (L : List Dbt) (next n amount : Int) : Int :=
  if chk farm L next ≠ 0 then 22 else if ¬ has L n then 71 else if amount < 1 ∨ fnd L n < amount then 67 else 0
noncomputable def wList (farm : Int) (L : List Dbt) (next n amount : Int) : List Dbt := if wErr farm L next n amount ≠ 0 then L else nz (upd L n (fnd L n - amount))

end Go.Proofs.Ytdnddikchchdkaa.De
