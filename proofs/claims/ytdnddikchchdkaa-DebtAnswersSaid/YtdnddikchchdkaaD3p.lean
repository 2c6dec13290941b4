/-
  What is wrong with a debt.
-/
import Derived.Test.YtdnddikchchdkaaD2
namespace Go.Proofs.Ytdnddikchchdkaa
open Go.RowKit

/-- The first thing that is wrong with debt k is one of some. -/
def grpA (L : List De.Dbt) (next : Int) (k : Nat) : Prop := ((De.g L k).num < 1 ∨ next ≤ (De.g L k).num ∨ (De.g L k).num ≤ De.prv L k)
/-- The first thing that is wrong with debt k is one of some. -/
def grpB (L : List De.Dbt) (next : Int) (k : Nat) : Prop := ¬ ((De.g L k).num < 1) ∧ ¬ (next ≤ (De.g L k).num) ∧ ¬ ((De.g L k).num ≤ De.prv L k) ∧ ((De.g L k).dec < 1 ∨ 1125899906842624 < (De.g L k).dec ∨ (De.g L k).due < 0)
/-- The first thing that is wrong with debt k is one of some. -/
def grpC (L : List De.Dbt) (next : Int) (k : Nat) : Prop := ¬ ((De.g L k).num < 1) ∧ ¬ (next ≤ (De.g L k).num) ∧ ¬ ((De.g L k).num ≤ De.prv L k) ∧ ¬ ((De.g L k).dec < 1) ∧ ¬ (1125899906842624 < (De.g L k).dec) ∧ ¬ ((De.g L k).due < 0) ∧ (36864 < (De.g L k).due ∨ (De.g L k).amt < 1 ∨ 68719476736 < (De.g L k).amt)
/-- The first thing that is wrong with debt k is one of some. -/
def grpD (L : List De.Dbt) (next : Int) (k : Nat) : Prop := ¬ ((De.g L k).num < 1) ∧ ¬ (next ≤ (De.g L k).num) ∧ ¬ ((De.g L k).num ≤ De.prv L k) ∧ ¬ ((De.g L k).dec < 1) ∧ ¬ (1125899906842624 < (De.g L k).dec) ∧ ¬ ((De.g L k).due < 0) ∧ ¬ (36864 < (De.g L k).due) ∧ ¬ ((De.g L k).amt < 1) ∧ ¬ (68719476736 < (De.g L k).amt) ∧ ((De.g L k).left < 1 ∨ (De.g L k).amt < (De.g L k).left)

theorem grp_any {L : List De.Dbt} {next : Int} {k : Nat} (h : ¬ De.okAt L next k) : grpA L next k ∨ grpB L next k ∨ grpC L next k ∨ grpD L next k := by
  unfold De.okAt De.good at h
  unfold grpA grpB grpC grpD
  omega

theorem tk_bd {L : List De.Dbt} {next : Int} {k : Nat} (h : ∀ j, j < k → De.okAt L next j) (hk : k ≤ L.length) (hl : L.length ≤ 40) : 0 ≤ De.total (L.take k) ∧ De.total (L.take k) ≤ 2748779069440 := by
  have := De.total_bd (L := L.take k) (c := 68719476736) fun d hd => by
    obtain ⟨i, hi, rfl⟩ := List.getElem_of_mem hd
    have hi2 := hi
    rw [List.length_take] at hi2
    have := (h i (by omega)).2.2
    rw [De.g_eq (by omega)] at this
    rw [List.getElem_take]
    unfold De.good at this
    omega
  rw [List.length_take] at this
  omega

set_option maxRecDepth 100000 in
set_option maxHeartbeats 4000000 in
theorem refcheck39_head (farm next : Int) (p : Option Addr) (L : List De.Dbt) (cap : Nat) (w : World) (h : Debts w p L) (hh : farm < 1 ∨ 60 < farm ∨ 40 < L.length ∨ next < 1 ∨ 1125899906842624 < next) :
    Calls Try.prog 36 #[.agg #[.int .i64 farm, .slice p L.length cap, .int .i64 next]] w fun e w' => e = .returned (.int .i64 (De.chk farm L next)) ∧ Below w.heap.size w w' := by
  have hn := h.len
  rw [chk_head hh]
  clear h
  rcases (show farm < 1 ∨ (1 ≤ farm ∧ 60 < farm) ∨ (1 ≤ farm ∧ farm ≤ 60 ∧ 40 < L.length) ∨ (1 ≤ farm ∧ farm ≤ 60 ∧ L.length ≤ 40 ∧ next < 1) ∨ (1 ≤ farm ∧ farm ≤ 60 ∧ L.length ≤ 40 ∧ 1 ≤ next ∧ 1125899906842624 < next) by omega) with h1 | ⟨h1, h2⟩ | ⟨h1, h2, h3⟩ | ⟨h1, h2, h3, h4⟩ | ⟨h1, h2, h3, h4, h5⟩
  all_goals
    clear hh
    go_enter Try.func36, Try.ntmps36
    go_wp2
    go_ret
    exact ⟨rfl, (Below.refl _ _).alloc (Nat.le_refl _) _⟩

end Go.Proofs.Ytdnddikchchdkaa
