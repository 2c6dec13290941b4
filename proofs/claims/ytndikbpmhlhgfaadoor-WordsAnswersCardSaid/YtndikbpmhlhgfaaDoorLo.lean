/-
  An argument that is a slice of slices of strings, opened.
-/
import Derived.Test.YtndikbpmhlhgfaaDoorLy
import Derived.Test.YtndikbpmhlhgfaaDoorW6
import Derived.Deep.Slices
import Derived.Deep.Strs
import Derived.SliceStrings
namespace Go.Proofs.YtndikbpmhlhgfaaDoor
open Go.RowKit Go.Deep Go.ChangeShapes Go.WideShapes

section
variable {H : Type} {enc : TypeId × Value → H} {P : Program} {W : World} {base : Nat} {spare : Nat → Bool} {held : Bool}

theorem recs_sb {a : Addr} {ss : List ByteArray} (hm : ss.length ≤ maxLen) (h : ∀ i, i < ss.length → W.cell? (a.add i) = some (.string (ss.getD i ByteArray.empty))) : Recs SB W (some a) ss := by
  refine ⟨hm, ?_⟩
  by_cases hz : ss.length = 0
  · exact .inl (List.length_eq_zero_iff.1 hz)
  · have h0 := h 0 (by omega)
    obtain ⟨b, off, spot⟩ := a
    have hspot : spot = none := by simpa [Addr.add] using World.cell?_spot h0
    subst hspot
    refine .inr ⟨b, off, rfl, ?_, fun q u hu => ?_⟩
    · have := World.block_lt_of_cell? W _ h0
      simpa [Addr.add] using this
    · rw [show SB.flat ss = ss.map Value.string by
        clear hu h h0 hz hm
        induction ss with
        | nil => rfl
        | cons a r ih => unfold Shape.flat at ih ⊢; rw [List.flatMap_cons, ih]; rfl] at hu
      have hq : q < ss.length := by
        have := (List.getElem?_eq_some_iff.1 hu).1
        simpa using this
      have hc := h q hq
      rw [Go.WideShapes.add_plain] at hc
      rw [hc, ← hu, List.getElem?_map, List.getElem?_eq_getElem hq]
      simp [List.getD, List.getElem?_eq_getElem hq]

theorem open_lines {t e es : TypeId} {fuel : Nat} {cs : List Value} {x : DataW H × List MemPlace} (ht : P.underlying t = some (.slice e)) (hc : P.cellsOf e = 1) (he : P.underlying e = some (.slice es)) (hes : P.underlying es = some .string) (hce : P.cellsOf es = 1)
    (h : DataW.trod enc P W base spare held fuel t cs = some x) : ∃ p LL c, cs = [.slice p (List.length LL) c] ∧ LinesAt W p LL := by
  rcases open_slice1 ht hc h with ⟨hcs, _⟩ | ⟨a, len, c, m, n, V, D, Pl, hcs, _, hl, hm, hmm, _, hx⟩
  · exact ⟨none, [], 0, hcs, [], rfl, Recs.nil _ _, fun k hk => by simp at hk⟩
  have hlm : len ≤ m := by rw [hmm]; split <;> omega
  have each : ∀ i, i < len → ∃ d : Hd × List ByteArray, W.cell? (a.add i) = some (.slice d.1.p d.1.n d.1.c) ∧ WordsAt W d.1 d.2 := by
    intro i hi
    obtain ⟨h1, h2⟩ := hx i (by omega)
    rcases open_strings he hes hce h2 with ⟨e1, _⟩ | ⟨a2, l2, c2, ss, e1, _, hl2, hm2, hlen, _, hcell, _⟩
    · obtain e1 : V i = .slice none 0 0 := by simpa using e1
      exact ⟨(⟨none, 0, 0⟩, []), by rw [h1, e1], rfl, Recs.nil _ _, fun _ => rfl, Nat.le_refl _⟩
    · obtain e1 : V i = .slice (some a2) l2 c2 := by simpa using e1
      have hl3 : l2 ≤ ss.length := by rw [hlen]; split <;> omega
      refine ⟨(⟨some a2, l2, c2⟩, ss.take l2), by rw [h1, e1], by simp; omega, recs_sb (by simp; omega) (fun j hj => ?_), fun h => (by cases h), hl2⟩
      have hj2 : j < l2 ∧ j < ss.length := by rw [List.length_take] at hj; omega
      rw [hcell j hj2.2]
      simp only [List.getD, List.getElem?_take]
      rw [if_pos hj2.1]
  obtain ⟨f, hf⟩ := choose_lt each
  refine ⟨some a, (List.range len).map fun i => (f i).2, c, by simpa using hcs, (List.range len).map fun i => (f i).1, by simp, ?_, fun k hk hk' => ?_⟩
  · refine ⟨by simp; omega, ?_⟩
    by_cases hz : len = 0
    · subst hz; exact .inl rfl
    · have h0 := (hf 0 (by omega)).1
      obtain ⟨bb, off, spot⟩ := a
      have hspot : spot = none := by simpa [Addr.add] using World.cell?_spot h0
      subst hspot
      refine .inr ⟨bb, off, rfl, ?_, fun q u hu => ?_⟩
      · have := World.block_lt_of_cell? W _ h0
        simpa [Addr.add] using this
      · have hq : q < len := by
          have := (List.getElem?_eq_some_iff.1 hu).1
          rw [Shape.flat_len] at this
          simpa [SH] using this
        have h1 := (hf q hq).1
        rw [Go.WideShapes.add_plain] at h1
        rw [h1, ← hu]
        have := Shape.flat_at (S := SH) ((List.range len).map fun i => (f i).1) q (by simpa using hq) 0 (by decide)
        simp only [SH, Nat.mul_one, Nat.add_zero] at this ⊢
        rw [this]
        simp
  · have hk2 : k < len := by simpa using hk
    simpa using (hf k hk2).2
end
end Go.Proofs.YtndikbpmhlhgfaaDoor
