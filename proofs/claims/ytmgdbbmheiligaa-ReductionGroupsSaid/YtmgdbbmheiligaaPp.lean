/-
  An argument that is a slice of pairs of ints, opened.
-/
import Derived.Test.YtmgdbbmheiligaaDi
import Derived.Deep.SlicePairs
import Derived.ProofKit
namespace Go.Proofs.Ytmgdbbmheiligaa
open Go.RowKit Go.Deep Go.ChangeShapes Go.WideShapes

theorem open_pairs {H : Type} {enc : TypeId × Value → H} {P : Program} {W : World} {base : Nat} {spare : Nat → Bool} {held : Bool} {t e : TypeId} {f0 f1 : Field} {fuel : Nat} {a : Option Addr} {len cap : Nat} {x : DataW H × List MemPlace}
    (ht : P.underlying t = some (.slice e)) (he : P.underlying e = some (.struct #[f0, f1])) (ce : P.cellsOf e = 2) (o0 : f0.offset = 0) (o1 : f1.offset = 1) (c0 : P.cellsOf f0.type = 1) (c1 : P.cellsOf f1.type = 1)
    (t0 : P.underlying f0.type = some (.int .i64)) (t1 : P.underlying f1.type = some (.int .i64))
    (h : DataW.trod enc P W base spare held fuel t [.slice a len cap] = some x) : ∃ D : List (Int × Int), D.length = len ∧ Pairs W a D := by
  rcases open_slice_pairs ht he ce o0 o1 c0 c1 h with ⟨hcs, _⟩ | ⟨b, l, c, m, n, V0, V1, D0, D1, P0, P1, hcs, _, hl, hm, hmm, _, hx⟩
  · simp at hcs
    obtain ⟨rfl, rfl, rfl⟩ := hcs
    exact ⟨[], rfl, Pairs.nil _ _⟩
  · simp at hcs
    obtain ⟨rfl, rfl, rfl⟩ := hcs
    have hlm : len ≤ m := by rw [hmm]; split <;> omega
    have each : ∀ i, i < len → ∃ d : Int × Int, W.cell? (b.add (i * 2)) = some (.int .i64 d.1) ∧ W.cell? (b.add (i * 2 + 1)) = some (.int .i64 d.2) := fun i hi => by
      obtain ⟨h0, h1, r0, r1⟩ := hx i (by omega)
      obtain ⟨n0, e0, _⟩ := DataW.trod_int t0 r0
      obtain ⟨n1, e1, _⟩ := DataW.trod_int t1 r1
      simp only [List.cons.injEq, and_true] at e0 e1
      exact ⟨(n0, n1), by rw [h0, e0], by rw [h1, e1]⟩
    obtain ⟨f, hf⟩ := choose_lt each
    refine ⟨(List.range len).map f, by simp, ⟨by simp; omega, ?_⟩⟩
    by_cases hz : len = 0
    · subst hz; exact .inl rfl
    · have h0 := (hf 0 (by omega)).1
      obtain ⟨bb, off, spot⟩ := b
      have hspot : spot = none := by simpa [Addr.add] using World.cell?_spot h0
      subst hspot
      refine .inr ⟨bb, off, rfl, ?_, fun j hj => ?_⟩
      · have := World.block_lt_of_cell? W _ h0
        simpa [Addr.add] using this
      · have hj' : j < len := by simpa using hj
        have e : ((List.range len).map f).getD j (0, 0) = f j := by simp [List.getD_eq_getElem?_getD, hj']
        obtain ⟨g0, g1⟩ := hf j hj'
        rw [Go.WideShapes.add_plain] at g0 g1
        rw [e]
        exact ⟨g0, g1⟩

end Go.Proofs.Ytmgdbbmheiligaa
