/-
  An argument that is a slice of crops, opened.
-/
import Derived.Test.YtcghhagnibabeaaGreatDoorK30
import Derived.Deep.Slices
import Derived.Deep.Strs
import Derived.ProofKit
namespace Go.Proofs.YtcghhagnibabeaaGreatDoor
open Go.RowKit Go.Deep Go.ChangeShapes Go.WideShapes Cr

section
variable {H : Type} {enc : TypeId × Value → H} {P : Program} {W : World} {base : Nat} {spare : Nat → Bool} {held : Bool}

/-- The cell of a field that takes one cell. -/
theorem field_one {cs : List Value} {fs : Array Field} {xs : List (DataW H × List MemPlace)} {n i : Nat} {f : Field} (hf : ∀ (i : Nat) (f : Field), fs[i]? = some f → DataW.trod enc P W base spare held n f.type ((cs.drop f.offset).take (P.cellsOf f.type)) = xs[i]?)
    (hl : xs.length = fs.size) (h : fs[i]? = some f) (ho : f.offset = i) (hc : P.cellsOf f.type = 1) : ∃ x, DataW.trod enc P W base spare held n f.type ((cs.drop i).take 1) = some x := by
  have := hf i f h
  rw [ho, hc] at this
  obtain ⟨hi, -⟩ := Array.getElem?_eq_some_iff.1 h
  rw [List.getElem?_eq_getElem (by omega)] at this
  exact ⟨_, this⟩

theorem take_one {cs : List Value} {i : Nat} {v : Value} (h : (cs.drop i).take 1 = [v]) : cs[i]? = some v := by
  have := congrArg (fun l => l[0]?) h
  simpa using this

theorem open_crops {t e : TypeId} {f0 f1 f2 : Field} {fuel : Nat} {a : Option Addr} {len cap : Nat} {x : DataW H × List MemPlace} (ht : P.underlying t = some (.slice e)) (he : P.underlying e = some (.struct #[f0, f1, f2])) (ce : P.cellsOf e = 3)
    (o0 : f0.offset = 0) (o1 : f1.offset = 1) (o2 : f2.offset = 2) (c0 : P.cellsOf f0.type = 1) (c1 : P.cellsOf f1.type = 1) (c2 : P.cellsOf f2.type = 1)
    (t0 : P.underlying f0.type = some .string) (t1 : P.underlying f1.type = some (.int .i64)) (t2 : P.underlying f2.type = some (.int .i64))
    (h : DataW.trod enc P W base spare held fuel t [.slice a len cap] = some x) : ∃ L : List Crp, L.length = len ∧ (Crops W a L ∧ (∀ c ∈ L, c.nm.size ≤ 9223372036854775807)) := by
  rcases open_slice ht h with ⟨hcs, _⟩ | ⟨ad, l, c, m, n, D, Pl, hcs, _, hl, hm, hmm, _, hx⟩
  · simp at hcs
    obtain ⟨rfl, rfl, rfl⟩ := hcs
    exact ⟨[], rfl, Recs.nil _ _, fun c hc => by cases hc⟩
  simp at hcs
  obtain ⟨rfl, rfl, rfl⟩ := hcs
  have hlm : len ≤ m := by rw [hmm]; split <;> omega
  have each : ∀ i, i < len → ∃ d : Crp, (∀ j u, (cCells d)[j]? = some u → W.cell? (ad.add (i * 3 + j)) = some u) ∧ d.nm.size ≤ 9223372036854775807 := by
    intro i hi
    obtain ⟨cs', h1, h2⟩ := hx i (by omega)
    rw [ce] at h1
    obtain ⟨_, hlen, hcell⟩ := World.cells?_some h1
    obtain ⟨xs, k, _, _, _, hxl, hf⟩ := DataW.trod_struct he h2
    obtain ⟨y0, g0⟩ := field_one hf hxl (i := 0) (f := f0) rfl o0 c0
    obtain ⟨y1, g1⟩ := field_one hf hxl (i := 1) (f := f1) rfl o1 c1
    obtain ⟨y2, g2⟩ := field_one hf hxl (i := 2) (f := f2) rfl o2 c2
    obtain ⟨s, e0, -, w0⟩ := DataW.trod_string t0 g0
    obtain ⟨v1, e1, -⟩ := DataW.trod_int t1 g1
    obtain ⟨v2, e2, -⟩ := DataW.trod_int t2 g2
    refine ⟨⟨s, v1, v2⟩, fun j u hu => ?_, by unfold maxLen at w0; show s.size ≤ _; omega⟩
    have hj : j < 3 := by
      have := (List.getElem?_eq_some_iff.1 hu).1
      simpa [cCells] using this
    have hc := hcell j (by omega)
    rw [add_add] at hc
    rw [hc]
    match j, hj with
    | 0, _ => exact (take_one e0).trans hu
    | 1, _ => exact (take_one e1).trans hu
    | 2, _ => exact (take_one e2).trans hu
  obtain ⟨f, hf⟩ := choose_lt each
  refine ⟨(List.range len).map f, by simp, ?_, fun d hd => ?_⟩
  · refine ⟨by simp; omega, ?_⟩
    by_cases hz : len = 0
    · subst hz; exact .inl rfl
    · have h0 := (hf 0 (by omega)).1 0 _ rfl
      obtain ⟨bb, off, spot⟩ := ad
      have hspot : spot = none := by simpa [Addr.add] using World.cell?_spot h0
      subst hspot
      refine .inr ⟨bb, off, rfl, ?_, fun q u hu => ?_⟩
      · have := World.block_lt_of_cell? W _ h0
        simpa [Addr.add] using this
      · have hq : q < len * 3 := by
          have := (List.getElem?_eq_some_iff.1 hu).1
          rw [Shape.flat_len] at this
          simpa [SC] using this
        have hi : q / 3 < len := by omega
        have e : q = q / 3 * SC.k + q % 3 := by show q = q / 3 * 3 + q % 3; omega
        rw [e, SC.flat_at _ (q / 3) (by simpa using hi) (q % 3) (by show q % 3 < 3; omega)] at hu
        simp only [List.getElem_map, List.getElem_range] at hu
        have := (hf (q / 3) hi).1 (q % 3) u hu
        rw [Go.WideShapes.add_plain] at this
        rw [e]
        exact this
  · obtain ⟨i, hi, rfl⟩ := List.mem_map.1 hd
    exact (hf i (List.mem_range.1 hi)).2
end

end Go.Proofs.YtcghhagnibabeaaGreatDoor
