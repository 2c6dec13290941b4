/-
  PROVED HERE: the law DebtAnswers: for every input the Go function returns true, and each argument reads afterwards as it read before. Condition: none of our own (the row's). The frame is after the kit's shell (proof-skeleton.mjs), written by mkp.py; the walk is debtAnswers_walk of YtdnddikchchdkaaD33.
-/
import Derived.Test.YtdnddikchchdkaaRows
import Derived.WalkKit
import Derived.ProofKit
import Derived.OpenShut
import Derived.Test.YtdnddikchchdkaaD41
import Derived.Test.YtdnddikchchdkaaD42
import Derived.ShutString
import Derived.ChangeOld
import Derived.Test.YtdnddikchchdkaaDs
import Derived.Deep.Slices
import Derived.Deep.Strs
import Derived.Below
namespace Go.Proofs.Ytdnddikchchdkaa
open Go.RowKit Go.Deep Go.ChangeShapes Go.WideShapes

section
variable {H : Type} {enc : TypeId × Value → H} {P : Program} {W : World} {base : Nat} {spare : Nat → Bool} {held : Bool}

/-- One int field of a struct. -/
theorem field_int {cs : List Value} {fs : Array Field} {xs : List (DataW H × List MemPlace)} {n i : Nat} {f : Field} (hf : ∀ (i : Nat) (f : Field), fs[i]? = some f → DataW.trod enc P W base spare held n f.type ((cs.drop f.offset).take (P.cellsOf f.type)) = xs[i]?)
    (hl : xs.length = fs.size) (h : fs[i]? = some f) (ho : f.offset = i) (hc : P.cellsOf f.type = 1) (hu : P.underlying f.type = some (.int .i64)) : ∃ v, cs[i]? = some (.int .i64 v) ∧ (Lit.int .i64 v).wf = true := by
  have := hf i f h
  rw [ho, hc] at this
  obtain ⟨hi, -⟩ := Array.getElem?_eq_some_iff.1 h
  rw [List.getElem?_eq_getElem (by omega)] at this
  obtain ⟨v, e, -, hw⟩ := DataW.trod_int hu this
  refine ⟨v, ?_, hw⟩
  have := congrArg (fun l => l[0]?) e
  simpa using this

structure Fields5 (P : Program) (e : TypeId) (fs : Array Field) : Prop where
  he : P.underlying e = some (.struct fs)
  size : fs.size = 5
  cells : P.cellsOf e = 5
  each : ∀ i, i < 5 → ∃ f, fs[i]? = some f ∧ f.offset = i ∧ P.cellsOf f.type = 1 ∧ P.underlying f.type = some (.int .i64)

theorem open_debts {t e : TypeId} {fs : Array Field} {fuel : Nat} {cs : List Value} {x : DataW H × List MemPlace} (ht : P.underlying t = some (.slice e)) (F : Fields5 P e fs)
    (h : DataW.trod enc P W base spare held fuel t cs = some x) : ∃ p L c, cs = [.slice p L.length c] ∧ Debts W p L ∧ (p = none → c = 0) ∧ L.length ≤ c ∧ ∀ d ∈ L, (Lit.int .i64 d.amt).wf = true := by
  rcases open_slice ht h with ⟨hcs, _⟩ | ⟨a, len, c, m, n, D, Pl, hcs, _, hl, hm, hmm, _, hx⟩
  · exact ⟨none, [], 0, hcs, Recs.nil _ _, fun _ => rfl, Nat.le_refl _, fun d hd => by cases hd⟩
  have hlm : len ≤ m := by rw [hmm]; split <;> omega
  have each : ∀ i, i < len → ∃ d : De.Dbt, (∀ j u, (dCells d)[j]? = some u → W.cell? (a.add (i * 5 + j)) = some u) ∧ (Lit.int .i64 d.amt).wf = true := by
    intro i hi
    obtain ⟨cs', h1, h2⟩ := hx i (by omega)
    rw [F.cells] at h1
    obtain ⟨_, hlen, hcell⟩ := World.cells?_some h1
    obtain ⟨xs, k, _, _, _, hxl, hf⟩ := DataW.trod_struct F.he h2
    have g : ∀ i, i < 5 → ∃ v, cs'[i]? = some (.int .i64 v) ∧ (Lit.int .i64 v).wf = true := fun i hi => by
      obtain ⟨f, e1, e2, e3, e4⟩ := F.each i hi
      exact field_int hf hxl e1 e2 e3 e4
    obtain ⟨v0, e0, -⟩ := g 0 (by omega)
    obtain ⟨v1, e1, -⟩ := g 1 (by omega)
    obtain ⟨v2, e2, -⟩ := g 2 (by omega)
    obtain ⟨v3, e3, w3⟩ := g 3 (by omega)
    obtain ⟨v4, e4, -⟩ := g 4 (by omega)
    refine ⟨⟨v0, v1, v2, v3, v4⟩, fun j u hu => ?_, w3⟩
    have hj : j < 5 := by
      have := (List.getElem?_eq_some_iff.1 hu).1
      simpa [dCells] using this
    have hc := hcell j (by omega)
    rw [add_add] at hc
    rw [hc]
    match j, hj with
    | 0, _ => exact e0.trans hu
    | 1, _ => exact e1.trans hu
    | 2, _ => exact e2.trans hu
    | 3, _ => exact e3.trans hu
    | 4, _ => exact e4.trans hu
  obtain ⟨f, hf⟩ := choose_lt each
  refine ⟨some a, (List.range len).map f, c, by simpa using hcs, ?_, fun h => (by cases h), by simpa using hl, fun d hd => ?_⟩
  · refine ⟨by simp; omega, ?_⟩
    by_cases hz : len = 0
    · subst hz; exact .inl rfl
    · have h0 := (hf 0 (by omega)).1 0 _ rfl
      obtain ⟨bb, off, spot⟩ := a
      have hspot : spot = none := by simpa [Addr.add] using World.cell?_spot h0
      subst hspot
      refine .inr ⟨bb, off, rfl, ?_, fun q u hu => ?_⟩
      · have := World.block_lt_of_cell? W _ h0
        simpa [Addr.add] using this
      · have hq : q < len * 5 := by
          have := (List.getElem?_eq_some_iff.1 hu).1
          rw [Shape.flat_len] at this
          simpa [SD] using this
        have hi : q / 5 < len := by omega
        have e : q = q / 5 * SD.k + q % 5 := by show q = q / 5 * 5 + q % 5; omega
        rw [e, SD.flat_at _ (q / 5) (by simpa using hi) (q % 5) (by show q % 5 < 5; omega)] at hu
        simp only [List.getElem_map, List.getElem_range] at hu
        have := (hf (q / 5) hi).1 (q % 5) u hu
        rw [Go.WideShapes.add_plain] at this
        rw [e]
        exact this
  · obtain ⟨i, hi, rfl⟩ := List.mem_map.1 hd
    exact (hf i (List.mem_range.1 hi)).2

theorem open_acc {t e : TypeId} {f0 f1 f2 : Field} {fs : Array Field} {fuel : Nat} {cs : List Value} {x : DataW H × List MemPlace} (ht : P.underlying t = some (.struct #[f0, f1, f2])) (o0 : f0.offset = 0) (o1 : f1.offset = 1) (o2 : f2.offset = 2) (ct : P.cellsOf t = 3)
    (c0 : P.cellsOf f0.type = 1) (c1 : P.cellsOf f1.type = 1) (c2 : P.cellsOf f2.type = 1) (t0 : P.underlying f0.type = some (.int .i64)) (t1 : P.underlying f1.type = some (.slice e)) (t2 : P.underlying f2.type = some (.int .i64)) (F : Fields5 P e fs)
    (h : DataW.trod enc P W base spare held fuel t cs = some x) : ∃ farm p L c next, cs = [.int .i64 farm, .slice p L.length c, .int .i64 next] ∧ Debts W p L ∧ (p = none → c = 0) ∧ L.length ≤ c ∧ (∀ d ∈ L, (Lit.int .i64 d.amt).wf = true) := by
  obtain ⟨xs, n, _, _, hl, hxl, hf⟩ := DataW.trod_struct ht h
  rw [ct] at hl
  match cs, hl with
  | [u0, u1, u2], _ =>
    have g0 := hf 0 f0 rfl
    have g1 := hf 1 f1 rfl
    have g2 := hf 2 f2 rfl
    have hxl' : xs.length = 3 := hxl
    rw [o0, c0, List.getElem?_eq_getElem (by omega)] at g0
    rw [o1, c1, List.getElem?_eq_getElem (by omega)] at g1
    rw [o2, c2, List.getElem?_eq_getElem (by omega)] at g2
    obtain ⟨v0, e0, -, -⟩ := DataW.trod_int t0 g0
    obtain ⟨v2, e2, -, -⟩ := DataW.trod_int t2 g2
    obtain ⟨p, L, c, e1, hD, hn, hlc, hw⟩ := open_debts t1 F g1
    simp at e0 e1 e2
    exact ⟨v0, p, L, c, v2, by rw [e0, e1, e2], hD, hn, hlc, hw⟩
end

end Go.Proofs.Ytdnddikchchdkaa

namespace Go.Proofs.Ytdnddikchchdkaa.debtAnswers
open Go.ChangeShapes Go.WideShapes Go.ChangeAt Go.RowKit
set_option linter.unusedVariables false

theorem own : ownKnob Try.prog.godebug = none := by kernel_rfl
theorem laidOut : laidOutB Try.prog = true := by kernel_rfl

set_option maxRecDepth 100000 in
theorem lifted (os : Os) (started : os.Started) (H : Type) (enc : TypeId × Value → H) :
    ReturnsInHanded {} Try.checked os 7 .any (Rows.debtAnswersSpec.pre6 enc Try.prog Try.f7 Rows.debtAnswersRow.domain false) (Rows.debtAnswersSpec.post enc Try.prog Try.f7 false true false false) := by
  refine returnsInHanded_of_change (C := Try.checked) own started (by kernel_rfl) Try.func7
    (ChangeSpec.witness6 (enc := enc) (C := Try.checked) false ⟨#[], #[.slice none 0 0, .agg #[.int .i64 0, .slice none 0 0, .int .i64 0], .int .i64 0, .int .i64 0, .int .i64 0, .int .i64 0, .int .i64 0, .int .i64 0], []⟩ 8 (by kernel_rfl) (by kernel_rfl) (by kernel_rfl) (by kernel_rfl)) ?_
  intro W base args ds gs before hval0 hW hcnd _
  have hval : ∀ (j : Nat) t v, Try.f7.params[j]? = some t → args[j]? = some v → Value.okWide Try.prog W .any base t v := hval0
  have hW' := hW
  obtain ⟨p, q, hA0, hV, rfl, hfz, hnd⟩ := hW
  have hA : DataW.TrodAll enc Try.prog W 0 (fun _ => true) true Try.f7.params.toList args.toList ds p := hA0
  rw [Try.params7] at hA hval
  obtain ⟨v0, vs0, d0, ds0, p0, q0, hargs, rfl, rfl, h0, r0⟩ := trodAll_cons hA
  obtain ⟨v1, vs1, d1, ds1, p1, q1, rfl, rfl, rfl, h1, r1⟩ := trodAll_cons r0
  obtain ⟨v2, vs2, d2, ds2, p2, q2, rfl, rfl, rfl, h2, r2⟩ := trodAll_cons r1
  obtain ⟨v3, vs3, d3, ds3, p3, q3, rfl, rfl, rfl, h3, r3⟩ := trodAll_cons r2
  obtain ⟨v4, vs4, d4, ds4, p4, q4, rfl, rfl, rfl, h4, r4⟩ := trodAll_cons r3
  obtain ⟨v5, vs5, d5, ds5, p5, q5, rfl, rfl, rfl, h5, r5⟩ := trodAll_cons r4
  obtain ⟨v6, vs6, d6, ds6, p6, q6, rfl, rfl, rfl, h6, r6⟩ := trodAll_cons r5
  obtain ⟨v7, vs7, d7, ds7, p7, q7, rfl, rfl, rfl, h7, r7⟩ := trodAll_cons r6
  obtain ⟨rfl, rfl, rfl⟩ := trodAll_nil r7
  obtain rfl : args = #[v0, v1, v2, v3, v4, v5, v6, v7] := by cases args; simp_all
  obtain ⟨rfl, rfl⟩ := trodVars_none hV
  obtain ⟨a0, len0, cap0, rfl⟩ := okWide_slice Try.underlying22 (hval 0 22 v0 rfl rfl)
  have k0 := h0
  have lt0 : ∀ x ∈ p0, x.block < W.heap.size := by obtain ⟨m, hm⟩ := k0; exact DataW.trod_lt m _ _ _ hm
  obtain ⟨z0, w0⟩ : ∃ zs, IsRow .i64 W a0 len0 cap0 zs := by
    obtain ⟨fuel, hf⟩ := h0
    rcases open_ints Try.underlying22 Try.underlying3 (by kernel_rfl) hf with ⟨hcs, _⟩ | ⟨x, l, c, zs, hcs, _, hl, hm, hz, _, hcell, hwz⟩
    · simp [Value.cells] at hcs
      obtain ⟨rfl, rfl, rfl⟩ := hcs
      exact ⟨[], .inl ⟨rfl, rfl, rfl, rfl⟩⟩
    · simp [Value.cells] at hcs
      obtain ⟨rfl, rfl, rfl⟩ := hcs
      exact ⟨zs, .inr ⟨_, rfl, hl, hm, by simpa using hz, hcell, hwz⟩⟩
  obtain ⟨cs1, rfl, -⟩ := okWide_struct Try.underlying42 (hval 1 42 v1 rfl rfl)
  have k1 := h1
  have lt1 : ∀ x ∈ p1, x.block < W.heap.size := by obtain ⟨m, hm⟩ := k1; exact DataW.trod_lt m _ _ _ hm
  obtain ⟨fa1, a1, L1, cap1, ne1, e1, w1, wn1⟩ : ∃ farm p L c next, cs1 = #[.int .i64 farm, .slice p (List.length L) c, .int .i64 next] ∧ Debts W p L ∧ (p = none → c = 0) := by
    obtain ⟨fuel, hf⟩ := h1
    obtain ⟨farm, p, L, c, next, e, h1, h2, -, -⟩ := open_acc Try.underlying42 rfl rfl rfl (by kernel_rfl) (by kernel_rfl) (by kernel_rfl) (by kernel_rfl) Try.underlying3 Try.underlying40 Try.underlying3 ⟨Try.underlying49, rfl, by kernel_rfl, fun i hi => by match i, hi with | 0, _ => exact ⟨_, rfl, rfl, by kernel_rfl, Try.underlying3⟩ | 1, _ => exact ⟨_, rfl, rfl, by kernel_rfl, Try.underlying3⟩ | 2, _ => exact ⟨_, rfl, rfl, by kernel_rfl, Try.underlying3⟩ | 3, _ => exact ⟨_, rfl, rfl, by kernel_rfl, Try.underlying3⟩ | 4, _ => exact ⟨_, rfl, rfl, by kernel_rfl, Try.underlying3⟩⟩ hf
    exact ⟨farm, p, L, c, next, Array.ext' (by simpa [Value.cells] using e), h1, h2⟩
  subst e1
  obtain ⟨a2, rfl, rfl, rfl, w2⟩ := open_int Try.underlying3 (hval 2 3 v2 rfl rfl) h2
  obtain ⟨a3, rfl, rfl, rfl, w3⟩ := open_int Try.underlying3 (hval 3 3 v3 rfl rfl) h3
  obtain ⟨a4, rfl, rfl, rfl, w4⟩ := open_int Try.underlying3 (hval 4 3 v4 rfl rfl) h4
  obtain ⟨a5, rfl, rfl, rfl, w5⟩ := open_int Try.underlying3 (hval 5 3 v5 rfl rfl) h5
  obtain ⟨a6, rfl, rfl, rfl, w6⟩ := open_int Try.underlying3 (hval 6 3 v6 rfl rfl) h6
  obtain ⟨a7, rfl, rfl, rfl, w7⟩ := open_int Try.underlying3 (hval 7 3 v7 rfl rfl) h7
  clear hA0 hval0
  refine (debtAnswers_walk pairRound a0 len0 cap0 z0 fa1 a1 L1 cap1 ne1 a2 a3 a4 a5 a6 a7 W w0 w1 wn1 w2 w3 w4 w5 w6 w7).mono fun e W' ⟨he, bel⟩ => ?_
  subst he
  exact ⟨_, rfl, _, _, _, [], _, [], hW', trodAll_mk1 (shut_bool Try.underlying4 _), (trodAll_cons_mk (Below.trod laidOut (by kernel_rfl) (of_decide_eq_true (by kernel_rfl)) k0 bel lt0) (trodAll_cons_mk (Below.trod laidOut (by kernel_rfl) (of_decide_eq_true (by kernel_rfl)) k1 bel lt1) (trodAll_cons_mk (shut_int Try.underlying3 w2) (trodAll_cons_mk (shut_int Try.underlying3 w3) (trodAll_cons_mk (shut_int Try.underlying3 w4) (trodAll_cons_mk (shut_int Try.underlying3 w5) (trodAll_cons_mk (shut_int Try.underlying3 w6) (trodAll_cons_mk (shut_int Try.underlying3 w7) trodAll_mk0)))))))), rfl, bel.frame _, fun h => by cases h⟩

theorem over : Rows.debtAnswersRow.holds Try.pinned (OpenSpec.ofChange Rows.debtAnswersSpec) :=
  OpenClaim.holds_of_wide 7 Try.f7 rfl rfl rfl rfl rfl rfl rfl ⟨rfl, rfl, rfl, rfl, rfl⟩ rfl rfl rfl rfl rfl (by kernel_rfl) Try.func7 (by kernel_rfl)
    (of_decide_eq_true (by kernel_rfl)) (by unfold Func.isWrapper; first | (rw [if_pos (by decide +kernel)]; kernel_rfl) | (rw [if_neg (by decide +kernel)]; exact ⟨rfl, rfl⟩))
    (fun os started H enc _ => lifted os started H enc)

theorem proved : Rows.DebtAnswersSaid := over
#print axioms proved
end Go.Proofs.Ytdnddikchchdkaa.debtAnswers
