/-
  PROVED HERE: the law AssessmentAnswers in its second form: for every input of bulk at most 1048576 the Go function returns true, and each argument reads afterwards as it read before. Condition: the bulk (the row's). The frame is after the seat's page on such statements, written by mkupto.py; the walk is assessmentAnswers_walk of YtefcalgjnkigjaaGreatUe.
-/
import Derived.Test.YtefcalgjnkigjaaGreatRows
import Derived.WalkKit
import Derived.ProofKit
import Derived.OpenShut
import Derived.JoinedCond
import Derived.Test.YtefcalgjnkigjaaGreatL40
import Derived.Test.YtefcalgjnkigjaaGreatL41
import Derived.ShutString
import Derived.ChangeOld
import Derived.Below
namespace Go.Proofs.YtefcalgjnkigjaaGreat.assessmentAnswers
open Go.ChangeShapes Go.WideShapes Go.ChangeAt Go.RowKit As Sc
set_option linter.unusedVariables false

theorem own : ownKnob Tryz.prog.godebug = none := by kernel_rfl
theorem laidOut : laidOutB Tryz.prog = true := by kernel_rfl
set_option maxRecDepth 100000 in
theorem lineTy : LineT Tryz.prog 89 := by
  refine ⟨⟨_, _, _, _, _, _, _, _, _, _, Tryz.underlying89, ⟨rfl, rfl, rfl, rfl, rfl⟩, ⟨by kernel_rfl, by kernel_rfl, by kernel_rfl, by kernel_rfl, by kernel_rfl⟩, ⟨Tryz.underlying3, Tryz.underlying3, Tryz.underlying22, Tryz.underlying3⟩, Tryz.underlying3, by kernel_rfl, Tryz.underlying87, ?_, ?_, ?_, Tryz.underlying85, ?_, ?_, ?_⟩⟩
  · exact ⟨rfl, rfl⟩
  · exact ⟨by kernel_rfl, by kernel_rfl⟩
  · exact Tryz.underlying3
  · exact ⟨rfl, rfl⟩
  · exact ⟨by kernel_rfl, by kernel_rfl⟩
  · exact ⟨Tryz.underlying3, Tryz.underlying3⟩
theorem farmTy : FarmT Tryz.prog 47 := ⟨⟨_, _, _, _, Tryz.underlying47, ⟨rfl, rfl, rfl⟩, ⟨by kernel_rfl, by kernel_rfl, by kernel_rfl⟩, ⟨Tryz.underlying3, Tryz.underlying3, Tryz.underlying45⟩, by kernel_rfl, lineTy⟩⟩
theorem meas {H : Type} : Meas (H := H) Rows.uptoBulk := by
  have e : ∀ l : List (DataW H), (l.map Rows.uptoBulk).sum = Rows.uptoBulkAll l := fun l => by
    induction l with
    | nil => rfl
    | cons a l ih => rw [List.map_cons, List.sum_cons, ih, Rows.uptoBulkAll]
  exact ⟨fun l r => by rw [e, Rows.uptoBulk]; omega, fun l => by rw [e, Rows.uptoBulk]; omega⟩
theorem termTy : TermT Tryz.prog 76 := ⟨⟨_, _, _, _, Tryz.underlying76, ⟨rfl, rfl, rfl, rfl⟩, ⟨by kernel_rfl, by kernel_rfl, by kernel_rfl, by kernel_rfl⟩, ⟨Tryz.underlying3, Tryz.underlying3, Tryz.underlying3, Tryz.underlying74⟩, by kernel_rfl⟩⟩
set_option maxRecDepth 100000 in
theorem schTy : SchT Tryz.prog 81 := by
  refine ⟨⟨_, _, _, _, _, _, _, _, _, _, Tryz.underlying81, ⟨rfl, rfl, rfl, rfl, rfl, rfl, rfl⟩, ⟨by kernel_rfl, by kernel_rfl, by kernel_rfl, by kernel_rfl, by kernel_rfl, by kernel_rfl, by kernel_rfl⟩, ⟨Tryz.underlying3, Tryz.underlying9, termTy, Tryz.underlying79, Tryz.underlying3, Tryz.underlying3, Tryz.underlying4⟩, by kernel_rfl, Tryz.underlying78, ?_, ?_, ?_⟩⟩
  · exact ⟨rfl, rfl⟩
  · exact ⟨by kernel_rfl, by kernel_rfl⟩
  · exact ⟨Tryz.underlying3, Tryz.underlying3⟩
set_option maxRecDepth 100000 in
theorem yearTy : YearT Tryz.prog 29 := by
  refine ⟨⟨_, _, _, _, _, _, _, _, _, _, _, _, _, _, _, _, _, _, Tryz.underlying29, ⟨rfl, rfl, rfl, rfl, rfl, rfl, rfl, rfl⟩, ⟨by kernel_rfl, by kernel_rfl, by kernel_rfl, by kernel_rfl, by kernel_rfl, by kernel_rfl, by kernel_rfl, by kernel_rfl⟩, ⟨Tryz.underlying23, Tryz.underlying24, Tryz.underlying27, Tryz.underlying3, Tryz.underlying3, Tryz.underlying3, Tryz.underlying3⟩, ⟨by kernel_rfl, schTy⟩, ⟨Tryz.underlying83, ?_⟩, ⟨Tryz.underlying150, ?_⟩, Tryz.underlying26, ?_, ?_, ?_⟩⟩
  · exact ⟨by kernel_rfl, rfl, rfl, by kernel_rfl, by kernel_rfl, Tryz.underlying3, Tryz.underlying3⟩
  · exact ⟨by kernel_rfl, rfl, rfl, by kernel_rfl, by kernel_rfl, Tryz.underlying3, Tryz.underlying3⟩
  · exact ⟨rfl, rfl, rfl⟩
  · exact ⟨by kernel_rfl, by kernel_rfl, by kernel_rfl⟩
  · exact ⟨Tryz.underlying3, Tryz.underlying3, Tryz.underlying3⟩

set_option maxRecDepth 100000 in
theorem contract (H : Type) (enc : TypeId × Value → H) (W : World) (base : Nat) (args : Array Value) (ds gs : List (DataW H)) (before : List MemPlace)
    (hval0 : ∀ (j : Nat) t v, Tryz.f4.params[j]? = some t → args[j]? = some v → Value.okWide Tryz.prog W .any base t v)
    (hW : DataW.Whole enc Tryz.prog Tryz.f4.params.toList Rows.assessmentAnswersSpec.vars false W args.toList ds gs before) (hk : Rows.uptoSmall H (ds ++ gs) = true) :
    Calls Tryz.prog 4 args W fun e W' => ∃ v, e = .returned v ∧ Rows.assessmentAnswersSpec.post enc Tryz.prog Tryz.f4 false true false false W args v W' := by
  have hval : ∀ (j : Nat) t v, Tryz.f4.params[j]? = some t → args[j]? = some v → Value.okWide Tryz.prog W .any base t v := hval0
  have hW' := hW
  obtain ⟨p, q, hA0, hV, rfl, hfz, hnd⟩ := hW
  have hA : DataW.TrodAll enc Tryz.prog W 0 (fun _ => true) true Tryz.f4.params.toList args.toList ds p := hA0
  rw [Tryz.params4] at hA hval
  obtain ⟨v0, vs0, d0, ds0, p0, q0, hargs, rfl, rfl, h0, r0⟩ := trodAll_cons hA
  obtain ⟨v1, vs1, d1, ds1, p1, q1, rfl, rfl, rfl, h1, r1⟩ := trodAll_cons r0
  obtain ⟨v2, vs2, d2, ds2, p2, q2, rfl, rfl, rfl, h2, r2⟩ := trodAll_cons r1
  obtain ⟨v3, vs3, d3, ds3, p3, q3, rfl, rfl, rfl, h3, r3⟩ := trodAll_cons r2
  obtain ⟨rfl, rfl, rfl⟩ := trodAll_nil r3
  obtain rfl : args = #[v0, v1, v2, v3] := by cases args; simp_all
  obtain ⟨rfl, rfl⟩ := trodVars_none hV
  obtain ⟨a0, len0, cap0, rfl⟩ := okWide_slice Tryz.underlying22 (hval 0 22 v0 rfl rfl)
  have k0 := h0
  have lt0 : ∀ x ∈ p0, x.block < W.heap.size := by obtain ⟨m, hm⟩ := k0; exact DataW.trod_lt m _ _ _ hm

  obtain ⟨z0, w0⟩ : ∃ zs, IsRow .i64 W a0 len0 cap0 zs := by
    obtain ⟨fuel, hf⟩ := h0
    rcases open_ints Tryz.underlying22 Tryz.underlying3 (by kernel_rfl) hf with ⟨hcs, _⟩ | ⟨x, l, c, zs, hcs, _, hl, hm, hz, _, hcell, hwz⟩
    · simp [Value.cells] at hcs
      obtain ⟨rfl, rfl, rfl⟩ := hcs
      exact ⟨[], .inl ⟨rfl, rfl, rfl, rfl⟩⟩
    · simp [Value.cells] at hcs
      obtain ⟨rfl, rfl, rfl⟩ := hcs
      exact ⟨zs, .inr ⟨_, rfl, hl, hm, by simpa using hz, hcell, hwz⟩⟩
  obtain ⟨cs1, rfl, sz1⟩ := okWide_struct Tryz.underlying29 (hval 1 29 v1 rfl rfl)
  have k1 := h1
  have lt1 : ∀ x ∈ p1, x.block < W.heap.size := by obtain ⟨m, hm⟩ := k1; exact DataW.trod_lt m _ _ _ hm

  have hb1 : Rows.uptoBulk d1 ≤ 1048576 := by have h := of_decide_eq_true hk; simp only [Rows.uptoBulkAll, List.cons_append] at h; omega
  obtain ⟨d1_, a1, z1, e1, w1⟩ : ∃ (d : Nat) (r : RY) (l : YLaw), cs1 = (yCells r).toArray ∧ YV (fun _ => True) W d r l := by
    obtain ⟨fuel, hf⟩ := h1
    have s : cs1.toList.length = 10 := (Array.length_toList).trans (sz1.trans (by kernel_rfl))
    obtain ⟨d, r, l, e, h1⟩ := open_year meas yearTy s (by show Rows.uptoBulk d1 ≤ _; omega) hf
    exact ⟨d, r, l, Array.ext' (by simpa using e), h1⟩
  subst e1
  obtain ⟨cs2, rfl, sz2⟩ := okWide_struct Tryz.underlying47 (hval 2 47 v2 rfl rfl)
  have k2 := h2
  have lt2 : ∀ x ∈ p2, x.block < W.heap.size := by obtain ⟨m, hm⟩ := k2; exact DataW.trod_lt m _ _ _ hm

  obtain ⟨a2, z2, e2, w2, x2⟩ : ∃ (r : RF) (f : FarmF), cs2 = (fCells r).toArray ∧ FV (fun _ => True) W r f ∧ ∀ x ∈ f.lines, -9223372036854775808 ≤ x.sch := by
    obtain ⟨fuel, hf⟩ := h2
    have s : cs2.toList.length = 3 := (Array.length_toList).trans (sz2.trans (by kernel_rfl))
    obtain ⟨r, f, e, h1, h2⟩ := open_farm farmTy s hf
    exact ⟨r, f, Array.ext' (by simpa using e), h1, h2⟩
  subst e2
  obtain ⟨a3, rfl, rfl, rfl, w3⟩ := open_int Tryz.underlying3 (hval 3 3 v3 rfl rfl) h3
  clear hA0 hval0
  refine (assessmentAnswers_walk a0 len0 cap0 z0 d1_ a1 z1 a2 z2 a3 W w0 w1 w2 x2 w3).mono fun e W' ⟨he, bel⟩ => ?_
  subst he
  exact ⟨_, rfl, _, _, _, [], _, [], hW', trodAll_mk1 (shut_bool Tryz.underlying4 _), (trodAll_cons_mk (Below.trod laidOut (by kernel_rfl) (of_decide_eq_true (by kernel_rfl)) k0 bel lt0) (trodAll_cons_mk (Below.trod laidOut (by kernel_rfl) (of_decide_eq_true (by kernel_rfl)) k1 bel lt1) (trodAll_cons_mk (Below.trod laidOut (by kernel_rfl) (of_decide_eq_true (by kernel_rfl)) k2 bel lt2) (trodAll_cons_mk (shut_int Tryz.underlying3 w3) trodAll_mk0)))), rfl, bel.frame _, fun h => by cases h⟩

set_option maxRecDepth 100000 in
theorem lifted (os : Os) (started : os.Started) (H : Type) (enc : TypeId × Value → H) (F : Stop.Interp) :
    ReturnsInHanded {} Tryz.checked os 4 .any ((Rows.OpenSpec.upto Rows.assessmentAnswersSpec).pre6 enc Tryz.prog Tryz.f4 Rows.assessmentAnswersUptoRow.domain false) (((Rows.OpenSpec.upto Rows.assessmentAnswersSpec).at F).post enc Tryz.prog Tryz.f4 false true false false) := by
  refine returnsInHanded_of_cond (C := Tryz.checked) (s := Rows.OpenSpec.upto Rows.assessmentAnswersSpec) (k := Rows.uptoSmall) rfl own started (by kernel_rfl) Tryz.func4
    (OpenSpec.witness (enc := enc) (C := Tryz.checked) (s := Rows.OpenSpec.upto Rows.assessmentAnswersSpec) (k := Rows.uptoSmall) rfl false ⟨#[], #[.slice none 0 0, .agg #[.slice none 0 0, .slice none 0 0, .int .i64 0, .int .i64 0, .int .i64 0, .slice none 0 0, .int .i64 0, .int .i64 0, .int .i64 0, .int .i64 0], .agg #[.int .i64 0, .int .i64 0, .slice none 0 0], .int .i64 0], []⟩ 8 (by kernel_rfl) (by kernel_rfl) (by kernel_rfl)
      (x := ([.nil, .agg [.nil, .nil, .agg [.lit (.int .i64 0), .lit (.int .i64 0), .lit (.int .i64 0)], .nil, .lit (.int .i64 0), .lit (.int .i64 0), .lit (.int .i64 0), .lit (.int .i64 0)], .agg [.lit (.int .i64 0), .lit (.int .i64 0), .nil], .lit (.int .i64 0)], [], [])) (by kernel_rfl) rfl (by kernel_rfl)) ?_
  intro W base args ds gs before hval hW _ hk _
  exact contract H enc W base args ds gs before hval hW hk

theorem over : Rows.assessmentAnswersUptoRow.holds Tryz.pinned (Rows.OpenSpec.upto Rows.assessmentAnswersSpec) :=
  OpenClaim.holds_of_cond 4 Tryz.f4 rfl rfl rfl rfl rfl rfl rfl ⟨rfl, rfl, rfl, rfl, rfl⟩ rfl rfl rfl rfl rfl (by kernel_rfl) Tryz.func4 (by kernel_rfl)
    (of_decide_eq_true (by kernel_rfl)) (by unfold Func.isWrapper; first | (rw [if_pos (by decide +kernel)]; kernel_rfl) | (rw [if_neg (by decide +kernel)]; exact ⟨rfl, rfl⟩))
    (fun os started H enc _ F => lifted os started H enc F)

theorem proved : Rows.AssessmentAnswersUptoSaid := over
#print axioms proved
end Go.Proofs.YtefcalgjnkigjaaGreat.assessmentAnswers
