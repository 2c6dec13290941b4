/-
  A row of pairs of the call's own: its elements may be written; a copy of another.
-/
import Derived.Test.YtmgdbbmheiligaaDi
import Derived.Test.YtmgdbbmheiligaaKp
import Derived.Laws.AppendOwnNone
import Derived.Laws.OwnMore
namespace Go.Proofs.Ytmgdbbmheiligaa
open Go.RowKit

theorem But.step {t : Nat} {a b c : World} (h : But t a b) (hb : Below a.heap.size b c) : But t a c :=
  ⟨hb.os.trans h.os, hb.tape.trans h.tape, hb.output.trans h.output, Nat.le_trans h.size hb.size, fun i hi hn => (hb.block i hi).trans (h.block i hi hn)⟩

theorem pcells_set1 (D : List (Int × Int)) (k : Nat) (y : Int) : (pcells D).set (k * 2 + 1) (.int .i64 y) = pcells (D.set k ((D.getD k (0, 0)).1, y)) := by
  induction D generalizing k with
  | nil => simp [pcells]
  | cons d D ih =>
    show (Value.int .i64 d.1 :: Value.int .i64 d.2 :: pcells D).set (k * 2 + 1) (.int .i64 y) = _
    match k with
    | 0 => rfl
    | k + 1 =>
      rw [show (k + 1) * 2 + 1 = (k * 2 + 1) + 1 + 1 by omega, List.set_cons_succ, List.set_cons_succ, ih]
      rfl

theorem pcells_set0 (D : List (Int × Int)) (k : Nat) (x : Int) : (pcells D).set (k * 2) (.int .i64 x) = pcells (D.set k (x, (D.getD k (0, 0)).2)) := by
  induction D generalizing k with
  | nil => simp [pcells]
  | cons d D ih =>
    show (Value.int .i64 d.1 :: Value.int .i64 d.2 :: pcells D).set (k * 2) (.int .i64 x) = _
    match k with
    | 0 => rfl
    | k + 1 =>
      rw [show (k + 1) * 2 = (k * 2) + 1 + 1 by omega, List.set_cons_succ, List.set_cons_succ, ih]
      rfl

theorem OwnP.butB {w w' : World} {T : TypeId} {t B : Nat} {v : Value} {D : List (Int × Int)} (h : OwnP w T B v D) (hB : t < B) (hb : But t w w') : OwnP w' T B v D := by
  refine ⟨h.1, ?_⟩
  rcases h.2 with hn | ⟨g, cap, cur, h1, h2, h3, h4⟩
  · exact .inl hn
  · exact .inr ⟨g, cap, cur, h1, h2, (hb.block g (Array.getElem?_eq_some_iff.1 h3).1 (by omega)).trans h3, h4⟩

/-- An element of a row of pairs of the call's own: its cells, which may be written. -/
theorem OwnP.at {w : World} {T : TypeId} {B c : Nat} {p : Option Addr} {D : List (Int × Int)} (h : OwnP w T B (.slice p D.length c) D) {k : Nat} (hk : k < D.length) :
    ∃ g, p = some ⟨g, 0, none⟩ ∧ B ≤ g ∧ g < w.heap.size ∧ w.cell? ⟨g, k * 2, none⟩ = some (.int .i64 (D.getD k (0, 0)).1) ∧ w.cell? ⟨g, k * 2 + 1, none⟩ = some (.int .i64 (D.getD k (0, 0)).2) ∧ w.frozen? ⟨g, k * 2, none⟩ = false ∧ w.frozen? ⟨g, k * 2 + 1, none⟩ = false ∧
      (∀ x, OwnP (w.setCell ⟨g, k * 2, none⟩ (.int .i64 x)) T B (.slice p D.length c) (D.set k (x, (D.getD k (0, 0)).2))) ∧ ∀ y, OwnP (w.setCell ⟨g, k * 2 + 1, none⟩ (.int .i64 y)) T B (.slice p D.length c) (D.set k ((D.getD k (0, 0)).1, y)) := by
  have hl := World.ownsRow.lt h
  rcases h.2 with ⟨hv, hn⟩ | ⟨g, cap, cur, hv, hB, hg, hle, hm, hs, ht⟩
  · omega
  · simp only [Value.slice.injEq] at hv
    obtain ⟨rfl, -, rfl⟩ := hv
    have h' : w.ownsRow B T 2 (.slice (some ⟨g, 0, none⟩) D.length c) D.length (pcells D) := h
    have hp := pcells_at D k hk
    refine ⟨g, rfl, hB, (hl g rfl).2, ?_, ?_, h'.frozenAt _, h'.frozenAt _, fun x => ?_, fun y => ?_⟩
    · rw [h'.cellAt (k * 2) (by omega)]; exact hp.1
    · rw [h'.cellAt (k * 2 + 1) (by omega)]; exact hp.2
    · have := h'.stored (k * 2) (.int .i64 x)
      rw [pcells_set0] at this
      unfold OwnP
      rw [List.length_set]
      exact this.1
    · have := h'.stored (k * 2 + 1) (.int .i64 y)
      rw [pcells_set1] at this
      unfold OwnP
      rw [List.length_set]
      exact this.1

/-- append of a slice of pairs (nil, empty or not) to an empty row of the call's own. -/
theorem OwnP.appendAll {P : Program} {T TS : TypeId} {i0 : TypeInfo} (hi : P.info? T = some i0) (hz0 : i0.zero = some (.agg #[.int .i64 0, .int .i64 0])) (hz1 : i0.size = 2) (hz2 : i0.bytes = 16) (ht : P.underlying TS = some (.slice T)) {w : World} {ops : Array Oper} {rest : List Oper} {o : Oper} {a : Act} {Q : Exit → Act → World → Prop} (hgd : o.guard = none) (s x : Operand)
    (ho : o.op = .call { callee := .builtin .append, args := #[s, x], argTypes := #[TS, TS] }) (B B' : Nat) (v : Value) (D : List (Int × Int)) (p : Option Addr) (c : Nat) (hown : OwnP w T B v []) (hsrc : OwnP w T B' (.slice p D.length c) D) (hs : a.eval s = v)
    (hx : a.eval x = .slice p D.length c) (hB : B ≤ w.heap.size) (hn : D.length < 1099511627776)
    (h : ∀ v' w', OwnP w' T B v' D → Below B w w' → wpList P ops Q rest (a.put o.dst v') w') : wpList P ops Q (o :: rest) a w := by
  rcases hsrc.2 with ⟨hv, hn0⟩ | ⟨g, cap, cur, hv, -, hg, hle, hm, hcs, htk⟩
  · obtain rfl := List.length_eq_zero_iff.1 hn0
    exact wpList_append_own_none hgd s x TS ho B T i0 2 ht hi v 0 [] hs hown (by rw [hx, hv]) (h v w hown (Below.refl _ _))
  · simp only [Value.slice.injEq] at hv
    obtain ⟨rfl, -, rfl⟩ := hv
    have h' : w.ownsRow B' T 2 (.slice (some ⟨g, 0, none⟩) D.length c) D.length (pcells D) := hsrc
    refine wpList_append_own _ hgd s x TS ho B T i0 (.agg #[.int .i64 0, .int .i64 0]) 2 16 ht hi hz0 hz1 hz2 rfl (by decide) v 0 [] hs hown ⟨g, 0, none⟩ D.length c (pcells D) hx (pcells_len D) ?_ ?_ (by unfold maxLen; omega) (by omega) hB ?_
    · intro j u hu
      have hj : j < D.length * 2 := by rw [← pcells_len]; exact (List.getElem?_eq_some_iff.1 hu).1
      rw [Go.WideShapes.add_plain, Nat.zero_add, h'.cellAt j hj]
      exact hu
    · intro u hu
      obtain ⟨d, -, hd⟩ := List.mem_flatMap.1 hu
      simp only [List.mem_cons, List.not_mem_nil, or_false] at hd
      rcases hd with rfl | rfl <;> rfl
    · intro v' w' h1 h2 _
      refine h v' w' ?_ ?_
      · unfold OwnP
        simpa using h1
      · exact (Below.refl B w).grown h2 hB fun k hk => (World.ownsRow.lt hown k hk).1

end Go.Proofs.Ytmgdbbmheiligaa
