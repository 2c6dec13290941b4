/-
  append(nil, xs...): a copy of a slice of ints, in a row of the call's own.
-/
import Derived.Test.YtmgdbbmheiligaaHi
import Derived.Laws.AppendOwnNone
namespace Go.Proofs.Ytmgdbbmheiligaa
open Go.RowKit

theorem Own.copyOf {P : Program} {T TS : TypeId} {i0 : TypeInfo} (hi : P.info? T = some i0) (hz0 : i0.zero = some (.int .i64 0)) (hz1 : i0.size = 1) (hz2 : i0.bytes = 8) (ht : P.underlying TS = some (.slice T)) {w : World} {ops : Array Oper} {rest : List Oper} {o : Oper} {a : Act} {Q : Exit → Act → World → Prop} (hgd : o.guard = none) (s x : Operand)
    (ho : o.op = .call { callee := .builtin .append, args := #[s, x], argTypes := #[TS, TS] }) (xs : List Int) (p : Option Addr) (cap : Nat) (hI : Ints w p xs) (hs : a.eval s = .slice none 0 0)
    (hx : a.eval x = .slice p xs.length cap) (hn : xs.length < 1099511627776)
    (h : ∀ v' w', Own w' T w.heap.size v' xs → Below w.heap.size w w' → wpList P ops Q rest (a.put o.dst v') w') : wpList P ops Q (o :: rest) a w := by
  cases p with
  | none =>
    have hxs : xs = [] := by
      rcases hI.2 with h | ⟨b, off, hp, _⟩
      · exact h
      · cases hp
    subst hxs
    refine wpList_plain hgd fun K hK => ?_
    have hrun : (Builtin.append_ #[TS, TS] o.type #[.slice none 0 0, .slice none 0 cap]).run P w = .ok (.slice none 0 0) w := by
      simp [Builtin.append_, run_underlying ht, sizeOf, typeInfo, hi, Builtin.lenOf, Builtin.firstCells]
    have hx' : a.eval x = .slice none 0 cap := hx
    unfold Oper.wp
    simp [execOp, ho, resolve, invoke, builtin, hs, hx', hrun, Result.andThen]
    exact hK _ _ (h _ _ (Own.nil _ _ _) (Below.refl _ _))
  | some ad =>
    have hc : ∀ j u, (xs.map (Value.int .i64))[j]? = some u → w.cell? (ad.add j) = some u := fun j u hu => by
      have hj : j < xs.length := by
        have := (List.getElem?_eq_some_iff.1 hu).1
        simpa using this
      rcases hI.2 with h | ⟨b, off, hp, hl, hcell⟩
      · subst h; simp at hj
      · cases hp
        rw [Go.WideShapes.add_plain, hcell j hj]
        rw [List.getElem?_map, List.getElem?_eq_getElem hj] at hu
        rw [List.getD_eq_getElem?_getD, List.getElem?_eq_getElem hj]
        simpa using hu
    refine wpList_append_own _ hgd s x TS ho w.heap.size T i0 (.int .i64 0) 1 8 ht hi hz0 hz1 hz2 rfl (by decide) (.slice none 0 0) 0 [] hs (World.ownsRow_nil w _ T 1) ad xs.length cap (xs.map (Value.int .i64)) hx (by simp) hc (by simp [Value.oneCell']) (by unfold maxLen; omega) (by omega) (Nat.le_refl _) ?_
    intro v' w' h1 h2 _
    refine h v' w' ?_ ?_
    · unfold Own
      simpa using h1
    · exact ((Below.refl _ w).grown h2 (Nat.le_refl _) fun k hk => by cases hk)

end Go.Proofs.Ytmgdbbmheiligaa
