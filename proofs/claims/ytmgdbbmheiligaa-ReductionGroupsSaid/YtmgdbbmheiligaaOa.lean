/-
  append of one int to a row of the call's own, beside other rows of the call's own: these stay.
-/
import Derived.Test.YtmgdbbmheiligaaHi
import Derived.Maps.AppendAt
namespace Go.Proofs.Ytmgdbbmheiligaa
open Go.RowKit

theorem Own.append2 {P : Program} {T TS : TypeId} {i0 : TypeInfo} (hi : P.info? T = some i0) (hz0 : i0.zero = some (.int .i64 0)) (hz1 : i0.size = 1) (hz2 : i0.bytes = 8) (ht : P.underlying TS = some (.slice T)) {w : World} {ops : Array Oper} {rest : List Oper} {o : Oper} {a : Act} {Q : Exit → Act → World → Prop} (hgd : o.guard = none) (s x : Operand)
    (ho : o.op = .call { callee := .builtin .append, args := #[s, x], argTypes := #[TS, TS] }) (B : Nat) (v : Value) (xs : List Int) (y : Int) (hown : Own w T B v xs) (hs : a.eval s = v)
    (hx : a.eval x = .slice (some ⟨w.heap.size, 0, none⟩) 1 1) (hB : B ≤ w.heap.size) (hn : xs.length < 1099511627776)
    (h : ∀ v' w', Own w' T B v' (xs ++ [y]) → Below B w w' → w.heap.size < w'.heap.size → (∀ T' B' u ys, Own w T' B' u ys → (u.ownBlock = none ∨ u.ownBlock ≠ v.ownBlock) → Own w' T' B' u ys) → (v'.ownBlock = v.ownBlock ∨ v'.ownBlock = some (w.heap.size + 1)) → wpList P ops Q rest (a.put o.dst v') w') : wpList P ops Q (o :: rest) a (w.alloc (.cells #[.int .i64 y] T)) := by
  refine wpList_append_own_at _ hgd s x TS ho B T i0 (.int .i64 0) 1 8 ht hi hz0 hz1 hz2 rfl (by decide) v xs.length (xs.map (Value.int .i64)) hs (World.ownsRow.alloc hown _) ⟨w.heap.size, 0, none⟩ 1 1 [.int .i64 y] hx rfl (cell_one_new _ _ _) (by simp [Value.oneCell']) (by unfold maxLen; omega) (by omega) (by simp; omega) ?_
  intro v' w' h1 h2 _ h4
  refine h v' w' ?_ ?_ ?_ ?_ ?_
  · unfold Own
    rw [List.length_append, List.map_append]
    exact h1
  · refine (((Below.refl B w).alloc hB _).grown h2 (by simp; omega) fun k hk => ?_)
    exact (World.ownsRow.lt hown k hk).1
  · have := h2.size
    rw [World.size_alloc] at this
    omega
  · intro T' B' u ys hu hne
    exact World.ownsRow.kept (World.ownsRow.alloc hu _) h2 hne
  · rw [World.size_alloc] at h4
    exact h4

end Go.Proofs.Ytmgdbbmheiligaa
