/-
  A ROW OF THE CALL's OWN: its cells as they come (with the spare ones), a clear of its end, a cut to its beginning. For slices.DeleteFunc.
-/
import Derived.Test.YtcghhagnibabeaaGreatDoorGr
import Derived.Lib.SliceRun
import Derived.BigFrame
namespace Go.Proofs.YtcghhagnibabeaaGreatDoor
open Go.RowKit

theorem run_clear_any {P : Program} (w : World) (t e : TypeId) (z : Value) (k : Nat) (ht : P.underlying t = some (.slice e)) (hv : ∀ w, (zeroValue e).run P w = .ok z w) (hz : z.cells.size = k) (h1 : ∀ u ∈ z.cells.toList, u.oneCell' = true) (b o n c : Nat) (hn : 0 < n) (hk : 0 < k)
    (hc : ∀ j, j < n * k → (w.cell? ⟨b, o + j, none⟩).isSome = true) (hf : ∀ j, j < n * k → w.frozen? ⟨b, o + j, none⟩ = false) :
    ∃ Z : List Value, Z.length = n * k ∧ ∀ ty, (Builtin.clear_ #[t] ty #[.slice (some ⟨b, o, none⟩) n c]).run P w = .ok (.tuple #[]) (w.setCells b o Z) := by
  have hl : (Builtin.zeroCells z.cells n).toList.length = n * k := by simp [Builtin.zeroCells, hz]
  have ho : ∀ u ∈ (Builtin.zeroCells z.cells n).toList, u.oneCell' = true := fun u hu => by
    simp only [Builtin.zeroCells, Array.toList_map, List.mem_map] at hu
    obtain ⟨i, -, rfl⟩ := hu
    rw [hz]
    have hlt : i % k < z.cells.size := by rw [hz]; exact Nat.mod_lt _ hk
    rw [getElem!_pos z.cells (i % k) hlt]
    exact h1 _ (by rw [← Array.getElem_toList]; exact List.getElem_mem _)
  have hst := run_storeCells_cells (P := P) b o (Builtin.zeroCells z.cells n).toList 0 w (by rw [hl]; simpa using hc) (by rw [hl]; simpa using hf) ho
  simp only [Nat.add_zero] at hst
  obtain ⟨m, rfl⟩ : ∃ m, n = m + 1 := ⟨n - 1, by omega⟩
  exact ⟨_, hl, fun ty => by simp [Builtin.clear_, run_underlying ht, hv, hst]⟩

/-- A block that holds cells of type T, unfrozen. -/
def BlockAt (w : World) (T : TypeId) (b : Nat) (cur : Array Value) : Prop := w.heap[b]? = some (.cells cur T (0, 0))

theorem BlockAt.set {w : World} {T : TypeId} {b : Nat} {cur : Array Value} (h : BlockAt w T b cur) (i : Nat) (v : Value) : BlockAt (w.setCell ⟨b, i, none⟩ v) T b (cur.setIfInBounds i v) := by
  unfold BlockAt at h ⊢
  simp [World.setCell, Array.getElem?_modify, h]

theorem BlockAt.below {w w' : World} {T : TypeId} {b : Nat} {cur : Array Value} (h : BlockAt w T b cur) (hb : Below w.heap.size w w') : BlockAt w' T b cur := by
  unfold BlockAt at h ⊢
  rw [hb.block b (Array.getElem?_eq_some_iff.1 h).1]; exact h

theorem BlockAt.drew {w : World} {T : TypeId} {b : Nat} {cur : Array Value} (h : BlockAt w T b cur) : BlockAt w.drew T b cur := h

theorem BlockAt.setCells {T : TypeId} {b : Nat} (Z : List Value) : ∀ {w : World} {cur : Array Value} (o : Nat), BlockAt w T b cur → ∃ cur', BlockAt (w.setCells b o Z) T b cur' ∧ cur'.size = cur.size ∧ ∀ j, j < o → cur'[j]? = cur[j]? := by
  induction Z with
  | nil => exact fun o h => ⟨_, h, rfl, fun _ _ => rfl⟩
  | cons v Z ih =>
    intro w cur o h
    obtain ⟨cur', h1, h2, h3⟩ := ih (o + 1) (h.set o v)
    refine ⟨cur', h1, by rw [h2]; simp, fun j hj => ?_⟩
    rw [h3 j (by omega)]
    simp [Nat.ne_of_gt hj]

theorem setCells_below (Z : List Value) : ∀ {w : World} {B b : Nat} (o : Nat), B ≤ b → Below B w (w.setCells b o Z) := by
  induction Z with
  | nil => exact fun o _ => Below.refl _ _
  | cons v Z ih => exact fun o hB => ((Below.refl _ _).setCell hB v).trans (ih (o + 1) hB)

theorem setCells_other (Z : List Value) : ∀ {w : World} {b k : Nat} (o : Nat), k ≠ b → (w.setCells b o Z).heap[k]? = w.heap[k]? := by
  induction Z with
  | nil => exact fun o _ => rfl
  | cons v Z ih =>
    intro w b k o hne
    show ((w.setCell ⟨b, o, none⟩ v).setCells b (o + 1) Z).heap[k]? = _
    rw [ih (o + 1) hne]
    simp [World.setCell, Array.getElem?_modify, Ne.symm hne]

variable {α : Type} {S : Shape α}

/-- The beginning of a block as a row of the call's own. -/
theorem OwnR.of_block {w : World} {T : TypeId} {B g cap : Nat} {cur : Array Value} {L : List α} (hb : BlockAt w T g cur) (hB : B ≤ g) (hl : L.length ≤ cap) (hm : cap ≤ maxLen) (hs : cur.size = cap * S.k) (ht : cur.toList.take (L.length * S.k) = S.flat L) : OwnR S w T B (.slice (some ⟨g, 0, none⟩) L.length cap) L :=
  ⟨S.flat_len L, .inr ⟨g, cap, cur, rfl, hB, hb, hl, hm, hs, ht⟩⟩

theorem OwnR.block {w : World} {T : TypeId} {B n cap : Nat} {p : Option Addr} {L : List α} (h : OwnR S w T B (.slice p n cap) L) (h0 : 0 < L.length) :
    ∃ g cur, p = some ⟨g, 0, none⟩ ∧ n = L.length ∧ B ≤ g ∧ g < w.heap.size ∧ BlockAt w T g cur ∧ L.length ≤ cap ∧ cap ≤ maxLen ∧ cur.size = cap * S.k ∧ cur.toList.take (L.length * S.k) = S.flat L := by
  rcases h.2 with ⟨hv, hn⟩ | ⟨g, cap', cur, hv, hB, hg, hle, hm, hs, ht⟩
  · omega
  · simp only [Value.slice.injEq] at hv
    obtain ⟨rfl, rfl, rfl⟩ := hv
    exact ⟨g, cur, rfl, rfl, hB, (Array.getElem?_eq_some_iff.1 hg).1, hg, hle, hm, hs, ht⟩

/-- append of a slice of records to a row of the call's own, at a step of a region that draws its order. -/
theorem OwnR.stepAll {P : Program} {T TS : TypeId} {bytes : Nat} (he : Elem S P T TS bytes) {w : World} {ops : Array Oper} {o : Oper} {a : Act} {K : Act → World → Prop} {Q : Exit → Act → World → Prop} {E : Prop} (hgd : o.guard = none) (s x : Operand)
    (ho : o.op = .call { callee := .builtin .append, args := #[s, x], argTypes := #[TS, TS] }) (B : Nat) (v : Value) (L M : List α) (p : Option Addr) (c n : Nat) (hM : M.length = n) (hown : OwnR S w T B v L) (hsrc : Recs S w p M) (hp : p = none → c = 0) (hs : a.eval s = v)
    (hx : a.eval x = .slice p n c) (hB : B ≤ w.heap.size) (hn : L.length + n < 1073741824) (hby : bytes ≤ 65536)
    (h : ∀ v' w', OwnR S w' T B v' (L ++ M) → Below B w w' → K (a.put o.dst v') w') : if Region.wanted o (yielded ops a.tmps) = true then Oper.wp P o a w K Q else E := by
  subst hM
  have hw : Region.wanted o (yielded ops a.tmps) = true := by simp [Region.wanted, hgd]
  rw [if_pos hw]
  obtain ⟨i0, z, e1, e2, e3, e4, e5⟩ := he.ex
  have hb2 : (L.length + M.length) * bytes ≤ 1073741824 * 65536 := Nat.mul_le_mul (by omega) hby
  cases p with
  | none =>
    obtain rfl := hp rfl
    have hM : M = [] := by
      rcases hsrc.2 with h | ⟨b, off, h, _⟩
      · exact h
      · cases h
    subst hM
    have hrun := run_append_owned_none (P := P) (w := w) B TS o.type T i0 S.k he.ts e1 v L.length (S.flat L) hown
    unfold Oper.wp
    simp [execOp, ho, resolve, invoke, builtin, hs, hx, hrun, Result.andThen]
    exact h _ _ (by rw [List.append_nil]; exact hown) (Below.refl _ _)
  | some ad =>
    obtain ⟨v', w', hr, h2, h3, h4⟩ := run_append_own (P := P) w B TS o.type T i0 z S.k bytes he.ts e1 e2 e3 e4 e5 S.pos v L.length (S.flat L) hown ad M.length c (S.flat M) (S.flat_len M) (fun j u hu => by
      rcases hsrc.2 with rfl | ⟨b', off', hp', hl, hc⟩
      · simp [Shape.flat] at hu
      · cases hp'
        rw [Go.WideShapes.add_plain]
        exact hc j u hu) (S.flat_ones M) (by unfold maxLen; omega) (by omega) hB
    unfold Oper.wp execOp
    simp only [ho, resolve, invoke, builtin, Sem.run_bind, Sem.run_pure, Result.andThen_ok, List.map_toArray, List.map_cons, List.map_nil, hs, hx, hr]
    refine h v' w' ?_ ((Below.refl _ w).grown h3 hB fun k hk => (World.ownsRow.lt hown k hk).1)
    unfold OwnR
    rw [List.length_append, S.flat_append]
    exact h2

end Go.Proofs.YtcghhagnibabeaaGreatDoor
