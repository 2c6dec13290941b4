/-
  A SLICE OF ints THAT IS READ: what it lists, in which world; a nil one too.
-/
import Derived.Test.YtlmikbjnibiajaaHp
import Derived.Test.YtlmikbjnibiajaaPs
namespace Go.Proofs.Ytlmikbjnibiajaa
open Go.RowKit

/-- The slice at address p (none: nil) lists zs in world w. -/
def Ints (w : World) (p : Option Addr) (zs : List Int) : Prop :=
  zs.length ≤ maxLen ∧ (zs = [] ∨ ∃ b off, p = some ⟨b, off, none⟩ ∧ b < w.heap.size ∧ ∀ j, j < zs.length → w.cell? ⟨b, off + j, none⟩ = some (.int .i64 (zs.getD j 0)))

theorem Ints.nil (w : World) (p : Option Addr) : Ints w p [] := ⟨by simp, .inl rfl⟩

theorem Ints.below {w w' : World} {p : Option Addr} {zs : List Int} (h : Ints w p zs) (hb : Below w.heap.size w w') : Ints w' p zs := by
  refine ⟨h.1, ?_⟩
  rcases h.2 with h | ⟨b, off, hp, hl, hc⟩
  · exact .inl h
  · exact .inr ⟨b, off, hp, Nat.lt_of_lt_of_le hl hb.size, fun j hj => (hb.cell (p := ⟨b, off + j, none⟩) hl).trans (hc j hj)⟩

theorem Ints.at {w : World} {p : Option Addr} {zs : List Int} (h : Ints w p zs) {k : Nat} (hk : k < zs.length) : ∃ b off, p = some ⟨b, off, none⟩ ∧ b < w.heap.size ∧ w.cell? ⟨b, off + k, none⟩ = some (.int .i64 (zs.getD k 0)) := by
  rcases h.2 with rfl | ⟨b, off, hp, hl, hc⟩
  · simp at hk
  · exact ⟨b, off, hp, hl, hc k hk⟩

/-- The same with a name for the element, for a walk. -/
theorem Ints.get {w : World} {p : Option Addr} {zs : List Int} (h : Ints w p zs) {k : Nat} (hk : k < zs.length) : ∃ b off x, p = some ⟨b, off, none⟩ ∧ b < w.heap.size ∧ w.cell? ⟨b, off + k, none⟩ = some (.int .i64 x) ∧ Hid (zs.getD k 0 = x) := by
  obtain ⟨b, off, h1, h2, h3⟩ := h.at hk
  exact ⟨b, off, _, h1, h2, h3, rfl⟩

theorem Ints.len {w : World} {p : Option Addr} {zs : List Int} (h : Ints w p zs) : zs.length ≤ 9223372036854775807 := by
  have := h.1; unfold maxLen at this; omega

/-- Whatever block of cells lists ints. -/
theorem Ints.of_cells {w : World} {b off : Nat} {zs : List Int} (hm : zs.length ≤ maxLen) (hb : b < w.heap.size) (h : ∀ j, j < zs.length → w.cell? ⟨b, off + j, none⟩ = some (.int .i64 (zs.getD j 0))) : Ints w (some ⟨b, off, none⟩) zs :=
  ⟨hm, .inr ⟨b, off, rfl, hb, h⟩⟩

theorem getD_map_range (f : Nat → Int) (n j : Nat) (hj : j < n) : ((List.range n).map f).getD j 0 = f j := by
  simp [List.getD_eq_getElem?_getD, hj]

theorem sum_take_succ {l : List Int} {k : Nat} (hk : k < l.length) : Sh.sum (l.take (k + 1)) = Sh.sum (l.take k) + l.getD k 0 := by
  rw [List.take_succ_eq_append_getElem hk, Sh.sum_snoc, List.getD_eq_getElem?_getD, List.getElem?_eq_getElem hk]; rfl


/-- A list that is written out. -/
theorem Ints.lit (w : World) (T : TypeId) (l : List Int) (hl : l.length ≤ maxLen) : Ints (w.alloc (.cells (l.map (Value.int .i64)).toArray T)) (some ⟨w.heap.size, 0, none⟩) l := by
  refine Ints.of_cells hl (by simp) fun j hj => ?_
  rw [Nat.zero_add, World.cell?_alloc_new]
  simp [List.getD_eq_getElem?_getD, hj]

/-- A row of the call's own: block b holds f j at j, below n, and may be written. -/
def Row (w : World) (b n : Nat) (f : Nat → Value) : Prop := b < w.heap.size ∧ ∀ j, j < n → w.cell? ⟨b, j, none⟩ = some (f j) ∧ w.frozen? ⟨b, j, none⟩ = false

theorem Row.below {w w' : World} {b n : Nat} {f : Nat → Value} (h : Row w b n f) (hb : Below w.heap.size w w') : Row w' b n f :=
  ⟨Nat.lt_of_lt_of_le h.1 hb.size, fun j hj => ⟨(hb.cell (p := ⟨b, j, none⟩) h.1).trans (h.2 j hj).1, (hb.frozen (p := ⟨b, j, none⟩) h.1).trans (h.2 j hj).2⟩⟩

theorem Row.congr {w : World} {b n : Nat} {f g : Nat → Value} (h : Row w b n f) (e : ∀ j, j < n → f j = g j) : Row w b n g :=
  ⟨h.1, fun j hj => by rw [← e j hj]; exact h.2 j hj⟩

theorem Row.drew {w : World} {b n : Nat} {f : Nat → Value} (h : Row w b n f) : Row w.drew b n f := h

theorem Row.set {w : World} {b n i : Nat} {f : Nat → Value} (h : Row w b n f) (hi : i < n) (v : Value) : Row (w.setCell ⟨b, i, none⟩ v) b n fun j => if j = i then v else f j := by
  refine ⟨by simpa [World.setCell] using h.1, fun j hj => ⟨?_, by rw [World.frozen?_setCell]; exact (h.2 j hj).2⟩⟩
  show _ = some (if j = i then v else f j)
  by_cases e : j = i
  · subst e
    rw [if_pos rfl]
    exact World.cell?_setCell_same _ _ _ (h.2 j hj).1
  · rw [if_neg e, World.cell?_setCell_other _ _ _ _ (by intro e'; simp only [Addr.mk.injEq] at e'; exact e e'.2.1.symm)]
    exact (h.2 j hj).1

theorem Row.other {w : World} {b c n i : Nat} {f : Nat → Value} (h : Row w b n f) (hne : c ≠ b) (v : Value) : Row (w.setCell ⟨c, i, none⟩ v) b n f := by
  refine ⟨by simpa [World.setCell] using h.1, fun j hj => ⟨?_, by rw [World.frozen?_setCell]; exact (h.2 j hj).2⟩⟩
  rw [World.cell?_setCell_other _ _ _ _ (by intro e'; simp only [Addr.mk.injEq] at e'; exact hne e'.1)]
  exact (h.2 j hj).1

theorem Row.alloc {w : World} {b n : Nat} {f : Nat → Value} (h : Row w b n f) (o : Obj) : Row (w.alloc o) b n f :=
  h.below ((Below.refl _ _).alloc (Nat.le_refl _) o)

/-- A new block of n equal cells. -/
theorem Row.made (w : World) (n : Nat) (T : TypeId) (z : Value) : Row (w.alloc (.cells (madeCells #[z] n) T)) w.heap.size n fun _ => z := by
  refine ⟨by simp, fun j hj => ⟨?_, ?_⟩⟩
  · rw [World.cell?_alloc_new]
    have := congrArg (fun l => l[j]?) (toList_madeCells_one z n)
    simpa [hj] using this
  · unfold World.frozen?
    rw [heap_alloc_new w _]
    simp

theorem Row.ints {w : World} {b n : Nat} {f : Nat → Int} (h : Row w b n fun j => .int .i64 (f j)) (hn : n ≤ maxLen) : Ints w (some ⟨b, 0, none⟩) ((List.range n).map f) := by
  refine Ints.of_cells (by simpa using hn) h.1 fun j hj => ?_
  rw [List.length_map, List.length_range] at hj
  rw [getD_map_range f n j hj, Nat.zero_add]
  exact (h.2 j hj).1

end Go.Proofs.Ytlmikbjnibiajaa
