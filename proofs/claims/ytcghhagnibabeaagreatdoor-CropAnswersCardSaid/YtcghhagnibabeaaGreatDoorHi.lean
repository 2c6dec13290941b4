/-
  A SLICE OF ints THAT IS READ: what it lists, in which world; a nil one too.
-/
import Derived.Test.YtcghhagnibabeaaGreatDoorHp
import Derived.Test.YtcghhagnibabeaaGreatDoorPs
namespace Go.Proofs.YtcghhagnibabeaaGreatDoor
open Go.RowKit

/-- The slice at address p (none: nil) lists zs in world w. -/
def Ints (w : World) (p : Option Addr) (zs : List Int) : Prop :=
  zs.length ≤ maxLen ∧ (zs = [] ∨ ∃ b off, p = some ⟨b, off, none⟩ ∧ b < w.heap.size ∧ ∀ j, j < zs.length → w.cell? ⟨b, off + j, none⟩ = some (.int .i64 (zs.getD j 0)))

theorem Ints.nil (w : World) (p : Option Addr) : Ints w p [] := ⟨by simp, .inl rfl⟩

theorem Ints.below {w w' : World} {p : Option Addr} {zs : List Int} (h : Ints w p zs) (hb : Below w.heap.size w w') : Ints w' p zs := by
  refine ⟨h.1, ?_⟩
  rcases h.2 with h | ⟨b, off, hp, hl, hc⟩
  · exact .inl h
  · exact .inr ⟨b, off, hp, Nat.lt_of_lt_of_le hl hb.size, fun j hj => (hb.cell (p := ⟨b, off + j, none⟩) hl).trans (hc j hj)⟩

theorem Ints.at {w : World} {p : Option Addr} {zs : List Int} (h : Ints w p zs) {k : Nat} (hk : k < zs.length) : ∃ b off, p = some ⟨b, off, none⟩ ∧ b < w.heap.size ∧ w.cell? ⟨b, off + k, none⟩ = some (.int .i64 (zs.getD k 0)) := by
  rcases h.2 with rfl | ⟨b, off, hp, hl, hc⟩
  · simp at hk
  · exact ⟨b, off, hp, hl, hc k hk⟩

/-- The same with a name for the element, for a walk. -/
theorem Ints.get {w : World} {p : Option Addr} {zs : List Int} (h : Ints w p zs) {k : Nat} (hk : k < zs.length) : ∃ b off x, p = some ⟨b, off, none⟩ ∧ b < w.heap.size ∧ w.cell? ⟨b, off + k, none⟩ = some (.int .i64 x) ∧ Hid (zs.getD k 0 = x) := by
  obtain ⟨b, off, h1, h2, h3⟩ := h.at hk
  exact ⟨b, off, _, h1, h2, h3, rfl⟩

theorem Ints.len {w : World} {p : Option Addr} {zs : List Int} (h : Ints w p zs) : zs.length ≤ 9223372036854775807 := by
  have := h.1; unfold maxLen at this; omega

/-- Whatever block of cells lists ints. -/
theorem Ints.of_cells {w : World} {b off : Nat} {zs : List Int} (hm : zs.length ≤ maxLen) (hb : b < w.heap.size) (h : ∀ j, j < zs.length → w.cell? ⟨b, off + j, none⟩ = some (.int .i64 (zs.getD j 0))) : Ints w (some ⟨b, off, none⟩) zs :=
  ⟨hm, .inr ⟨b, off, rfl, hb, h⟩⟩

theorem getD_map_range (f : Nat → Int) (n j : Nat) (hj : j < n) : ((List.range n).map f).getD j 0 = f j := by
  simp [List.getD_eq_getElem?_getD, hj]

theorem sum_take_succ {l : List Int} {k : Nat} (hk : k < l.length) : Sh.sum (l.take (k + 1)) = Sh.sum (l.take k) + l.getD k 0 := by
  rw [List.take_succ_eq_append_getElem hk, Sh.sum_snoc, List.getD_eq_getElem?_getD, List.getElem?_eq_getElem hk]; rfl


/-- A list that is written out. -/
theorem Ints.lit (w : World) (T : TypeId) (l : List Int) (hl : l.length ≤ maxLen) : Ints (w.alloc (.cells (l.map (Value.int .i64)).toArray T)) (some ⟨w.heap.size, 0, none⟩) l := by
  refine Ints.of_cells hl (by simp) fun j hj => ?_
  rw [Nat.zero_add, World.cell?_alloc_new]
  simp [List.getD_eq_getElem?_getD, hj]

/-- A row of the call's own: block b holds f j at j, below n, and may be written. -/
def Row (w : World) (b n : Nat) (f : Nat → Value) : Prop := b < w.heap.size ∧ ∀ j, j < n → w.cell? ⟨b, j, none⟩ = some (f j) ∧ w.frozen? ⟨b, j, none⟩ = false

theorem Row.below {w w' : World} {b n : Nat} {f : Nat → Value} (h : Row w b n f) (hb : Below w.heap.size w w') : Row w' b n f :=
  ⟨Nat.lt_of_lt_of_le h.1 hb.size, fun j hj => ⟨(hb.cell (p := ⟨b, j, none⟩) h.1).trans (h.2 j hj).1, (hb.frozen (p := ⟨b, j, none⟩) h.1).trans (h.2 j hj).2⟩⟩

theorem Row.congr {w : World} {b n : Nat} {f g : Nat → Value} (h : Row w b n f) (e : ∀ j, j < n → f j = g j) : Row w b n g :=
  ⟨h.1, fun j hj => by rw [← e j hj]; exact h.2 j hj⟩

theorem Row.drew {w : World} {b n : Nat} {f : Nat → Value} (h : Row w b n f) : Row w.drew b n f := h

theorem Row.set {w : World} {b n i : Nat} {f : Nat → Value} (h : Row w b n f) (hi : i < n) (v : Value) : Row (w.setCell ⟨b, i, none⟩ v) b n fun j => if j = i then v else f j := by
  refine ⟨by simpa [World.setCell] using h.1, fun j hj => ⟨?_, by rw [World.frozen?_setCell]; exact (h.2 j hj).2⟩⟩
  show _ = some (if j = i then v else f j)
  by_cases e : j = i
  · subst e
    rw [if_pos rfl]
    exact World.cell?_setCell_same _ _ _ (h.2 j hj).1
  · rw [if_neg e, World.cell?_setCell_other _ _ _ _ (by intro e'; simp only [Addr.mk.injEq] at e'; exact e e'.2.1.symm)]
    exact (h.2 j hj).1

theorem Row.other {w : World} {b c n i : Nat} {f : Nat → Value} (h : Row w b n f) (hne : c ≠ b) (v : Value) : Row (w.setCell ⟨c, i, none⟩ v) b n f := by
  refine ⟨by simpa [World.setCell] using h.1, fun j hj => ⟨?_, by rw [World.frozen?_setCell]; exact (h.2 j hj).2⟩⟩
  rw [World.cell?_setCell_other _ _ _ _ (by intro e'; simp only [Addr.mk.injEq] at e'; exact hne e'.1)]
  exact (h.2 j hj).1

theorem Row.alloc {w : World} {b n : Nat} {f : Nat → Value} (h : Row w b n f) (o : Obj) : Row (w.alloc o) b n f :=
  h.below ((Below.refl _ _).alloc (Nat.le_refl _) o)

/-- A new block of n equal cells. -/
theorem Row.made (w : World) (n : Nat) (T : TypeId) (z : Value) : Row (w.alloc (.cells (madeCells #[z] n) T)) w.heap.size n fun _ => z := by
  refine ⟨by simp, fun j hj => ⟨?_, ?_⟩⟩
  · rw [World.cell?_alloc_new]
    have := congrArg (fun l => l[j]?) (toList_madeCells_one z n)
    simpa [hj] using this
  · unfold World.frozen?
    rw [heap_alloc_new w _]
    simp

theorem Row.ints {w : World} {b n : Nat} {f : Nat → Int} (h : Row w b n fun j => .int .i64 (f j)) (hn : n ≤ maxLen) : Ints w (some ⟨b, 0, none⟩) ((List.range n).map f) := by
  refine Ints.of_cells (by simpa using hn) h.1 fun j hj => ?_
  rw [List.length_map, List.length_range] at hj
  rw [getD_map_range f n j hj, Nat.zero_add]
  exact (h.2 j hj).1

/-- WHAT THE WALK IS TOLD OF A SLICE OF INTEGERS THAT CAME IN: it is nil; or it leads to a row of 'cap' cells, the numbers 'zs' (the first 'len' are its elements, the rest its spare room), each fitting its kind. -/
def IsRow (k : IntKind) (w : World) (a : Option Addr) (len cap : Nat) (zs : List Int) : Prop :=
  (a = none ∧ len = 0 ∧ cap = 0 ∧ zs = []) ∨
  ∃ x, a = some x ∧ len ≤ cap ∧ cap ≤ maxLen ∧ zs.length = cap ∧ (∀ i, i < zs.length → w.cell? (x.add i) = some (.int k (zs.getD i 0))) ∧ ∀ n ∈ zs, (Lit.int k n).wf = true

theorem IsRow.len {k : IntKind} {w : World} {a : Option Addr} {len cap : Nat} {zs : List Int} (h : IsRow k w a len cap zs) : len ≤ zs.length ∧ zs.length ≤ maxLen := by
  rcases h with ⟨_, rfl, _, rfl⟩ | ⟨x, _, h1, h2, h3, _, _⟩
  · simp
  · omega

theorem IsRow.wf {k : IntKind} {w : World} {a : Option Addr} {len cap : Nat} {zs : List Int} (h : IsRow k w a len cap zs) : ∀ n ∈ zs, (Lit.int k n).wf = true := by
  rcases h with ⟨_, _, _, rfl⟩ | ⟨x, _, _, _, _, _, h6⟩
  · simp
  · exact h6

theorem IsRow.get {k : IntKind} {w : World} {a : Option Addr} {len cap : Nat} {zs : List Int} (h : IsRow k w a len cap zs) {i : Nat} (hi : i < len) :
    ∃ b off x, a = some ⟨b, off, none⟩ ∧ b < w.heap.size ∧ w.cell? ⟨b, off + i, none⟩ = some (.int k x) ∧ Hid (zs.getD i 0 = x) := by
  have hl := h.len
  rcases h with ⟨_, rfl, _, _⟩ | ⟨x, rfl, h1, h2, h3, h4, _⟩
  · omega
  · have h0 := h4 0 (by omega)
    obtain ⟨b, off, spot⟩ := x
    have hspot : spot = none := by simpa [Addr.add] using World.cell?_spot h0
    subst hspot
    refine ⟨b, off, _, rfl, ?_, ?_, rfl⟩
    · have := World.block_lt_of_cell? w _ h0
      simpa [Addr.add] using this
    · rw [← Go.WideShapes.add_plain]
      exact h4 i (by omega)

theorem IsRow.ints {w : World} {a : Option Addr} {len cap : Nat} {zs : List Int} (h : IsRow .i64 w a len cap zs) : Ints w a (zs.take len) ∧ (zs.take len).length = len := by
  have hl := h.len
  have he : (zs.take len).length = len := by rw [List.length_take]; omega
  refine ⟨⟨by omega, ?_⟩, he⟩
  by_cases h0 : len = 0
  · subst h0; exact .inl rfl
  · obtain ⟨b, off, x, rfl, hb, hc, _⟩ := h.get (i := 0) (by omega)
    refine .inr ⟨b, off, rfl, hb, fun j hj => ?_⟩
    obtain ⟨b', off', y, e, _, hc', hy⟩ := h.get (i := j) (by omega)
    simp only [Option.some.injEq, Addr.mk.injEq] at e
    obtain ⟨rfl, rfl, _⟩ := e
    rw [hc', ← hy.out]
    simp [List.getD_eq_getElem?_getD, he ▸ hj]

/-! ### a slice of ints that the call itself appends to -/
def Own (w : World) (T : TypeId) (B : Nat) (v : Value) (xs : List Int) : Prop := w.ownsRow B T 1 v xs.length (xs.map (Value.int .i64))

theorem Own.nil (w : World) (T : TypeId) (B : Nat) : Own w T B (.slice none 0 0) [] := World.ownsRow_nil w B T 1

theorem Own.below {w w' : World} {T : TypeId} {B : Nat} {v : Value} {xs : List Int} (h : Own w T B v xs) (hb : Below w.heap.size w w') : Own w' T B v xs := by
  refine ⟨h.1, ?_⟩
  rcases h.2 with hn | ⟨g, cap, cur, h1, h2, h3, h4⟩
  · exact .inl hn
  · exact .inr ⟨g, cap, cur, h1, h2, (hb.block g (Array.getElem?_eq_some_iff.1 h3).1).trans h3, h4⟩

theorem Own.ints {w : World} {T : TypeId} {B : Nat} {v : Value} {xs : List Int} (h : Own w T B v xs) : ∃ p cap, v = .slice p xs.length cap ∧ Ints w p xs := by
  rcases h.2 with ⟨hv, hn⟩ | ⟨g, cap, cur, hv, hB, hg, hle, hm, hs, ht⟩
  · obtain rfl := List.length_eq_zero_iff.1 hn
    exact ⟨none, 0, hv, Ints.nil _ _⟩
  · refine ⟨_, cap, hv, Ints.of_cells (by omega) (Array.getElem?_eq_some_iff.1 hg).1 fun j hj => ?_⟩
    have e : cur.toList[j]? = some (Value.int .i64 (xs.getD j 0)) := by
      have := congrArg (fun l => l[j]?) ht
      simp only [Nat.mul_one, List.getElem?_take, if_pos hj] at this
      rw [this]
      simp [List.getD_eq_getElem?_getD, hj]
    rw [Nat.zero_add]
    simp only [World.cell?, hg]
    simpa using e

theorem Own.append {P : Program} {T TS : TypeId} {i0 : TypeInfo} (hi : P.info? T = some i0) (hz0 : i0.zero = some (.int .i64 0)) (hz1 : i0.size = 1) (hz2 : i0.bytes = 8) (ht : P.underlying TS = some (.slice T)) {w : World} {ops : Array Oper} {rest : List Oper} {o : Oper} {a : Act} {Q : Exit → Act → World → Prop} (hgd : o.guard = none) (s x : Operand)
    (ho : o.op = .call { callee := .builtin .append, args := #[s, x], argTypes := #[TS, TS] }) (B : Nat) (v : Value) (xs : List Int) (y : Int) (hown : Own w T B v xs) (hs : a.eval s = v)
    (hx : a.eval x = .slice (some ⟨w.heap.size, 0, none⟩) 1 1) (hB : B ≤ w.heap.size) (hn : xs.length < 1099511627776)
    (h : ∀ v' w', Own w' T B v' (xs ++ [y]) → Below B w w' → wpList P ops Q rest (a.put o.dst v') w') : wpList P ops Q (o :: rest) a (w.alloc (.cells #[.int .i64 y] T)) := by
  refine wpList_append_own _ hgd s x TS ho B T i0 (.int .i64 0) 1 8 ht hi hz0 hz1 hz2 rfl (by decide) v xs.length (xs.map (Value.int .i64)) hs (World.ownsRow.alloc hown _) ⟨w.heap.size, 0, none⟩ 1 1 [.int .i64 y] hx rfl (cell_one_new _ _ _) (by simp [Value.oneCell']) (by unfold maxLen; omega) (by omega) (by simp; omega) ?_
  intro v' w' h1 h2 _
  refine h v' w' ?_ ?_
  · unfold Own
    rw [List.length_append, List.map_append]
    exact h1
  · refine (((Below.refl B w).alloc hB _).grown h2 (by simp; omega) fun k hk => ?_)
    exact (World.ownsRow.lt hown k hk).1

end Go.Proofs.YtcghhagnibabeaaGreatDoor
