/-
  MERGED (mergek.py): the texts Gr, Tb, Tr.
-/
import Derived.WalkKit
import Derived.Handy
import Derived.Below
import Derived.Laws.AppendOwnNone
import Derived.Laws.OwnMore
import Derived.Maps.AppendAt
import Derived.Test.YtflcdkibjakciaaGreatDoorM3
import Derived.Test.YtflcdkibjakciaaGreatDoorM2

namespace Go.Proofs.YtflcdkibjakciaaGreatDoor
open Go.RowKit

structure Shape (α : Type) where
  k : Nat
  cells : α → List Value
  len : ∀ a, (cells a).length = k
  pos : 0 < k
  one : ∀ a, ∀ u ∈ cells a, u.oneCell' = true

variable {α : Type} (S : Shape α)

def Shape.flat (L : List α) : List Value := L.flatMap S.cells

theorem Shape.flat_len (L : List α) : (S.flat L).length = L.length * S.k := by
  induction L with
  | nil => simp [Shape.flat]
  | cons a L ih =>
    show (S.cells a ++ S.flat L).length = _
    rw [List.length_append, ih, S.len, List.length_cons, Nat.add_mul]
    omega

theorem Shape.flat_append (L M : List α) : S.flat (L ++ M) = S.flat L ++ S.flat M := by unfold Shape.flat; rw [List.flatMap_append]

theorem Shape.flat_single (a : α) : S.flat [a] = S.cells a := by simp [Shape.flat]

theorem Shape.flat_at (L : List α) (j : Nat) (hj : j < L.length) (i : Nat) (hi : i < S.k) : (S.flat L)[j * S.k + i]? = (S.cells L[j])[i]? := by
  induction L generalizing j with
  | nil => simp at hj
  | cons a L ih =>
    show (S.cells a ++ S.flat L)[j * S.k + i]? = _
    match j with
    | 0 => rw [List.getElem?_append_left (by rw [S.len]; omega)]; simp
    | j + 1 =>
      rw [List.getElem?_append_right (by rw [S.len, Nat.add_mul]; omega), S.len]
      have e : (j + 1) * S.k + i - S.k = j * S.k + i := by rw [Nat.add_mul]; omega
      rw [e, ih j (by simpa using hj)]
      simp

theorem Shape.flat_set (L : List α) (j : Nat) (hj : j < L.length) (i : Nat) (hi : i < S.k) (u : Value) (a : α) (h : S.cells a = (S.cells L[j]).set i u) : (S.flat L).set (j * S.k + i) u = S.flat (L.set j a) := by
  induction L generalizing j with
  | nil => simp at hj
  | cons b L ih =>
    match j with
    | 0 =>
      show (S.cells b ++ S.flat L).set (0 * S.k + i) u = S.cells a ++ S.flat L
      rw [List.set_append_left _ _ (by rw [S.len]; omega), h]
      simp
    | j + 1 =>
      show (S.cells b ++ S.flat L).set ((j + 1) * S.k + i) u = S.cells b ++ S.flat (L.set j a)
      rw [List.set_append_right _ _ (by rw [S.len, Nat.add_mul]; omega), S.len]
      have e : (j + 1) * S.k + i - S.k = j * S.k + i := by rw [Nat.add_mul]; omega
      rw [e, ih j (by simpa using hj) (by simpa using h)]

theorem Shape.flat_ones (L : List α) : ∀ u ∈ S.flat L, u.oneCell' = true := fun u hu => by
  obtain ⟨a, -, ha⟩ := List.mem_flatMap.1 hu
  exact S.one a u ha

theorem Shape.flat_cut (L : List α) (m : Nat) (h : m ≤ L.length) : S.flat L = S.flat (L.take m) ++ S.flat (L.drop m) ∧ (S.flat (L.take m)).length = m * S.k :=
  ⟨by rw [← S.flat_append, List.take_append_drop], by rw [S.flat_len, List.length_take, Nat.min_eq_left h]⟩

theorem Shape.flat_take (L : List α) (m : Nat) : S.flat (L.take m) = (S.flat L).take (m * S.k) := by
  by_cases h : m ≤ L.length
  · obtain ⟨e, l⟩ := S.flat_cut L m h
    rw [e, ← l, List.take_left]
  · rw [List.take_of_length_le (by omega : L.length ≤ m), List.take_of_length_le (by rw [S.flat_len]; exact Nat.mul_le_mul_right _ (by omega))]

theorem Shape.flat_drop (L : List α) (m : Nat) (h : m ≤ L.length) : S.flat (L.drop m) = (S.flat L).drop (m * S.k) := by
  obtain ⟨e, l⟩ := S.flat_cut L m h
  rw [e, ← l, List.drop_left]

/-- The slice at address p (none: nil) lists the records L in world w. -/
def Recs (w : World) (p : Option Addr) (L : List α) : Prop :=
  L.length ≤ maxLen ∧ (L = [] ∨ ∃ b off, p = some ⟨b, off, none⟩ ∧ b < w.heap.size ∧ ∀ n u, (S.flat L)[n]? = some u → w.cell? ⟨b, off + n, none⟩ = some u)

variable {S}

theorem Recs.nil (w : World) (p : Option Addr) : Recs S w p [] := ⟨by simp, .inl rfl⟩

theorem Recs.below {w w' : World} {p : Option Addr} {L : List α} (h : Recs S w p L) (hb : Below w.heap.size w w') : Recs S w' p L := by
  refine ⟨h.1, ?_⟩
  rcases h.2 with h | ⟨b, off, hp, hl, hc⟩
  · exact .inl h
  · exact .inr ⟨b, off, hp, Nat.lt_of_lt_of_le hl hb.size, fun n u hu => (hb.cell (p := ⟨b, off + n, none⟩) hl).trans (hc n u hu)⟩

theorem Recs.drew {w : World} {p : Option Addr} {L : List α} (h : Recs S w p L) : Recs S w.drew p L := h.below ⟨rfl, rfl, rfl, Nat.le_refl _, fun _ _ => rfl⟩

theorem Recs.len {w : World} {p : Option Addr} {L : List α} (h : Recs S w p L) : L.length ≤ 9223372036854775807 := by
  have := h.1; unfold maxLen at this; omega

/-- The cells of record k. -/
theorem Recs.at {w : World} {p : Option Addr} {L : List α} (h : Recs S w p L) {k : Nat} (hk : k < L.length) :
    ∃ b off, p = some ⟨b, off, none⟩ ∧ b < w.heap.size ∧ ∀ i u, (S.cells L[k])[i]? = some u → w.cell? ⟨b, off + k * S.k + i, none⟩ = some u := by
  rcases h.2 with rfl | ⟨b, off, hp, hl, hc⟩
  · simp at hk
  · refine ⟨b, off, hp, hl, fun i u hu => ?_⟩
    have hi : i < S.k := by rw [← S.len L[k]]; exact (List.getElem?_eq_some_iff.1 hu).1
    rw [Nat.add_assoc]
    exact hc _ _ ((S.flat_at L k hk i hi).trans hu)

theorem Recs.take {w : World} {p : Option Addr} {L : List α} (h : Recs S w p L) (m : Nat) : Recs S w p (L.take m) := by
  refine ⟨by rw [List.length_take]; have := h.1; omega, ?_⟩
  rcases h.2 with rfl | ⟨b, off, hp, hl, hc⟩
  · exact .inl (by simp)
  · exact .inr ⟨b, off, hp, hl, fun n u hu => hc n u (by
      rw [S.flat_take, List.getElem?_take] at hu
      split at hu
      · exact hu
      · cases hu)⟩

theorem Recs.drop {w : World} {b off : Nat} {L : List α} (h : Recs S w (some ⟨b, off, none⟩) L) (m : Nat) : Recs S w (some ⟨b, off + m * S.k, none⟩) (L.drop m) := by
  refine ⟨by rw [List.length_drop]; have := h.1; omega, ?_⟩
  rcases h.2 with rfl | ⟨b', off', hp, hl, hc⟩
  · exact .inl (by simp)
  · cases hp
    by_cases hm : m ≤ L.length
    · refine .inr ⟨b, off + m * S.k, rfl, hl, fun n u hu => ?_⟩
      rw [S.flat_drop L m hm, List.getElem?_drop] at hu
      rw [Nat.add_assoc]
      exact hc _ _ hu
    · exact .inl (List.drop_of_length_le (by omega))

/-- Whatever block of cells lists records. -/
theorem Recs.of_cells {w : World} {b off : Nat} {L : List α} (hm : L.length ≤ maxLen) (hb : b < w.heap.size) (h : ∀ n u, (S.flat L)[n]? = some u → w.cell? ⟨b, off + n, none⟩ = some u) : Recs S w (some ⟨b, off, none⟩) L :=
  ⟨hm, .inr ⟨b, off, rfl, hb, h⟩⟩

/-- A list that is written out. -/
theorem Recs.lit (w : World) (T : TypeId) (L : List α) (hl : L.length ≤ maxLen) : Recs S (w.alloc (.cells (S.flat L).toArray T)) (some ⟨w.heap.size, 0, none⟩) L := by
  refine Recs.of_cells hl (by simp) fun j u hu => ?_
  rw [Nat.zero_add, World.cell?_alloc_new]
  simpa using hu

/-! ### rows of the call's own -/
variable (S)
def OwnR (w : World) (T : TypeId) (B : Nat) (v : Value) (L : List α) : Prop := w.ownsRow B T S.k v L.length (S.flat L)

/-- What a program's table says of a type of records and of its slices. -/
structure Elem (P : Program) (T TS : TypeId) (bytes : Nat) : Prop where
  ex : ∃ i0 z, P.info? T = some i0 ∧ i0.zero = some z ∧ i0.size = S.k ∧ i0.bytes = bytes ∧ z.cells.size = S.k
  ts : P.underlying TS = some (.slice T)
variable {S}

theorem OwnR.nil (w : World) (T : TypeId) (B : Nat) : OwnR S w T B (.slice none 0 0) [] := World.ownsRow_nil w B T S.k

theorem OwnR.blocks {w w' : World} {T : TypeId} {B : Nat} {v : Value} {L : List α} (h : OwnR S w T B v L) (hb : ∀ g, v.ownBlock = some g → B ≤ g → g < w.heap.size → w'.heap[g]? = w.heap[g]?) : OwnR S w' T B v L := by
  refine ⟨h.1, ?_⟩
  rcases h.2 with hn | ⟨g, cap, cur, h1, h2, h3, h4⟩
  · exact .inl hn
  · exact .inr ⟨g, cap, cur, h1, h2, (hb g (by rw [h1]; rfl) h2 (Array.getElem?_eq_some_iff.1 h3).1).trans h3, h4⟩

theorem OwnR.below {w w' : World} {T : TypeId} {B : Nat} {v : Value} {L : List α} (h : OwnR S w T B v L) (hb : Below w.heap.size w w') : OwnR S w' T B v L := h.blocks fun g _ _ hg => hb.block g hg

theorem OwnR.drew {w : World} {T : TypeId} {B : Nat} {v : Value} {L : List α} (h : OwnR S w T B v L) : OwnR S w.drew T B v L := h.blocks fun _ _ _ _ => rfl

theorem OwnR.mono {w : World} {T : TypeId} {B B' : Nat} {v : Value} {L : List α} (h : OwnR S w T B v L) (hB : B' ≤ B) : OwnR S w T B' v L := by
  refine ⟨h.1, ?_⟩
  rcases h.2 with hn | ⟨g, cap, cur, h1, h2, h3, h4⟩
  · exact .inl hn
  · exact .inr ⟨g, cap, cur, h1, by omega, h3, h4⟩

theorem OwnR.lt {w : World} {T : TypeId} {B : Nat} {v : Value} {L : List α} (h : OwnR S w T B v L) {g : Nat} (hg : v.ownBlock = some g) : B ≤ g ∧ g < w.heap.size := World.ownsRow.lt h g hg

/-- The slice itself: its length and its records. -/
theorem OwnR.cut {w : World} {T : TypeId} {B : Nat} {v : Value} {L : List α} (h : OwnR S w T B v L) {n : Nat} (hn : L.length = n) :
    ∃ p c, v = .slice p n c ∧ (p = none → c = 0 ∧ n = 0) ∧ (∀ x, p = some x → x.off = 0 ∧ x.spot = none ∧ B ≤ x.block ∧ x.block < w.heap.size) ∧ n ≤ c ∧ c ≤ maxLen ∧ Recs S w p L := by
  subst hn
  rcases h.2 with ⟨hv, hn⟩ | ⟨g, cap, cur, hv, hB, hg, hle, hm, hs, ht⟩
  · obtain rfl := List.length_eq_zero_iff.1 hn
    exact ⟨none, 0, hv, fun _ => ⟨rfl, rfl⟩, fun x hx => (by cases hx), (by simp), (by unfold maxLen; omega), Recs.nil _ _⟩
  · refine ⟨_, cap, hv, fun h => by (cases h), fun x hx => ?_, hle, hm, ⟨by omega, .inr ⟨g, 0, rfl, (Array.getElem?_eq_some_iff.1 hg).1, fun j u hu => ?_⟩⟩⟩
    · cases hx
      exact ⟨rfl, rfl, hB, (Array.getElem?_eq_some_iff.1 hg).1⟩
    · have hj : j < L.length * S.k := by rw [← S.flat_len]; exact (List.getElem?_eq_some_iff.1 hu).1
      have := congrArg (fun l => l[j]?) ht
      simp only [List.getElem?_take, if_pos hj] at this
      rw [hu] at this
      rw [Nat.zero_add]
      simp only [World.cell?, hg]
      simpa using this

/-- Record k of a row of the call's own: its cells, which may be written. -/
theorem OwnR.at {w : World} {T : TypeId} {B c n : Nat} {p : Option Addr} {L : List α} (h : OwnR S w T B (.slice p n c) L) {k : Nat} (hk : k < L.length) :
    ∃ g, p = some ⟨g, 0, none⟩ ∧ n = L.length ∧ B ≤ g ∧ g < w.heap.size ∧ (∀ i u, (S.cells L[k])[i]? = some u → w.cell? ⟨g, k * S.k + i, none⟩ = some u) ∧ (∀ i, w.frozen? ⟨g, i, none⟩ = false) ∧
      (∀ i u a, i < S.k → S.cells a = (S.cells L[k]).set i u → OwnR S (w.setCell ⟨g, k * S.k + i, none⟩ u) T B (.slice p n c) (L.set k a)) := by
  have hl := World.ownsRow.lt h
  rcases h.2 with ⟨hv, hn⟩ | ⟨g, cap, cur, hv, hB, hg, hle, hm, hs, ht⟩
  · omega
  · simp only [Value.slice.injEq] at hv
    obtain ⟨rfl, rfl, rfl⟩ := hv
    have h' : w.ownsRow B T S.k (.slice (some ⟨g, 0, none⟩) L.length c) L.length (S.flat L) := h
    refine ⟨g, rfl, rfl, hB, (hl g rfl).2, fun i u hu => ?_, fun i => h'.frozenAt _, fun i u a hi ha => ?_⟩
    · have hi : i < S.k := by rw [← S.len L[k]]; exact (List.getElem?_eq_some_iff.1 hu).1
      have hb : k * S.k + i < L.length * S.k := by
        have := Nat.mul_le_mul_right S.k (show k + 1 ≤ L.length by omega)
        rw [Nat.add_mul] at this
        omega
      rw [h'.cellAt _ hb, S.flat_at L k hk i hi]
      exact hu
    · have := h'.stored (k * S.k + i) u
      rw [S.flat_set L k hk i hi u a ha] at this
      unfold OwnR
      rw [List.length_set]
      exact this.1

/-- What an append leaves: the row, nothing else below B changed, other rows of the call's own stay. -/
structure Appends (w w' : World) (B H : Nat) (v v' : Value) : Prop where
  below : Below B w w'
  size : w.heap.size ≤ w'.heap.size
  far : ∀ k, k < w.heap.size → v.ownBlock ≠ some k → w'.heap[k]? = w.heap[k]?
  block : v'.ownBlock = v.ownBlock ∨ v'.ownBlock = some H

theorem Appends.keep {β : Type} {S' : Shape β} {w w' : World} {B H : Nat} {v v' : Value} (h : Appends w w' B H v v') {T : TypeId} {B' : Nat} {u : Value} {M : List β} (hu : OwnR S' w T B' u M) (hne : u.ownBlock = none ∨ u.ownBlock ≠ v.ownBlock) : OwnR S' w' T B' u M :=
  hu.blocks fun g hg _ hl => h.far g hl (by
    rcases hne with h | h
    · rw [h] at hg; cases hg
    · rw [hg] at h; exact fun e => h e.symm)

/-- append of one record that lies in a new block. -/
theorem OwnR.append {P : Program} {T TS : TypeId} {bytes : Nat} (he : Elem S P T TS bytes) {w : World} {ops : Array Oper} {rest : List Oper} {o : Oper} {a : Act} {Q : Exit → Act → World → Prop} (hgd : o.guard = none) (s x : Operand)
    (ho : o.op = .call { callee := .builtin .append, args := #[s, x], argTypes := #[TS, TS] }) (B : Nat) (v : Value) (L : List α) (y : α) (cs : Array Value) (hcs : cs.toList = S.cells y) (hown : OwnR S w T B v L) (hs : a.eval s = v)
    (hx : a.eval x = .slice (some ⟨w.heap.size, 0, none⟩) 1 1) (hB : B ≤ w.heap.size) (hn : L.length < 1073741824) (hby : bytes ≤ 65536)
    (h : ∀ v' w', OwnR S w' T B v' (L ++ [y]) → Appends w w' B (w.heap.size + 1) v v' → wpList P ops Q rest (a.put o.dst v') w') : wpList P ops Q (o :: rest) a (w.alloc (.cells cs T)) := by
  obtain ⟨i0, z, e1, e2, e3, e4, e5⟩ := he.ex
  have hb2 : (L.length + 1) * bytes ≤ 1073741824 * 65536 := Nat.mul_le_mul (by omega) hby
  refine wpList_append_own_at _ hgd s x TS ho B T i0 z S.k bytes he.ts e1 e2 e3 e4 e5 S.pos v L.length (S.flat L) hs (World.ownsRow.alloc hown _) ⟨w.heap.size, 0, none⟩ 1 1 (S.cells y) hx (by rw [S.len]; omega) ?_ (S.one y) (by unfold maxLen; omega) (by omega) (by simp; omega) ?_
  · intro j u hu
    rw [Go.WideShapes.add_plain, Nat.zero_add, World.cell?_alloc_new]
    rw [← hcs] at hu
    simpa using hu
  intro v' w' h1 h2 _ h4
  refine h v' w' ?_ ⟨(((Below.refl B w).alloc hB _).grown h2 (by simp; omega) fun k hk => (World.ownsRow.lt hown k hk).1), ?_, fun k hk hne => ?_, by rw [World.size_alloc] at h4; exact h4⟩
  · unfold OwnR
    rw [List.length_append, S.flat_append, S.flat_single]
    exact h1
  · have := h2.size
    rw [World.size_alloc] at this
    omega
  · rw [h2.block k (by rw [World.size_alloc]; omega) (fun e => hne e.symm)]
    exact (((Below.refl w.heap.size w).alloc (Nat.le_refl _) _).block k hk)

/-- append of a slice of records. -/
theorem OwnR.appendAll {P : Program} {T TS : TypeId} {bytes : Nat} (he : Elem S P T TS bytes) {w : World} {ops : Array Oper} {rest : List Oper} {o : Oper} {a : Act} {Q : Exit → Act → World → Prop} (hgd : o.guard = none) (s x : Operand)
    (ho : o.op = .call { callee := .builtin .append, args := #[s, x], argTypes := #[TS, TS] }) (B : Nat) (v : Value) (L M : List α) (p : Option Addr) (c n : Nat) (hM : M.length = n) (hown : OwnR S w T B v L) (hsrc : Recs S w p M) (hp : p = none → c = 0) (hs : a.eval s = v)
    (hx : a.eval x = .slice p n c) (hB : B ≤ w.heap.size) (hn : L.length + n < 1073741824) (hby : bytes ≤ 65536)
    (h : ∀ v' w', OwnR S w' T B v' (L ++ M) → Appends w w' B w.heap.size v v' → wpList P ops Q rest (a.put o.dst v') w') : wpList P ops Q (o :: rest) a w := by
  subst hM
  obtain ⟨i0, z, e1, e2, e3, e4, e5⟩ := he.ex
  have hb2 : (L.length + M.length) * bytes ≤ 1073741824 * 65536 := Nat.mul_le_mul (by omega) hby
  cases p with
  | none =>
    obtain rfl := hp rfl
    have hM : M = [] := by
      rcases hsrc.2 with h | ⟨b, off, h, _⟩
      · exact h
      · cases h
    subst hM
    exact wpList_append_own_none hgd s x TS ho B T i0 S.k he.ts e1 v L.length (S.flat L) hs hown hx (h v w (by rw [List.append_nil]; exact hown) ⟨Below.refl _ _, Nat.le_refl _, fun _ _ _ => rfl, .inl rfl⟩)
  | some ad =>
    refine wpList_append_own_at _ hgd s x TS ho B T i0 z S.k bytes he.ts e1 e2 e3 e4 e5 S.pos v L.length (S.flat L) hs hown ad M.length c (S.flat M) hx (S.flat_len M) ?_ (S.flat_ones M) (by unfold maxLen; omega) (by omega) hB ?_
    · intro j u hu
      rcases hsrc.2 with rfl | ⟨b', off', hp', hl, hc⟩
      · simp [Shape.flat] at hu
      · cases hp'
        rw [Go.WideShapes.add_plain]
        exact hc j u hu
    intro v' w' h1 h2 _ h4
    refine h v' w' ?_ ⟨(Below.refl B w).grown h2 hB fun k hk => (World.ownsRow.lt hown k hk).1, h2.size, fun k hk hne => h2.block k hk (fun e => hne e.symm), h4⟩
    unfold OwnR
    rw [List.length_append, S.flat_append]
    exact h1

/-- The same at a step of a region that draws its order, onto nil. -/
theorem OwnR.stepCopy {P : Program} {T TS : TypeId} {bytes : Nat} (he : Elem S P T TS bytes) {w : World} {ops : Array Oper} {o : Oper} {a : Act} {K : Act → World → Prop} {Q : Exit → Act → World → Prop} {E : Prop} (hgd : o.guard = none) (s x : Operand)
    (ho : o.op = .call { callee := .builtin .append, args := #[s, x], argTypes := #[TS, TS] }) (M : List α) (p : Option Addr) (c n : Nat) (hM : M.length = n) (hsrc : Recs S w p M) (hp : p = none → c = 0) (hs : a.eval s = .slice none 0 0)
    (hx : a.eval x = .slice p n c) (hn : n < 1073741824) (hby : bytes ≤ 65536)
    (h : ∀ v' w', OwnR S w' T w.heap.size v' M → Below w.heap.size w w' → K (a.put o.dst v') w') : if Region.wanted o (yielded ops a.tmps) = true then Oper.wp P o a w K Q else E := by
  subst hM
  have hw : Region.wanted o (yielded ops a.tmps) = true := by simp [Region.wanted, hgd]
  rw [if_pos hw]
  obtain ⟨i0, z, e1, e2, e3, e4, e5⟩ := he.ex
  have hb2 : (0 + M.length) * bytes ≤ 1073741824 * 65536 := Nat.mul_le_mul (by omega) hby
  have hown : OwnR S w T w.heap.size (.slice none 0 0) [] := OwnR.nil _ _ _
  cases p with
  | none =>
    obtain rfl := hp rfl
    have hM : M = [] := by
      rcases hsrc.2 with h | ⟨b, off, h, _⟩
      · exact h
      · cases h
    subst hM
    have hrun := run_append_owned_none (P := P) (w := w) w.heap.size TS o.type T i0 S.k he.ts e1 (.slice none 0 0) 0 (S.flat []) hown
    unfold Oper.wp
    simp [execOp, ho, resolve, invoke, builtin, hs, hx, hrun, Result.andThen]
    exact h _ _ hown (Below.refl _ _)
  | some ad =>
    obtain ⟨v', w', hr, h2, h3, h4⟩ := run_append_own (P := P) w w.heap.size TS o.type T i0 z S.k bytes he.ts e1 e2 e3 e4 e5 S.pos (.slice none 0 0) 0 (S.flat []) hown ad M.length c (S.flat M) (S.flat_len M) (fun j u hu => by
      rcases hsrc.2 with rfl | ⟨b', off', hp', hl, hc⟩
      · simp [Shape.flat] at hu
      · cases hp'
        rw [Go.WideShapes.add_plain]
        exact hc j u hu) (S.flat_ones M) (by unfold maxLen; omega) (by omega) (Nat.le_refl _)
    unfold Oper.wp execOp
    simp only [ho, resolve, invoke, builtin, Sem.run_bind, Sem.run_pure, Result.andThen_ok, List.map_toArray, List.map_cons, List.map_nil, hs, hx, hr]
    refine h v' w' ?_ ((Below.refl _ w).grown h3 (Nat.le_refl _) fun k hk => by simp [Value.ownBlock] at hk)
    unfold OwnR
    simpa [Shape.flat] using h2

theorem OwnR.setOther {w : World} {T : TypeId} {B : Nat} {v : Value} {L : List α} (h : OwnR S w T B v L) {b i : Nat} (hne : v.ownBlock ≠ some b) (u : Value) : OwnR S (w.setCell ⟨b, i, none⟩ u) T B v L :=
  h.blocks fun g hg _ _ => by
    have : b ≠ g := fun e => hne (by rw [hg, e])
    simp [World.setCell, Array.getElem?_modify, this]

end Go.Proofs.YtflcdkibjakciaaGreatDoor

namespace Go.Proofs.YtflcdkibjakciaaGreatDoor
open Go.RowKit

set_option maxHeartbeats 400000 in
theorem one_any (t : Nat) (l : List Int) (k : Nat) (n : Int) (w : World) (h : TapeAt w t l k) (h1 : 1 ≤ n) (hn : n ≤ 9223372036854775807) :
    Calls Tryz.prog 33 #[.pointer (some ⟨t, 0, none⟩), .int .i64 n] w fun e w' => e = .returned (.bool (gives l k n == n - 1)) ∧ TapeAt w' t l (taken l k) ∧ But t w w' := by
  have hn1 := next_any t l k n w h hn
  obtain ⟨g1, g2⟩ := gives_bd l k h1
  have HN := Lib.hid hn1
  clear hn1 h
  generalize gives l k n = g at *
  go_enter Tryz.func33, Tryz.ntmps33
  go_wp2_with (first | (go_at_call 30; refine (HN.out).mono ?_; rintro e w1 ⟨rfl, ht, hb⟩))
  go_ret
  exact ⟨rfl, ht, hb⟩

theorem Recs.but {α : Type} {S : Shape α} {w w' : World} {t : Nat} {p : Option Addr} {L : List α} (h : Recs S w p L) (hb : But t w w') (hp : ∀ a, p = some a → a.block ≠ t) : Recs S w' p L := by
  refine ⟨h.1, ?_⟩
  rcases h.2 with e | ⟨b, off, e, hl, hc⟩
  · exact .inl e
  · exact .inr ⟨b, off, e, Nat.lt_of_lt_of_le hl hb.size, fun n u hu => (hb.cell (p := ⟨b, off + n, none⟩) hl (hp ⟨b, off, none⟩ e)).trans (hc n u hu)⟩

theorem But.stp {t : Nat} {a b c : World} (h : But t a b) (hb : Below a.heap.size b c) : But t a c :=
  ⟨hb.os.trans h.os, hb.tape.trans h.tape, hb.output.trans h.output, Nat.le_trans h.size hb.size, fun i hi hn => (hb.block i hi).trans (h.block i hi hn)⟩

theorem But.stpB {t B : Nat} {a b c : World} (h : But t a b) (hb : Below B b c) (hB : a.heap.size ≤ B) : But t a c :=
  ⟨hb.os.trans h.os, hb.tape.trans h.tape, hb.output.trans h.output, Nat.le_trans h.size hb.size, fun k hk hne => (hb.block k (Nat.lt_of_lt_of_le hk hB)).trans (h.block k hk hne)⟩

theorem But.nxt {t : Nat} {a b c : World} (h : But t a b) (hb : Below b.heap.size b c) : But t a c := h.stp (hb.mono h.size)

theorem But.drew {t : Nat} {a b : World} (h : But t a b) : But t a b.drew := h.stp ((Below.refl _ _).drew)

theorem OwnR.but {α : Type} {S : Shape α} {w w' : World} {T : TypeId} {B t : Nat} {v : Value} {L : List α} (h : OwnR S w T B v L) (hb : But t w w') (hB : t < B) : OwnR S w' T B v L :=
  h.blocks fun g _ hg hl => hb.block g hl (by omega)

end Go.Proofs.YtflcdkibjakciaaGreatDoor

namespace Go.Proofs.YtflcdkibjakciaaGreatDoor
open Go.RowKit Te

structure RT where
  op : Int
  num : Int
  more : Int
  p : Option Addr
  n : Nat
  c : Nat

def tCells (r : RT) : List Value := [.int .i64 r.op, .int .i64 r.num, .int .i64 r.more, .slice r.p r.n r.c]

def ST : Shape RT := ⟨4, tCells, fun _ => rfl, by decide, fun a u hu => by
  simp only [tCells, List.mem_cons, List.not_mem_nil, or_false] at hu
  rcases hu with rfl | rfl | rfl | rfl <;> rfl⟩

def RT.val (r : RT) : Value := .agg #[.int .i64 r.op, .int .i64 r.num, .int .i64 r.more, .slice r.p r.n r.c]

/-- The row r is that of the term t. -/
structure RT.Is (r : RT) (t : Tm) : Prop where
  op : r.op = t.op
  num : r.num = t.num
  more : r.more = t.more
  n : r.n = t.kids.length
  c : r.n ≤ r.c
  z : r.p = none → r.c = 0

/-- The slice at address p lists the terms K in world w, d deep; all that it leads to lies in blocks of which Q holds. -/
def TmsAt (Q : Nat → Prop) (w : World) : Nat → Option Addr → List Tm → Prop
  | 0, _, K => K = []
  | d + 1, p, K => ∃ R : List RT, R.length = K.length ∧ Recs ST w p R ∧ (∀ a, p = some a → K = [] ∨ Q a.block) ∧ ∀ k (h : k < R.length) (h' : k < K.length), RT.Is R[k] K[k] ∧ TmsAt Q w d R[k].p K[k].kids

theorem TmsAt.nil (Q : Nat → Prop) (w : World) (d : Nat) (p : Option Addr) : TmsAt Q w d p [] := by
  cases d with
  | zero => rfl
  | succ d => exact ⟨[], rfl, Recs.nil _ _, fun _ _ => .inl rfl, fun k h => by simp at h⟩

theorem Recs.blocks {α : Type} {S : Shape α} {w w' : World} {p : Option Addr} {L : List α} (h : Recs S w p L) (hs : w.heap.size ≤ w'.heap.size) (hp : ∀ a, p = some a → L = [] ∨ w'.heap[a.block]? = w.heap[a.block]?) : Recs S w' p L := by
  refine ⟨h.1, ?_⟩
  rcases h.2 with e | ⟨b, off, e, hl, hc⟩
  · exact .inl e
  rcases hp _ e with e0 | hp
  · exact .inl e0
  · exact .inr ⟨b, off, e, Nat.lt_of_lt_of_le hl hs, fun n u hu => (World.cell?_of_block (w := w) (a := ⟨b, off + n, none⟩) hp).trans (hc n u hu)⟩

theorem Recs.lt {α : Type} {S : Shape α} {w : World} {p : Option Addr} {L : List α} (h : Recs S w p L) (h0 : L ≠ []) {a : Addr} (e : p = some a) : a.block < w.heap.size := by
  rcases h.2 with e0 | ⟨b, off, e1, hl, _⟩
  · exact absurd e0 h0
  · rw [e] at e1; cases e1; exact hl

theorem TmsAt.change {Q Q' : Nat → Prop} {w w' : World} (hs : w.heap.size ≤ w'.heap.size) (hb : ∀ b, Q b → b < w.heap.size → w'.heap[b]? = w.heap[b]? ∧ Q' b) : ∀ {d : Nat} {p : Option Addr} {K : List Tm}, TmsAt Q w d p K → TmsAt Q' w' d p K
  | 0, _, _, h => h
  | d + 1, p, K, ⟨R, h1, h2, h3, h4⟩ => by
    have hR : K = [] ↔ R = [] := by rw [← List.length_eq_zero_iff, ← List.length_eq_zero_iff, h1]
    have key : ∀ a, p = some a → K = [] ∨ (w'.heap[a.block]? = w.heap[a.block]? ∧ Q' a.block) := fun a e => by
      rcases h3 a e with h | h
      · exact .inl h
      · by_cases h0 : K = []
        · exact .inl h0
        · exact .inr (hb _ h (h2.lt (fun e => h0 (hR.2 e)) e))
    refine ⟨R, h1, h2.blocks hs fun a e => (key a e).imp hR.1 And.left, fun a e => (key a e).imp id And.right, fun k hk hk' => ⟨(h4 k hk hk').1, TmsAt.change hs hb (h4 k hk hk').2⟩⟩

theorem TmsAt.below {Q : Nat → Prop} {w w' : World} {d : Nat} {p : Option Addr} {K : List Tm} (h : TmsAt Q w d p K) (hb : Below w.heap.size w w') : TmsAt Q w' d p K := h.change hb.size fun b q hl => ⟨hb.block b hl, q⟩

theorem TmsAt.deeper {Q : Nat → Prop} {w : World} : ∀ {d : Nat} {p : Option Addr} {K : List Tm}, TmsAt Q w d p K → TmsAt Q w (d + 1) p K
  | 0, _, _, h => by cases (show _ = [] from h); exact TmsAt.nil _ _ _ _
  | _ + 1, _, _, ⟨R, h1, h2, h3, h4⟩ => ⟨R, h1, h2, h3, fun k hk hk' => ⟨(h4 k hk hk').1, (h4 k hk hk').2.deeper⟩⟩

theorem TmsAt.deep {Q : Nat → Prop} {w : World} {d e : Nat} {p : Option Addr} {K : List Tm} (h : TmsAt Q w d p K) (he : d ≤ e) : TmsAt Q w e p K := by
  induction he with
  | refl => exact h
  | step _ ih => exact ih.deeper

/-- The cells of a row. -/
structure TCells (w : World) (b o : Nat) (r : RT) : Prop where
  c0 : w.cell? ⟨b, o, none⟩ = some (.int .i64 r.op)
  c1 : w.cell? ⟨b, o + 1, none⟩ = some (.int .i64 r.num)
  c2 : w.cell? ⟨b, o + 2, none⟩ = some (.int .i64 r.more)
  c3 : w.cell? ⟨b, o + 3, none⟩ = some (.slice r.p r.n r.c)

/-- A term, by its row. -/
structure TV (Q : Nat → Prop) (w : World) (d : Nat) (r : RT) (t : Tm) : Prop where
  is : r.Is t
  at_ : TmsAt Q w d r.p t.kids

theorem TV.below {Q : Nat → Prop} {w w' : World} {d : Nat} {r : RT} {t : Tm} (h : TV Q w d r t) (hb : Below w.heap.size w w') : TV Q w' d r t := ⟨h.is, h.at_.below hb⟩
theorem TV.change {Q Q' : Nat → Prop} {w w' : World} {d : Nat} {r : RT} {t : Tm} (h : TV Q w d r t) (hs : w.heap.size ≤ w'.heap.size) (hb : ∀ b, Q b → b < w.heap.size → w'.heap[b]? = w.heap[b]? ∧ Q' b) : TV Q' w' d r t := ⟨h.is, h.at_.change hs hb⟩
theorem TV.deep {Q : Nat → Prop} {w : World} {d e : Nat} {r : RT} {t : Tm} (h : TV Q w d r t) (he : d ≤ e) : TV Q w e r t := ⟨h.is, h.at_.deep he⟩

theorem TmsAt.len {Q : Nat → Prop} {w : World} {d : Nat} {p : Option Addr} {K : List Tm} (h : TmsAt Q w d p K) : K.length ≤ 9223372036854775807 := by
  cases d with
  | zero => cases (show _ = [] from h); simp
  | succ d => obtain ⟨R, h1, h2, -⟩ := h; rw [← h1]; exact h2.len

/-- Kid k. -/
theorem TmsAt.kid {Q : Nat → Prop} {w : World} {d : Nat} {p : Option Addr} {K : List Tm} (h : TmsAt Q w d p K) {k : Nat} (hk : k < K.length) :
    ∃ e b off r, d = e + 1 ∧ p = some ⟨b, off, none⟩ ∧ b < w.heap.size ∧ TCells w b (off + k * 4) r ∧ TV Q w e r K[k] := by
  cases d with
  | zero => cases (show _ = [] from h); simp at hk
  | succ d =>
    obtain ⟨R, h1, h2, h3, h4⟩ := h
    have hk' : k < R.length := by omega
    obtain ⟨b, off, e, hl, hc⟩ := h2.at hk'
    exact ⟨d, b, off, R[k], rfl, e, hl, ⟨hc 0 _ rfl, hc 1 _ rfl, hc 2 _ rfl, hc 3 _ rfl⟩, (h4 k hk' hk).1, (h4 k hk' hk).2⟩

theorem TmsAt.q {Q : Nat → Prop} {w : World} {d : Nat} {p : Option Addr} {K : List Tm} (h : TmsAt Q w d p K) (h0 : K ≠ []) {a : Addr} (e : p = some a) : Q a.block := by
  cases d with
  | zero => exact absurd h h0
  | succ d =>
    obtain ⟨R, -, -, h3, -⟩ := h
    exact (h3 a e).resolve_left h0

end Go.Proofs.YtflcdkibjakciaaGreatDoor
