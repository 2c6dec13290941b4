/-
  MERGED (mergek.py): the texts Hi, Kp.
-/
import Derived.Test.YtflcdkibjakciaaGreatDoorM2

namespace Go.Proofs.YtflcdkibjakciaaGreatDoor
open Go.RowKit

/-- The slice at address p (none: nil) lists zs in world w. -/
def Ints (w : World) (p : Option Addr) (zs : List Int) : Prop :=
  zs.length ≤ maxLen ∧ (zs = [] ∨ ∃ b off, p = some ⟨b, off, none⟩ ∧ b < w.heap.size ∧ ∀ j, j < zs.length → w.cell? ⟨b, off + j, none⟩ = some (.int .i64 (zs.getD j 0)))

theorem Ints.nil (w : World) (p : Option Addr) : Ints w p [] := ⟨by simp, .inl rfl⟩

theorem Ints.below {w w' : World} {p : Option Addr} {zs : List Int} (h : Ints w p zs) (hb : Below w.heap.size w w') : Ints w' p zs := by
  refine ⟨h.1, ?_⟩
  rcases h.2 with h | ⟨b, off, hp, hl, hc⟩
  · exact .inl h
  · exact .inr ⟨b, off, hp, Nat.lt_of_lt_of_le hl hb.size, fun j hj => (hb.cell (p := ⟨b, off + j, none⟩) hl).trans (hc j hj)⟩

theorem Ints.at {w : World} {p : Option Addr} {zs : List Int} (h : Ints w p zs) {k : Nat} (hk : k < zs.length) : ∃ b off, p = some ⟨b, off, none⟩ ∧ b < w.heap.size ∧ w.cell? ⟨b, off + k, none⟩ = some (.int .i64 (zs.getD k 0)) := by
  rcases h.2 with rfl | ⟨b, off, hp, hl, hc⟩
  · simp at hk
  · exact ⟨b, off, hp, hl, hc k hk⟩

/-- The same with a name for the element, for a walk. -/
theorem Ints.get {w : World} {p : Option Addr} {zs : List Int} (h : Ints w p zs) {k : Nat} (hk : k < zs.length) : ∃ b off x, p = some ⟨b, off, none⟩ ∧ b < w.heap.size ∧ w.cell? ⟨b, off + k, none⟩ = some (.int .i64 x) ∧ Hid (zs.getD k 0 = x) := by
  obtain ⟨b, off, h1, h2, h3⟩ := h.at hk
  exact ⟨b, off, _, h1, h2, h3, rfl⟩

theorem Ints.len {w : World} {p : Option Addr} {zs : List Int} (h : Ints w p zs) : zs.length ≤ 9223372036854775807 := by
  have := h.1; unfold maxLen at this; omega

/-- Whatever block of cells lists ints. -/
theorem Ints.of_cells {w : World} {b off : Nat} {zs : List Int} (hm : zs.length ≤ maxLen) (hb : b < w.heap.size) (h : ∀ j, j < zs.length → w.cell? ⟨b, off + j, none⟩ = some (.int .i64 (zs.getD j 0))) : Ints w (some ⟨b, off, none⟩) zs :=
  ⟨hm, .inr ⟨b, off, rfl, hb, h⟩⟩

theorem getD_map_range (f : Nat → Int) (n j : Nat) (hj : j < n) : ((List.range n).map f).getD j 0 = f j := by
  simp [List.getD_eq_getElem?_getD, hj]

theorem sum_take_succ {l : List Int} {k : Nat} (hk : k < l.length) : Sh.sum (l.take (k + 1)) = Sh.sum (l.take k) + l.getD k 0 := by
  rw [List.take_succ_eq_append_getElem hk, Sh.sum_snoc, List.getD_eq_getElem?_getD, List.getElem?_eq_getElem hk]; rfl


/-- A list that is written out. -/
theorem Ints.lit (w : World) (T : TypeId) (l : List Int) (hl : l.length ≤ maxLen) : Ints (w.alloc (.cells (l.map (Value.int .i64)).toArray T)) (some ⟨w.heap.size, 0, none⟩) l := by
  refine Ints.of_cells hl (by simp) fun j hj => ?_
  rw [Nat.zero_add, World.cell?_alloc_new]
  simp [List.getD_eq_getElem?_getD, hj]

/-- A row of the call's own: block b holds f j at j, below n, and may be written. -/
def Row (w : World) (b n : Nat) (f : Nat → Value) : Prop := b < w.heap.size ∧ ∀ j, j < n → w.cell? ⟨b, j, none⟩ = some (f j) ∧ w.frozen? ⟨b, j, none⟩ = false

theorem Row.below {w w' : World} {b n : Nat} {f : Nat → Value} (h : Row w b n f) (hb : Below w.heap.size w w') : Row w' b n f :=
  ⟨Nat.lt_of_lt_of_le h.1 hb.size, fun j hj => ⟨(hb.cell (p := ⟨b, j, none⟩) h.1).trans (h.2 j hj).1, (hb.frozen (p := ⟨b, j, none⟩) h.1).trans (h.2 j hj).2⟩⟩

theorem Row.congr {w : World} {b n : Nat} {f g : Nat → Value} (h : Row w b n f) (e : ∀ j, j < n → f j = g j) : Row w b n g :=
  ⟨h.1, fun j hj => by rw [← e j hj]; exact h.2 j hj⟩

theorem Row.drew {w : World} {b n : Nat} {f : Nat → Value} (h : Row w b n f) : Row w.drew b n f := h

theorem Row.set {w : World} {b n i : Nat} {f : Nat → Value} (h : Row w b n f) (hi : i < n) (v : Value) : Row (w.setCell ⟨b, i, none⟩ v) b n fun j => if j = i then v else f j := by
  refine ⟨by simpa [World.setCell] using h.1, fun j hj => ⟨?_, by rw [World.frozen?_setCell]; exact (h.2 j hj).2⟩⟩
  show _ = some (if j = i then v else f j)
  by_cases e : j = i
  · subst e
    rw [if_pos rfl]
    exact World.cell?_setCell_same _ _ _ (h.2 j hj).1
  · rw [if_neg e, World.cell?_setCell_other _ _ _ _ (by intro e'; simp only [Addr.mk.injEq] at e'; exact e e'.2.1.symm)]
    exact (h.2 j hj).1

theorem Row.other {w : World} {b c n i : Nat} {f : Nat → Value} (h : Row w b n f) (hne : c ≠ b) (v : Value) : Row (w.setCell ⟨c, i, none⟩ v) b n f := by
  refine ⟨by simpa [World.setCell] using h.1, fun j hj => ⟨?_, by rw [World.frozen?_setCell]; exact (h.2 j hj).2⟩⟩
  rw [World.cell?_setCell_other _ _ _ _ (by intro e'; simp only [Addr.mk.injEq] at e'; exact hne e'.1)]
  exact (h.2 j hj).1

theorem Row.alloc {w : World} {b n : Nat} {f : Nat → Value} (h : Row w b n f) (o : Obj) : Row (w.alloc o) b n f :=
  h.below ((Below.refl _ _).alloc (Nat.le_refl _) o)

/-- A new block of n equal cells. -/
theorem Row.made (w : World) (n : Nat) (T : TypeId) (z : Value) : Row (w.alloc (.cells (madeCells #[z] n) T)) w.heap.size n fun _ => z := by
  refine ⟨by simp, fun j hj => ⟨?_, ?_⟩⟩
  · rw [World.cell?_alloc_new]
    have := congrArg (fun l => l[j]?) (toList_madeCells_one z n)
    simpa [hj] using this
  · unfold World.frozen?
    rw [heap_alloc_new w _]
    simp

theorem Row.ints {w : World} {b n : Nat} {f : Nat → Int} (h : Row w b n fun j => .int .i64 (f j)) (hn : n ≤ maxLen) : Ints w (some ⟨b, 0, none⟩) ((List.range n).map f) := by
  refine Ints.of_cells (by simpa using hn) h.1 fun j hj => ?_
  rw [List.length_map, List.length_range] at hj
  rw [getD_map_range f n j hj, Nat.zero_add]
  exact (h.2 j hj).1

/-- WHAT THE WALK IS TOLD OF A SLICE OF INTEGERS THAT CAME IN: it is nil; or it leads to a row of 'cap' cells, the numbers 'zs' (the first 'len' are its elements, the rest its spare room), each fitting its kind. -/
def IsRow (k : IntKind) (w : World) (a : Option Addr) (len cap : Nat) (zs : List Int) : Prop :=
  (a = none ∧ len = 0 ∧ cap = 0 ∧ zs = []) ∨
  ∃ x, a = some x ∧ len ≤ cap ∧ cap ≤ maxLen ∧ zs.length = cap ∧ (∀ i, i < zs.length → w.cell? (x.add i) = some (.int k (zs.getD i 0))) ∧ ∀ n ∈ zs, (Lit.int k n).wf = true

theorem IsRow.len {k : IntKind} {w : World} {a : Option Addr} {len cap : Nat} {zs : List Int} (h : IsRow k w a len cap zs) : len ≤ zs.length ∧ zs.length ≤ maxLen := by
  rcases h with ⟨_, rfl, _, rfl⟩ | ⟨x, _, h1, h2, h3, _, _⟩
  · simp
  · omega

theorem IsRow.wf {k : IntKind} {w : World} {a : Option Addr} {len cap : Nat} {zs : List Int} (h : IsRow k w a len cap zs) : ∀ n ∈ zs, (Lit.int k n).wf = true := by
  rcases h with ⟨_, _, _, rfl⟩ | ⟨x, _, _, _, _, _, h6⟩
  · simp
  · exact h6

theorem IsRow.get {k : IntKind} {w : World} {a : Option Addr} {len cap : Nat} {zs : List Int} (h : IsRow k w a len cap zs) {i : Nat} (hi : i < len) :
    ∃ b off x, a = some ⟨b, off, none⟩ ∧ b < w.heap.size ∧ w.cell? ⟨b, off + i, none⟩ = some (.int k x) ∧ Hid (zs.getD i 0 = x) := by
  have hl := h.len
  rcases h with ⟨_, rfl, _, _⟩ | ⟨x, rfl, h1, h2, h3, h4, _⟩
  · omega
  · have h0 := h4 0 (by omega)
    obtain ⟨b, off, spot⟩ := x
    have hspot : spot = none := by simpa [Addr.add] using World.cell?_spot h0
    subst hspot
    refine ⟨b, off, _, rfl, ?_, ?_, rfl⟩
    · have := World.block_lt_of_cell? w _ h0
      simpa [Addr.add] using this
    · rw [← Go.WideShapes.add_plain]
      exact h4 i (by omega)

theorem IsRow.ints {w : World} {a : Option Addr} {len cap : Nat} {zs : List Int} (h : IsRow .i64 w a len cap zs) : Ints w a (zs.take len) ∧ (zs.take len).length = len := by
  have hl := h.len
  have he : (zs.take len).length = len := by rw [List.length_take]; omega
  refine ⟨⟨by omega, ?_⟩, he⟩
  by_cases h0 : len = 0
  · subst h0; exact .inl rfl
  · obtain ⟨b, off, x, rfl, hb, hc, _⟩ := h.get (i := 0) (by omega)
    refine .inr ⟨b, off, rfl, hb, fun j hj => ?_⟩
    obtain ⟨b', off', y, e, _, hc', hy⟩ := h.get (i := j) (by omega)
    simp only [Option.some.injEq, Addr.mk.injEq] at e
    obtain ⟨rfl, rfl, _⟩ := e
    rw [hc', ← hy.out]
    simp [List.getD_eq_getElem?_getD, he ▸ hj]

/-! ### a slice of ints that the call itself appends to -/
def Own (w : World) (T : TypeId) (B : Nat) (v : Value) (xs : List Int) : Prop := w.ownsRow B T 1 v xs.length (xs.map (Value.int .i64))

theorem Own.nil (w : World) (T : TypeId) (B : Nat) : Own w T B (.slice none 0 0) [] := World.ownsRow_nil w B T 1

theorem Own.below {w w' : World} {T : TypeId} {B : Nat} {v : Value} {xs : List Int} (h : Own w T B v xs) (hb : Below w.heap.size w w') : Own w' T B v xs := by
  refine ⟨h.1, ?_⟩
  rcases h.2 with hn | ⟨g, cap, cur, h1, h2, h3, h4⟩
  · exact .inl hn
  · exact .inr ⟨g, cap, cur, h1, h2, (hb.block g (Array.getElem?_eq_some_iff.1 h3).1).trans h3, h4⟩

theorem Own.ints {w : World} {T : TypeId} {B : Nat} {v : Value} {xs : List Int} (h : Own w T B v xs) : ∃ p cap, v = .slice p xs.length cap ∧ Ints w p xs := by
  rcases h.2 with ⟨hv, hn⟩ | ⟨g, cap, cur, hv, hB, hg, hle, hm, hs, ht⟩
  · obtain rfl := List.length_eq_zero_iff.1 hn
    exact ⟨none, 0, hv, Ints.nil _ _⟩
  · refine ⟨_, cap, hv, Ints.of_cells (by omega) (Array.getElem?_eq_some_iff.1 hg).1 fun j hj => ?_⟩
    have e : cur.toList[j]? = some (Value.int .i64 (xs.getD j 0)) := by
      have := congrArg (fun l => l[j]?) ht
      simp only [Nat.mul_one, List.getElem?_take, if_pos hj] at this
      rw [this]
      simp [List.getD_eq_getElem?_getD, hj]
    rw [Nat.zero_add]
    simp only [World.cell?, hg]
    simpa using e

theorem Own.append {P : Program} {T TS : TypeId} {i0 : TypeInfo} (hi : P.info? T = some i0) (hz0 : i0.zero = some (.int .i64 0)) (hz1 : i0.size = 1) (hz2 : i0.bytes = 8) (ht : P.underlying TS = some (.slice T)) {w : World} {ops : Array Oper} {rest : List Oper} {o : Oper} {a : Act} {Q : Exit → Act → World → Prop} (hgd : o.guard = none) (s x : Operand)
    (ho : o.op = .call { callee := .builtin .append, args := #[s, x], argTypes := #[TS, TS] }) (B : Nat) (v : Value) (xs : List Int) (y : Int) (hown : Own w T B v xs) (hs : a.eval s = v)
    (hx : a.eval x = .slice (some ⟨w.heap.size, 0, none⟩) 1 1) (hB : B ≤ w.heap.size) (hn : xs.length < 1099511627776)
    (h : ∀ v' w', Own w' T B v' (xs ++ [y]) → Below B w w' → wpList P ops Q rest (a.put o.dst v') w') : wpList P ops Q (o :: rest) a (w.alloc (.cells #[.int .i64 y] T)) := by
  refine wpList_append_own _ hgd s x TS ho B T i0 (.int .i64 0) 1 8 ht hi hz0 hz1 hz2 rfl (by decide) v xs.length (xs.map (Value.int .i64)) hs (World.ownsRow.alloc hown _) ⟨w.heap.size, 0, none⟩ 1 1 [.int .i64 y] hx rfl (cell_one_new _ _ _) (by simp [Value.oneCell']) (by unfold maxLen; omega) (by omega) (by simp; omega) ?_
  intro v' w' h1 h2 _
  refine h v' w' ?_ ?_
  · unfold Own
    rw [List.length_append, List.map_append]
    exact h1
  · refine (((Below.refl B w).alloc hB _).grown h2 (by simp; omega) fun k hk => ?_)
    exact (World.ownsRow.lt hown k hk).1

end Go.Proofs.YtflcdkibjakciaaGreatDoor

namespace Go.Proofs.YtflcdkibjakciaaGreatDoor
open Go.RowKit

/-- The rest of any number, from 0 to n - 1. -/
def mod (k n : Int) : Int := if n < 1 then 0 else k % n

theorem mod_bd (k : Int) {n : Int} (h : 1 ≤ n) : 0 ≤ mod k n ∧ mod k n < n := by
  unfold mod
  rw [if_neg (by omega)]
  exact ⟨Int.emod_nonneg _ (by omega), Int.emod_lt_of_pos _ (by omega)⟩

set_option maxHeartbeats 400000 in
theorem mod_any (k n : Int) (w : World) (_hk : -9223372036854775808 ≤ k) (hn : n ≤ 9223372036854775807) :
    Calls Tryz.prog 22 #[.int .i64 k, .int .i64 n] w fun e w' => e = .returned (.int .i64 (mod k n)) ∧ w = w' := by
  unfold mod
  by_cases h : n < 1
  · rw [if_pos h]
    go_enter Tryz.func22, Tryz.ntmps22
    go_wp2
    go_ret
    exact ⟨rfl, rfl⟩
  · rw [if_neg h]
    have h2 := Int.tmod_eq_emod (a := k) (b := n)
    have e1 := Int.emod_lt_of_pos k (show 0 < n by omega)
    have e2 := Int.emod_nonneg k (show n ≠ 0 by omega)
    have hm : k.tmod n < 0 ∧ k.tmod n + n = k % n ∨ ¬ k.tmod n < 0 ∧ k.tmod n = k % n := by
      by_cases hc : 0 ≤ k ∨ n ∣ k
      · rw [if_pos hc] at h2; omega
      · rw [if_neg hc] at h2
        have : k % n ≠ 0 := fun e => hc (.inr (Int.dvd_of_emod_eq_zero e))
        omega
    have hz : ¬ n = 0 := by omega
    generalize k % n = q at *
    clear h2
    have hb : -9223372036854775808 ≤ k.tmod n ∧ k.tmod n ≤ 9223372036854775807 := by omega
    generalize hT : k.tmod n = t at *
    rcases hm with ⟨m1, m2⟩ | ⟨m1, m2⟩
    · have M := Lib.hid m2
      clear m2
      have mm : IntKind.i64.wrap (t + n) = t + n := IntWalk.i64_in _ ⟨by omega, by have := M.out; omega⟩
      go_enter Tryz.func22, Tryz.ntmps22
      go_wp2
      go_ret
      exact ⟨ret_int (by rw [← M.out]), rfl⟩
    · subst m2
      go_enter Tryz.func22, Tryz.ntmps22
      go_wp2
      go_ret
      exact ⟨rfl, rfl⟩

/-- All but block t is as it was. -/
structure But (t : Nat) (w w' : World) : Prop where
  os : w'.os = w.os
  tape : w'.tape = w.tape
  output : w'.output = w.output
  size : w.heap.size ≤ w'.heap.size
  block : ∀ k, k < w.heap.size → k ≠ t → w'.heap[k]? = w.heap[k]?

theorem But.refl (t : Nat) (w : World) : But t w w := ⟨rfl, rfl, rfl, Nat.le_refl _, fun _ _ _ => rfl⟩
theorem But.trans {t : Nat} {a b c : World} (h : But t a b) (k : But t b c) : But t a c :=
  ⟨k.os.trans h.os, k.tape.trans h.tape, k.output.trans h.output, Nat.le_trans h.size k.size, fun i hi hn => (k.block i (Nat.lt_of_lt_of_le hi h.size) hn).trans (h.block i hi hn)⟩
theorem But.of_below {t : Nat} {a b : World} (h : Below a.heap.size a b) : But t a b := ⟨h.os, h.tape, h.output, h.size, fun i hi _ => h.block i hi⟩
theorem But.below {t B : Nat} {a b : World} (h : But t a b) (hB : B ≤ t) (hs : B ≤ a.heap.size) : Below B a b := ⟨h.os, h.tape, h.output, h.size, fun i hi => h.block i (by omega) (by omega)⟩
theorem But.cell {t : Nat} {a b : World} (h : But t a b) {p : Addr} (hp : p.block < a.heap.size) (hn : p.block ≠ t) : b.cell? p = a.cell? p := World.cell?_of_block (w := a) (h.block p.block hp hn)

theorem Ints.but {w w' : World} {t : Nat} {p : Option Addr} {l : List Int} (h : Ints w p l) (hb : But t w w') (hp : l = [] ∨ ∀ a, p = some a → a.block ≠ t) : Ints w' p l := by
  refine ⟨h.1, ?_⟩
  rcases h.2 with e | ⟨b, off, e, hl, hc⟩
  · exact .inl e
  rcases hp with e0 | hp
  · exact .inl e0
  · exact .inr ⟨b, off, e, Nat.lt_of_lt_of_le hl hb.size, fun j hj => (hb.cell (p := ⟨b, off + j, none⟩) hl (hp ⟨b, off, none⟩ e)).trans (hc j hj)⟩

/-- A tape at block t: the numbers l, of which n are taken. -/
structure TapeAt (w : World) (t : Nat) (l : List Int) (n : Nat) : Prop where
  row : ∃ p cap, w.cell? ⟨t, 0, none⟩ = some (.slice p l.length cap) ∧ Ints w p l ∧ (l = [] ∨ ∀ a, p = some a → a.block < t)
  at_ : w.cell? ⟨t, 1, none⟩ = some (.int .i64 (n : Int))
  fz : w.frozen? ⟨t, 1, none⟩ = false
  le : n ≤ l.length
  wf : ∀ x ∈ l, -9223372036854775808 ≤ x ∧ x ≤ 9223372036854775807
  lt : t < w.heap.size
  len : l.length ≤ 400

/-- What the tape gives next, and how many are taken then. -/
def gives (l : List Int) (at_ : Nat) (n : Int) : Int := if l.length ≤ at_ then 0 else mod (l.getD at_ 0) n
def taken (l : List Int) (at_ : Nat) : Nat := if l.length ≤ at_ then at_ else at_ + 1

theorem gives_bd (l : List Int) (a : Nat) {n : Int} (h : 1 ≤ n) : 0 ≤ gives l a n ∧ gives l a n < n := by
  unfold gives
  split
  · omega
  · exact mod_bd _ h

theorem TapeAt.belowB {w w' : World} {t B : Nat} {l : List Int} {n : Nat} (h : TapeAt w t l n) (hb : Below B w w') (hB : t < B) : TapeAt w' t l n := by
  obtain ⟨p, cap, h1, h2, h3⟩ := h.row
  refine ⟨⟨p, cap, (hb.cell (p := ⟨t, 0, none⟩) hB).trans h1, ⟨h2.1, ?_⟩, h3⟩, (hb.cell (p := ⟨t, 1, none⟩) hB).trans h.at_, (hb.frozen (p := ⟨t, 1, none⟩) hB).trans h.fz, h.le, h.wf, Nat.lt_of_lt_of_le h.lt hb.size, h.len⟩
  rcases h2.2 with e | ⟨b, off, e, hl, hc⟩
  · exact .inl e
  rcases h3 with e0 | h3
  · exact .inl e0
  · have hbt : b < t := h3 ⟨b, off, none⟩ e
    exact .inr ⟨b, off, e, Nat.lt_of_lt_of_le hl hb.size, fun j hj => (hb.cell (p := ⟨b, off + j, none⟩) (by show b < B; omega)).trans (hc j hj)⟩

theorem TapeAt.below {w w' : World} {t : Nat} {l : List Int} {n : Nat} (h : TapeAt w t l n) (hb : Below w.heap.size w w') : TapeAt w' t l n := h.belowB hb h.lt

theorem getD_bd {l : List Int} (h : ∀ x ∈ l, -9223372036854775808 ≤ x ∧ x ≤ 9223372036854775807) (k : Nat) : -9223372036854775808 ≤ l.getD k 0 ∧ l.getD k 0 ≤ 9223372036854775807 := by
  rw [List.getD_eq_getElem?_getD]
  rcases Nat.lt_or_ge k l.length with hi | hi
  · rw [List.getElem?_eq_getElem hi]; exact h _ (List.getElem_mem hi)
  · rw [List.getElem?_eq_none hi]; decide

set_option maxHeartbeats 1000000 in
theorem new_any (a : Option Addr) (len cap : Nat) (z : List Int) (w : World) (h : IsRow .i64 w a len cap z) :
    Calls Tryz.prog 9 #[.slice a len cap] w fun e w' => e = .returned (.pointer (some ⟨w.heap.size, 0, none⟩)) ∧ TapeAt w' w.heap.size ((z.take len).take 400) 0 ∧ Below w.heap.size w w' := by
  obtain ⟨hI, hL⟩ := h.ints
  have hl := h.len
  have hwf : ∀ x ∈ (z.take len).take 400, -9223372036854775808 ≤ x ∧ x ≤ 9223372036854775807 := fun x hx => by
    have := h.wf x (List.mem_of_mem_take (List.mem_of_mem_take hx))
    simpa [Lit.wf, IntKind.min, IntKind.max, IntKind.signed, IntKind.bits] using this
  have hcap : len ≤ cap := by rcases h with ⟨_, rfl, rfl, _⟩ | ⟨_, _, h1, _⟩ <;> omega
  have hm : len ≤ 9223372036854775807 := by have := hl.2; unfold maxLen at this; omega
  have hne : ∀ x, a = some x → x.block < w.heap.size ∨ len = 0 := fun x e => by
    by_cases h0 : len = 0
    · exact .inr h0
    · obtain ⟨b, off, y, e2, hb, _⟩ := h.get (i := 0) (by omega)
      rw [e] at e2
      cases e2
      exact .inl hb
  have hne2 : (z.take len).take 400 = [] ∨ ∀ x, a = some x → x.block < w.heap.size := by
    by_cases h0 : len = 0
    · left; subst h0; simp
    · right; intro x e; rcases hne x e with h | h <;> omega
  have hT : ((z.take len).take 400).length = min len 400 := by rw [List.length_take, hL]; omega
  have hI2 : Ints w a ((z.take len).take 400) := by
    refine ⟨by rw [hT]; unfold maxLen; omega, ?_⟩
    rcases hI.2 with e | ⟨b, off, e, hb, hc⟩
    · left; rw [e]; simp
    · exact .inr ⟨b, off, e, hb, fun j hj => by
        rw [hc j (by rw [hT] at hj; rw [hL]; omega)]
        rw [hT] at hj
        simp only [List.getD_eq_getElem?_getD, List.getElem?_take]
        rw [if_pos (show j < 400 by omega)]⟩
  have HW := Lib.hid hwf
  have HI := Lib.hid hI2
  have HN := Lib.hid hne2
  generalize (z.take len).take 400 = l at *
  clear hwf hI2 hne2 hne hI hL hl h
  have HT := Lib.hid hT
  clear hT
  go_enter Tryz.func9, Tryz.ntmps9
  go_wp2
  go_ret
  have e : (min (len : Int) 400).toNat = l.length := by rw [HT.out]; omega
  rw [e]
  refine ⟨rfl, ⟨⟨a, cap, by go_simp, HI.out.below ((Below.refl _ _).alloc (Nat.le_refl _) _), HN.out⟩, by go_simp, by go_simp, Nat.zero_le _, HW.out, by simp, by rw [HT.out]; omega⟩, by go_grown⟩

set_option maxHeartbeats 1000000 in
theorem next_any (t : Nat) (l : List Int) (k : Nat) (n : Int) (w : World) (h : TapeAt w t l k) (hn : n ≤ 9223372036854775807) :
    Calls Tryz.prog 30 #[.pointer (some ⟨t, 0, none⟩), .int .i64 n] w fun e w' => e = .returned (.int .i64 (gives l k n)) ∧ TapeAt w' t l (taken l k) ∧ But t w w' := by
  obtain ⟨p, cap, h1, h2, h3⟩ := h.row
  have h4 := h.at_
  have h5 := h.fz
  have h6 := h.len
  have hH := Lib.hid h
  by_cases hk : l.length ≤ k
  · have e1 : gives l k n = 0 := by unfold gives; rw [if_pos hk]
    have e2 : taken l k = k := by unfold taken; rw [if_pos hk]
    rw [e1, e2]
    clear h h3 e1 e2
    have h2' := Lib.hid h2
    clear h2
    go_enter Tryz.func30, Tryz.ntmps30
    go_wp2_with fail
    go_quiet (fail)
    go_wp2
    go_ret
    exact ⟨rfl, hH.out.below (drewN_below _ _), But.of_below (drewN_below _ _)⟩
  · have hkl : k < l.length := by omega
    obtain ⟨b, off, x, rfl, hb, hc, hx⟩ := h2.get hkl
    have hbt : b ≠ t := by
      rcases h3 with e0 | h3
      · subst e0; simp at hkl
      · exact Nat.ne_of_lt (h3 _ rfl)
    have e1 : gives l k n = mod x n := by unfold gives; rw [if_neg hk, hx.out]
    have e2 : taken l k = k + 1 := by unfold taken; rw [if_neg hk]
    have hxb := getD_bd h.wf k
    rw [hx.out] at hxb
    have hmod := fun w => mod_any x n w hxb.1 hn
    rw [e1, e2]
    have HM := Lib.hid hmod
    have h2' := Lib.hid h2
    have h3' := Lib.hid h3
    clear h h2 e1 e2 h3 hmod
    have hk0 : (0 : Int) ≤ (k : Int) := Int.natCast_nonneg _
    have hk1 : (k : Int) < (l.length : Int) := by omega
    have hz1 : (k : Int) + 1 - 1 = (k : Int) := by omega
    go_enter Tryz.func30, Tryz.ntmps30
    go_wp2_with fail
    go_quiet (fail)
    go_wp2_with fail
    have g1 : ((w.drewN nq).setCell ⟨t, 1, none⟩ (.int .i64 ((k : Int) + 1))).cell? ⟨t, 0, none⟩ = some (.slice (some ⟨b, off, none⟩) l.length cap) := by
      rw [World.cell?_setCell_other _ _ _ _ (by intro e; cases e)]; exact h1
    have g2 : ((w.drewN nq).setCell ⟨t, 1, none⟩ (.int .i64 ((k : Int) + 1))).cell? ⟨t, 1, none⟩ = some (.int .i64 ((k : Int) + 1)) := World.cell?_setCell_same _ _ _ (show (w.drewN nq).cell? _ = _ from h4)
    have g3 : ((w.drewN nq).setCell ⟨t, 1, none⟩ (.int .i64 ((k : Int) + 1))).cell? ⟨b, off + k, none⟩ = some (.int .i64 x) := by
      exact cell_other (show (w.drewN nq).cell? _ = _ from hc) (fun e => hbt e.symm)
    have g4 : ((w.drewN nq).setCell ⟨t, 1, none⟩ (.int .i64 ((k : Int) + 1))).frozen? ⟨t, 1, none⟩ = false := by rw [World.frozen?_setCell]; exact h5
    have g5 : But t w ((w.drewN nq).setCell ⟨t, 1, none⟩ (.int .i64 ((k : Int) + 1))) :=
      ⟨rfl, rfl, rfl, by simp [World.setCell, World.drewN], fun i _ hn => Below.heap_setCell (w.drewN nq) _ _ _ hn⟩
    have G5 := Lib.hid g5
    clear g5
    generalize (w.drewN nq).setCell ⟨t, 1, none⟩ (.int .i64 ((k : Int) + 1)) = W at *
    clear h1 h4 hc h5
    go_quiet ((go_at_call 22; exact Calls.quiet_of_same (Calls.turn (HM.out _))))
    go_wp2
    go_ret
    refine ⟨rfl, ?_, G5.out.trans (But.of_below (drewN_below _ _))⟩
    have hbb : ∀ a, some (⟨b, off, none⟩ : Addr) = some a → a.block ≠ t := fun a e => by cases e; exact hbt
    have hb3 := h3'.out
    exact ⟨⟨_, cap, g1, (h2'.out.but G5.out (.inr hbb)).below (drewN_below _ _), hb3⟩, g2, g4, by omega, hH.out.wf, Nat.lt_of_lt_of_le hH.out.lt G5.out.size, h6⟩


set_option maxRecDepth 100000 in
set_option maxHeartbeats 400000 in
/-- 'low + t.Next(high - low + 1)': numbers of moderate size. -/
theorem range_any (t : Nat) (l : List Int) (k : Nat) (low high : Int) (w : World) (h : TapeAt w t l k) (h0 : -1125899906842624 ≤ low) (h1 : low ≤ high) (h2 : high ≤ 1125899906842624) :
    Calls Tryz.prog 34 #[.pointer (some ⟨t, 0, none⟩), .int .i64 low, .int .i64 high] w fun e w' => e = .returned (.int .i64 (low + gives l k (high - low + 1))) ∧ TapeAt w' t l (taken l k) ∧ But t w w' := by
  have hn := next_any t l k (high - low + 1) w h (by omega)
  obtain ⟨g1, g2⟩ := gives_bd l k (n := high - low + 1) (by omega)
  have HN := Lib.hid hn
  clear hn h
  generalize gives l k (high - low + 1) = g at *
  go_enter Tryz.func34, Tryz.ntmps34
  go_wp2_with (first | (go_at_call 30; refine (HN.out).mono ?_; rintro e w1 ⟨rfl, ht, hb⟩))
  go_ret
  exact ⟨rfl, ht, hb⟩


theorem Own.but {w w' : World} {T : TypeId} {t : Nat} {v : Value} {xs : List Int} (h : Own w T (t + 1) v xs) (hb : But t w w') : Own w' T (t + 1) v xs := by
  refine ⟨h.1, ?_⟩
  rcases h.2 with hn | ⟨g, cap, cur, h1, h2, h3, h4⟩
  · exact .inl hn
  · exact .inr ⟨g, cap, cur, h1, h2, (hb.block g (Array.getElem?_eq_some_iff.1 h3).1 (by omega)).trans h3, h4⟩

/-! ### some numbers, one after the other -/
def tk (l : List Int) (a : Nat) : Nat → Nat
  | 0 => a
  | n + 1 => taken l (tk l a n)
def draws (l : List Int) (a : Nat) (m : Int) (n : Nat) : List Int := (List.range n).map fun i => gives l (tk l a i) m

theorem draws_succ (l : List Int) (a : Nat) (m : Int) (n : Nat) : draws l a m (n + 1) = draws l a m n ++ [gives l (tk l a n) m] := by
  unfold draws; rw [List.range_succ, List.map_append]; rfl
theorem draws_len (l : List Int) (a : Nat) (m : Int) (n : Nat) : (draws l a m n).length = n := by unfold draws; simp
theorem draws_bd (l : List Int) (a : Nat) {m : Int} (n : Nat) (h : 1 ≤ m) : ∀ x ∈ draws l a m n, 0 ≤ x ∧ x < m := fun x hx => by
  obtain ⟨i, _, rfl⟩ := List.mem_map.1 hx
  exact gives_bd l _ h

end Go.Proofs.YtflcdkibjakciaaGreatDoor
