/-
  A SLICE OF PAIRS OF ints THAT IS READ (structs of two numbers): what it lists, in which world; a nil one too.
-/
import Derived.Test.YtmgdbbmheiligaaHi
import Derived.Deep.AppendLies
namespace Go.Proofs.Ytmgdbbmheiligaa
open Go.RowKit

/-- The slice at address p (none: nil) lists the pairs D in world w. -/
def Pairs (w : World) (p : Option Addr) (D : List (Int × Int)) : Prop :=
  D.length ≤ maxLen ∧ (D = [] ∨ ∃ b off, p = some ⟨b, off, none⟩ ∧ b < w.heap.size ∧
    ∀ j, j < D.length → w.cell? ⟨b, off + j * 2, none⟩ = some (.int .i64 (D.getD j (0, 0)).1) ∧ w.cell? ⟨b, off + j * 2 + 1, none⟩ = some (.int .i64 (D.getD j (0, 0)).2))

theorem Pairs.nil (w : World) (p : Option Addr) : Pairs w p [] := ⟨by simp, .inl rfl⟩

theorem Pairs.below {w w' : World} {p : Option Addr} {D : List (Int × Int)} (h : Pairs w p D) (hb : Below w.heap.size w w') : Pairs w' p D := by
  refine ⟨h.1, ?_⟩
  rcases h.2 with h | ⟨b, off, hp, hl, hc⟩
  · exact .inl h
  · exact .inr ⟨b, off, hp, Nat.lt_of_lt_of_le hl hb.size, fun j hj => ⟨(hb.cell (p := ⟨b, off + j * 2, none⟩) hl).trans (hc j hj).1, (hb.cell (p := ⟨b, off + j * 2 + 1, none⟩) hl).trans (hc j hj).2⟩⟩

theorem Pairs.get {w : World} {p : Option Addr} {D : List (Int × Int)} (h : Pairs w p D) {k : Nat} (hk : k < D.length) :
    ∃ b off x y, p = some ⟨b, off, none⟩ ∧ b < w.heap.size ∧ w.cell? ⟨b, off + k * 2, none⟩ = some (.int .i64 x) ∧ w.cell? ⟨b, off + k * 2 + 1, none⟩ = some (.int .i64 y) ∧ Hid (D.getD k (0, 0) = (x, y)) := by
  rcases h.2 with rfl | ⟨b, off, hp, hl, hc⟩
  · simp at hk
  · exact ⟨b, off, _, _, hp, hl, (hc k hk).1, (hc k hk).2, rfl⟩

theorem Pairs.len {w : World} {p : Option Addr} {D : List (Int × Int)} (h : Pairs w p D) : D.length ≤ 9223372036854775807 := by
  have := h.1; unfold maxLen at this; omega

/-- A block of the call's own that holds two numbers, which may be written. -/
structure Two (w : World) (b : Nat) (x y : Int) : Prop where
  lt : b < w.heap.size
  c0 : w.cell? ⟨b, 0, none⟩ = some (.int .i64 x)
  c1 : w.cell? ⟨b, 1, none⟩ = some (.int .i64 y)
  f0 : w.frozen? ⟨b, 0, none⟩ = false
  f1 : w.frozen? ⟨b, 1, none⟩ = false

theorem Two.below {w w' : World} {b B : Nat} {x y : Int} (h : Two w b x y) (hb : Below B w w') (hB : b < B) : Two w' b x y :=
  ⟨Nat.lt_of_lt_of_le h.lt hb.size, (hb.cell (p := ⟨b, 0, none⟩) hB).trans h.c0, (hb.cell (p := ⟨b, 1, none⟩) hB).trans h.c1, (hb.frozen (p := ⟨b, 0, none⟩) hB).trans h.f0, (hb.frozen (p := ⟨b, 1, none⟩) hB).trans h.f1⟩

/-- WHAT THE WALK IS TOLD OF A SLICE OF PAIRS THAT CAME IN. -/
def IsPairs (w : World) (a : Option Addr) (len cap : Nat) (D : List (Int × Int)) : Prop :=
  Pairs w a D ∧ D.length = len ∧ len ≤ cap ∧ ∀ d ∈ D, (Lit.int .i64 d.1).wf = true ∧ (Lit.int .i64 d.2).wf = true

/-! ### a slice of pairs that the call itself appends to -/
def pcells (D : List (Int × Int)) : List Value := D.flatMap fun d => [.int .i64 d.1, .int .i64 d.2]

theorem pcells_len (D : List (Int × Int)) : (pcells D).length = D.length * 2 := by
  induction D with
  | nil => rfl
  | cons d D ih =>
    show ([Value.int .i64 d.1, .int .i64 d.2] ++ pcells D).length = _
    rw [List.length_append, ih]
    simp only [List.length_cons, List.length_nil]
    omega

theorem pcells_append (D E : List (Int × Int)) : pcells (D ++ E) = pcells D ++ pcells E := by unfold pcells; rw [List.flatMap_append]

theorem pcells_at (D : List (Int × Int)) (j : Nat) (hj : j < D.length) : (pcells D)[j * 2]? = some (.int .i64 (D.getD j (0, 0)).1) ∧ (pcells D)[j * 2 + 1]? = some (.int .i64 (D.getD j (0, 0)).2) := by
  induction D generalizing j with
  | nil => simp at hj
  | cons d D ih =>
    show ([Value.int .i64 d.1, .int .i64 d.2] ++ pcells D)[j * 2]? = _ ∧ ([Value.int .i64 d.1, .int .i64 d.2] ++ pcells D)[j * 2 + 1]? = _
    match j with
    | 0 => exact ⟨rfl, rfl⟩
    | j + 1 =>
      have h := ih j (by simpa using hj)
      rw [List.getElem?_append_right (by simp; omega), List.getElem?_append_right (by simp; omega)]
      have e1 : (j + 1) * 2 - [Value.int .i64 d.1, .int .i64 d.2].length = j * 2 := by simp; omega
      have e2 : (j + 1) * 2 + 1 - [Value.int .i64 d.1, .int .i64 d.2].length = j * 2 + 1 := by simp; omega
      rw [e1, e2, h.1, h.2]
      simp

def OwnP (w : World) (T : TypeId) (B : Nat) (v : Value) (D : List (Int × Int)) : Prop := w.ownsRow B T 2 v D.length (pcells D)

theorem OwnP.nil (w : World) (T : TypeId) (B : Nat) : OwnP w T B (.slice none 0 0) [] := World.ownsRow_nil w B T 2

theorem OwnP.below {w w' : World} {T : TypeId} {B : Nat} {v : Value} {D : List (Int × Int)} (h : OwnP w T B v D) (hb : Below w.heap.size w w') : OwnP w' T B v D := by
  refine ⟨h.1, ?_⟩
  rcases h.2 with hn | ⟨g, cap, cur, h1, h2, h3, h4⟩
  · exact .inl hn
  · exact .inr ⟨g, cap, cur, h1, h2, (hb.block g (Array.getElem?_eq_some_iff.1 h3).1).trans h3, h4⟩

theorem OwnP.pairs {w : World} {T : TypeId} {B : Nat} {v : Value} {D : List (Int × Int)} (h : OwnP w T B v D) : ∃ p cap, v = .slice p D.length cap ∧ Pairs w p D := by
  rcases h.2 with ⟨hv, hn⟩ | ⟨g, cap, cur, hv, hB, hg, hle, hm, hs, ht⟩
  · obtain rfl := List.length_eq_zero_iff.1 hn
    exact ⟨none, 0, hv, Pairs.nil _ _⟩
  · have e : ∀ i v, i < D.length * 2 → (pcells D)[i]? = some v → w.cell? ⟨g, i, none⟩ = some v := fun i v hi hv => by
      have := congrArg (fun l => l[i]?) ht
      simp only [List.getElem?_take, if_pos hi] at this
      rw [hv] at this
      simp only [World.cell?, hg]
      simpa using this
    refine ⟨_, cap, hv, by omega, .inr ⟨g, 0, rfl, (Array.getElem?_eq_some_iff.1 hg).1, fun j hj => ?_⟩⟩
    have hp := pcells_at D j hj
    rw [Nat.zero_add]
    exact ⟨e _ _ (by omega) hp.1, e _ _ (by omega) hp.2⟩

theorem OwnP.append {P : Program} {T TS : TypeId} {i0 : TypeInfo} (hi : P.info? T = some i0) (hz0 : i0.zero = some (.agg #[.int .i64 0, .int .i64 0])) (hz1 : i0.size = 2) (hz2 : i0.bytes = 16) (ht : P.underlying TS = some (.slice T)) {w : World} {ops : Array Oper} {rest : List Oper} {o : Oper} {a : Act} {Q : Exit → Act → World → Prop} (hgd : o.guard = none) (s x : Operand)
    (ho : o.op = .call { callee := .builtin .append, args := #[s, x], argTypes := #[TS, TS] }) (B : Nat) (v : Value) (D : List (Int × Int)) (y z : Int) (hown : OwnP w T B v D) (hs : a.eval s = v)
    (hx : a.eval x = .slice (some ⟨w.heap.size, 0, none⟩) 1 1) (hB : B ≤ w.heap.size) (hn : D.length < 1099511627776)
    (h : ∀ v' w', OwnP w' T B v' (D ++ [(y, z)]) → Below B w w' → wpList P ops Q rest (a.put o.dst v') w') : wpList P ops Q (o :: rest) a (w.alloc (.cells #[.int .i64 y, .int .i64 z] T)) := by
  refine wpList_append_own _ hgd s x TS ho B T i0 (.agg #[.int .i64 0, .int .i64 0]) 2 16 ht hi hz0 hz1 hz2 rfl (by decide) v D.length (pcells D) hs (World.ownsRow.alloc hown _) ⟨w.heap.size, 0, none⟩ 1 1 [.int .i64 y, .int .i64 z] hx rfl ?_ (by simp [Value.oneCell']) (by unfold maxLen; omega) (by omega) (by simp; omega) ?_
  · intro j u hu
    match j, hu with
    | 0, hu => simp at hu; subst hu; go_simp
    | 1, hu => simp at hu; subst hu; go_simp
  intro v' w' h1 h2 _
  refine h v' w' ?_ ?_
  · unfold OwnP
    rw [List.length_append, pcells_append]
    exact h1
  · refine (((Below.refl B w).alloc hB _).grown h2 (by simp; omega) fun k hk => ?_)
    exact (World.ownsRow.lt hown k hk).1

end Go.Proofs.Ytmgdbbmheiligaa
