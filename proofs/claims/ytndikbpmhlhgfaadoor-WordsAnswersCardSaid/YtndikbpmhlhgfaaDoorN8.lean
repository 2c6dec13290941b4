/-
  WHAT WordsAnswers compares, in pairs: each function of words and its reference give the same.
-/
import Derived.Test.YtndikbpmhlhgfaaDoorN6
import Derived.Test.YtndikbpmhlhgfaaDoorN2
import Derived.Test.YtndikbpmhlhgfaaDoorW3
import Derived.Test.YtndikbpmhlhgfaaDoorW5
import Derived.Laws.IdiomStrings
namespace Go.Proofs.YtndikbpmhlhgfaaDoor
open Go.RowKit

def SpG (SL : List (List ByteArray)) (er : Int) (w : World) (e : Ending) (w' : World) : Prop := ∃ p c, e = .returned (.tuple #[.slice p SL.length c, .int .i64 er]) ∧ Hid (LinesAt w' p SL) ∧ Below w.heap.size w w'

theorem split_pair (x : ByteArray) (hx : x.size ≤ 9223372036854775807) : ∃ SL er, (∀ W, Env W → Calls Tryd.prog 13 #[.string x] W (SpG SL er W)) ∧ (∀ W, Env W → Calls Tryd.prog 14 #[.string x] W (SpG SL er W)) :=
  ⟨sLines x, Wo.sErr x.data.toList, fun W hE => (split_any x W hE hx).mono fun _ _ ⟨p, c, h1, h2, _, h4⟩ => ⟨p, c, h1, Lib.hid h2, h4⟩, fun W hE => (refsplit_any x W hE hx).mono fun _ _ ⟨p, c, h1, h2, _, h4⟩ => ⟨p, c, h1, Lib.hid h2, h4⟩⟩

theorem number_pair (x : ByteArray) (hx : x.size ≤ 281474976710656) (lo hi : Int) :
    ∃ v q, (∀ W, Env W → Calls Tryd.prog 18 #[.string x, .int .i64 lo, .int .i64 hi] W (NB v q W)) ∧ (∀ W, Calls Tryd.prog 19 #[.string x, .int .i64 lo, .int .i64 hi] W (NB v q W)) :=
  ⟨_, _, fun W hE => num_is x lo hi W hE hx rfl rfl, fun W => refnumber_any x lo hi W (by omega)⟩

theorem name_pair (x : ByteArray) (hx : x.size ≤ 9223372036854775807) : ∃ q, (∀ W, Calls Tryd.prog 16 #[.string x] W fun e w' => e = .returned (.bool q) ∧ W = w') ∧ (∀ W, Calls Tryd.prog 17 #[.string x] W fun e w' => e = .returned (.bool q) ∧ W = w') :=
  ⟨_, fun W => name_any x W hx, fun W => refname_any x W hx⟩

def TxG (S : ByteArray) (er : Int) (w : World) (e : Ending) (w' : World) : Prop := e = .returned (.tuple #[.string S, .int .i64 er]) ∧ Below w.heap.size w w'

theorem join_pair (LL : List (List ByteArray)) (p : Option Addr) (n c : Nat) (hn : LL.length = n) (hT : (Wo.jText (lb LL)).length ≤ 1099511627776) (hz : ∀ ws ∈ LL, ws.length ≤ 1099511627776 ∧ ∀ y ∈ ws, y.size ≤ 9223372036854775807) :
    ∃ S er, (∀ W, LinesAt W p LL → Calls Tryd.prog 20 #[.slice p n c] W (TxG S er W)) ∧ (∀ W, LinesAt W p LL → Calls Tryd.prog 21 #[.slice p n c] W (TxG S er W)) := by
  subst hn
  exact ⟨_, _, fun W h => join_any LL p c W h hT (fun ws hw => (hz ws hw).1), fun W h => refjoin_any LL p c W h hT hz⟩

theorem join_lenM (M : Nat) (sep : List UInt8) : ∀ ws : List (List UInt8), (∀ x ∈ ws, x.length ≤ M) → (Lib.join ws sep).length ≤ ws.length * (M + sep.length)
  | [], _ => by rw [Lib.join_nil]; simp
  | [x], h => by
    have := h x List.mem_cons_self
    rw [Lib.join_one]; simp; omega
  | x :: y :: r, h => by
    have := h x List.mem_cons_self
    have ih := join_lenM M sep (y :: r) fun z hz => h z (List.mem_cons_of_mem _ hz)
    rw [Wo.join_two, List.length_append, List.length_append, List.length_cons, Nat.add_mul]
    omega

theorem jText_bd : ∀ LL : List (List ByteArray), (∀ ws ∈ LL, ws.length ≤ 20 ∧ ∀ y ∈ ws, y.size ≤ 3000) → (Wo.jText (lb LL)).length ≤ LL.length * 60021
  | [], _ => by simp [lb, Wo.jText]
  | ws :: LL, h => by
    have ih := jText_bd LL fun x hx => h x (List.mem_cons_of_mem _ hx)
    have hw := h ws List.mem_cons_self
    have h1 := join_lenM 3000 [32] (ws.map (·.data.toList)) (fun x hx => by
      obtain ⟨y, hy, rfl⟩ := List.mem_map.1 hx
      rw [size_len]; exact hw.2 y hy)
    rw [List.length_map] at h1
    have h2 : ws.length * (3000 + [(32 : UInt8)].length) ≤ 20 * 3001 := Nat.mul_le_mul hw.1 (by simp)
    unfold lb Wo.jText at ih ⊢
    rw [List.map_cons, List.flatMap_cons, List.length_append, List.length_cons]
    simp only [Wo.lineT, List.length_append, List.length_cons, List.length_nil] at h1 ⊢
    omega

/-- Bytes in a block, none of them frozen. -/
structure BytesAt (w : World) (b : Nat) (xs : List UInt8) : Prop where
  c : ∀ j (hj : j < xs.length), w.cell? ⟨b, j, none⟩ = some (.int .u8 (xs[j].toNat : Int))
  f : ∀ j, j < xs.length → w.frozen? ⟨b, j, none⟩ = false
  lt : b < w.heap.size

theorem BytesAt.block {w w' : World} {b : Nat} {xs : List UInt8} (h : BytesAt w b xs) (e : w'.heap[b]? = w.heap[b]?) (hs : w.heap.size ≤ w'.heap.size) : BytesAt w' b xs :=
  ⟨fun j hj => (World.cell?_of_block (a := ⟨b, j, none⟩) e).trans (h.c j hj), fun j hj => (World.frozen?_of_block (a := ⟨b, j, none⟩) e).trans (h.f j hj), Nat.lt_of_lt_of_le h.lt hs⟩
theorem BytesAt.below {w w' : World} {b : Nat} {xs : List UInt8} (h : BytesAt w b xs) (hb : Below w.heap.size w w') : BytesAt w' b xs := h.block (hb.block b h.lt) hb.size
theorem BytesAt.but {w w' : World} {b t : Nat} {xs : List UInt8} (h : BytesAt w b xs) (hb : But t w w') (hn : b ≠ t) : BytesAt w' b xs := h.block (hb.block b h.lt hn) hb.size

theorem BytesAt.set {w : World} {b i : Nat} {xs : List UInt8} (h : BytesAt w b xs) (hi : i < xs.length) (x : UInt8) : BytesAt (w.setCell ⟨b, i, none⟩ (.int .u8 (x.toNat : Int))) b (xs.set i x) := by
  refine ⟨fun j hj => ?_, fun j hj => ?_, by simpa [World.setCell] using h.lt⟩
  · rw [List.length_set] at hj
    by_cases e : i = j
    · subst e
      rw [World.cell?_setCell_same _ _ _ (h.c i hi), List.getElem_set_self]
    · rw [World.cell?_setCell_other _ _ _ _ (fun k => e (congrArg Addr.off k)), List.getElem_set_ne e]
      exact h.c j hj
  · rw [World.frozen?_setCell]; exact h.f j (by rw [List.length_set] at hj; exact hj)

theorem bytes_back (w : World) (b cap : Nat) (xs : List UInt8) (n : Nat) (hn : xs.length = n) (h : BytesAt w b xs) : (convert 28 9 (.slice (some ⟨b, 0, none⟩) n cap)).run Tryd.prog w = .ok (.string ⟨xs.toArray⟩) w := by
  subst hn
  exact run_convert_bytes_back w _ _ _ ⟨b, 0, none⟩ cap xs Tryd.underlying28 Tryd.underlying5 Tryd.underlying9 fun j hj => by
    rw [Go.WideShapes.add_plain, Nat.zero_add]; exact h.c j hj

/-- What '[]byte(s)' gives: some block, some spare. -/
theorem bytes_of (w : World) (s : ByteArray) : ∃ (cap : Nat) (w' : World), (convert 9 28 (.string s)).run Tryd.prog w = .ok (.slice (some ⟨w.heap.size, 0, none⟩) s.size cap) w' ∧ BytesAt w' w.heap.size s.data.toList ∧ Below w.heap.size w w' := by
  have hr := run_bytes_of_string w _ _ _ s Tryd.underlying9 Tryd.underlying28 Tryd.underlying5
  obtain ⟨C, eC⟩ : ∃ C, bytesRow s (grownCap w s.size 0 5) = C := ⟨_, rfl⟩
  rw [eC] at hr
  have hz : s.data.toList.length ≤ C.size := by
    rw [← eC]; simp [bytesRow]
  refine ⟨_, _, hr, ⟨fun j hj => ?_, fun j hj => ?_, ?_⟩, ⟨rfl, rfl, rfl, ?_, fun k hk => ?_⟩⟩
  · rw [show w.heap.size = w.drew.heap.size from rfl, World.cell?_alloc_mark, ← eC]
    unfold bytesRow
    have hj2 : j < (s.data.map fun b => Value.int .u8 b.toNat).size := by simpa using hj
    rw [Array.getElem?_append_left hj2, Array.getElem?_map, Array.getElem?_eq_getElem (by simpa using hj)]
    rfl
  · have e : (w.drew.alloc (.cells C 5 (C.size, C.size + 1))).heap[w.heap.size]? = some (.cells C 5 (C.size, C.size + 1)) := by
      show (w.heap.push _)[w.heap.size]? = _
      simp
    unfold World.frozen?
    rw [e]
    simp
    omega
  · show w.heap.size < (w.heap.push _).size
    simp
  · show w.heap.size ≤ (w.heap.push _).size
    simp
  · show (w.heap.push _)[k]? = _
    rw [Array.getElem?_push, if_neg (by omega)]
end Go.Proofs.YtndikbpmhlhgfaaDoor
