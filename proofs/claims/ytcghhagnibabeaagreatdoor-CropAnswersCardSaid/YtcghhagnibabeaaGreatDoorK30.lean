/-
  Small laws for CropAnswers: bytes, blocks that stay.
-/
import Derived.Test.YtcghhagnibabeaaGreatDoorK23
import Derived.Test.YtcghhagnibabeaaGreatDoorMG
import Derived.Test.YtcghhagnibabeaaGreatDoorK14
import Derived.Test.YtcghhagnibabeaaGreatDoorMH
import Derived.Laws.IdiomStrings
namespace Go.Proofs.YtcghhagnibabeaaGreatDoor
open Go.RowKit Cr

/-- Bytes in a block, none of them frozen. -/
structure BytesAt (w : World) (b : Nat) (xs : List UInt8) : Prop where
  c : ∀ j (hj : j < xs.length), w.cell? ⟨b, j, none⟩ = some (.int .u8 (xs[j].toNat : Int))
  f : ∀ j, j < xs.length → w.frozen? ⟨b, j, none⟩ = false
  lt : b < w.heap.size

theorem BytesAt.block {w w' : World} {b : Nat} {xs : List UInt8} (h : BytesAt w b xs) (e : w'.heap[b]? = w.heap[b]?) (hs : w.heap.size ≤ w'.heap.size) : BytesAt w' b xs :=
  ⟨fun j hj => (World.cell?_of_block (a := ⟨b, j, none⟩) e).trans (h.c j hj), fun j hj => (World.frozen?_of_block (a := ⟨b, j, none⟩) e).trans (h.f j hj), Nat.lt_of_lt_of_le h.lt hs⟩
theorem BytesAt.below {w w' : World} {b : Nat} {xs : List UInt8} (h : BytesAt w b xs) (hb : Below w.heap.size w w') : BytesAt w' b xs := h.block (hb.block b h.lt) hb.size
theorem BytesAt.but {w w' : World} {b t : Nat} {xs : List UInt8} (h : BytesAt w b xs) (hb : But t w w') (hn : b ≠ t) : BytesAt w' b xs := h.block (hb.block b h.lt hn) hb.size

theorem BytesAt.set {w : World} {b i : Nat} {xs : List UInt8} (h : BytesAt w b xs) (hi : i < xs.length) (x : UInt8) : BytesAt (w.setCell ⟨b, i, none⟩ (.int .u8 (x.toNat : Int))) b (xs.set i x) := by
  refine ⟨fun j hj => ?_, fun j hj => ?_, by simpa [World.setCell] using h.lt⟩
  · rw [List.length_set] at hj
    by_cases e : i = j
    · subst e
      rw [World.cell?_setCell_same _ _ _ (h.c i hi), List.getElem_set_self]
    · rw [World.cell?_setCell_other _ _ _ _ (fun k => e (congrArg Addr.off k)), List.getElem_set_ne e]
      exact h.c j hj
  · rw [World.frozen?_setCell]; exact h.f j (by rw [List.length_set] at hj; exact hj)

theorem bytes_back (w : World) (b cap : Nat) (xs : List UInt8) (n : Nat) (hn : xs.length = n) (h : BytesAt w b xs) : (convert 47 9 (.slice (some ⟨b, 0, none⟩) n cap)).run Tryz.prog w = .ok (.string ⟨xs.toArray⟩) w := by
  subst hn
  exact run_convert_bytes_back w _ _ _ ⟨b, 0, none⟩ cap xs Tryz.underlying47 Tryz.underlying5 Tryz.underlying9 fun j hj => by
    rw [Go.WideShapes.add_plain, Nat.zero_add]; exact h.c j hj

/-- What '[]byte(s)' gives: some block, some spare. -/
theorem bytes_of (w : World) (s : ByteArray) : ∃ (cap : Nat) (w' : World), (convert 9 47 (.string s)).run Tryz.prog w = .ok (.slice (some ⟨w.heap.size, 0, none⟩) s.size cap) w' ∧ BytesAt w' w.heap.size s.data.toList ∧ Below w.heap.size w w' := by
  have hr := run_bytes_of_string w _ _ _ s Tryz.underlying9 Tryz.underlying47 Tryz.underlying5
  obtain ⟨C, eC⟩ : ∃ C, bytesRow s (grownCap w s.size 0 5) = C := ⟨_, rfl⟩
  rw [eC] at hr
  have hz : s.data.toList.length ≤ C.size := by
    rw [← eC]; simp [bytesRow]
  refine ⟨_, _, hr, ⟨fun j hj => ?_, fun j hj => ?_, ?_⟩, ⟨rfl, rfl, rfl, ?_, fun k hk => ?_⟩⟩
  · rw [show w.heap.size = w.drew.heap.size from rfl, World.cell?_alloc_mark, ← eC]
    unfold bytesRow
    have hj2 : j < (s.data.map fun b => Value.int .u8 b.toNat).size := by simpa using hj
    rw [Array.getElem?_append_left hj2, Array.getElem?_map, Array.getElem?_eq_getElem (by simpa using hj)]
    rfl
  · have e : (w.drew.alloc (.cells C 5 (C.size, C.size + 1))).heap[w.heap.size]? = some (.cells C 5 (C.size, C.size + 1)) := by
      show (w.heap.push _)[w.heap.size]? = _
      simp
    unfold World.frozen?
    rw [e]
    simp
    omega
  · show w.heap.size < (w.heap.push _).size
    simp
  · show w.heap.size ≤ (w.heap.push _).size
    simp
  · show (w.heap.push _)[k]? = _
    rw [Array.getElem?_push, if_neg (by omega)]

theorem Recs.belowB {α : Type} {S : Shape α} {w w' : World} {p : Option Addr} {L : List α} {B : Nat} (h : Recs S w p L) (hb : Below B w w') (hp : ∀ a, p = some a → a.block < B) : Recs S w' p L := by
  refine ⟨h.1, ?_⟩
  rcases h.2 with e | ⟨b, off, e, hl, hc⟩
  · exact .inl e
  · exact .inr ⟨b, off, e, Nat.lt_of_lt_of_le hl hb.size, fun n u hu => (hb.cell (p := ⟨b, off + n, none⟩) (show b < B from hp ⟨b, off, none⟩ e)).trans (hc n u hu)⟩

/-- What stays in sight while the odd catalogue is made. -/
structure OddSt (w wx : World) (pr p : Option Addr) (RAW L : List Crp) : Prop where
  raw : Crops wx pr RAW
  mine : Crops wx p L
  below : Below w.heap.size w wx

def OddOk (w : World) (pr p : Option Addr) (RAW L : List Crp) (s15 : Value) (wx : World) : Prop :=
  ∃ (po : Option Addr) (m co : Nat) (O : List Crp), s15 = .slice po m co ∧ O.length = m ∧ Crops wx po O ∧ (∀ c ∈ O, c.nm.size ≤ 50) ∧ m ≤ 9 ∧ OddSt w wx pr p RAW L

end Go.Proofs.YtcghhagnibabeaaGreatDoor
