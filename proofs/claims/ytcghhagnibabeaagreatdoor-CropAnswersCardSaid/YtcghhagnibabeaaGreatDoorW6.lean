/-
  SLICES OF STRINGS, AND OF THESE: what they list, in which world.
-/
import Derived.Test.YtcghhagnibabeaaGreatDoorW5
import Derived.Test.YtcghhagnibabeaaGreatDoorGr
namespace Go.Proofs.YtcghhagnibabeaaGreatDoor
open Go.RowKit

/-- A string's cell. -/
def SB : Shape ByteArray := ⟨1, fun s => [.string s], fun _ => rfl, by decide, fun a u hu => by
  simp only [List.mem_singleton] at hu
  subst hu
  rfl⟩

/-- A slice that lies in memory: its address, its length and its capacity. -/
structure Hd where
  p : Option Addr
  n : Nat
  c : Nat

instance : Inhabited Hd := ⟨⟨none, 0, 0⟩⟩

/-- A slice's cell. -/
def SH : Shape Hd := ⟨1, fun h => [.slice h.p h.n h.c], fun _ => rfl, by decide, fun a u hu => by
  simp only [List.mem_singleton] at hu
  subst hu
  rfl⟩

theorem el_str : Elem SB Tryz.prog 9 44 16 := by
  have h : (Tryz.prog.info? 9).map (fun i => (i.zero, i.size, i.bytes)) = some (some (.string ByteArray.empty), 1, 16) := by kernel_rfl
  obtain ⟨i0, h1, h2, h3, h4⟩ := info_parts h
  exact ⟨⟨i0, _, h1, h2, h3, h4, rfl⟩, Tryz.underlying44⟩

theorem el_row : Elem SH Tryz.prog 44 57 24 := by
  have h : (Tryz.prog.info? 44).map (fun i => (i.zero, i.size, i.bytes)) = some (some (.slice none 0 0), 1, 24) := by kernel_rfl
  obtain ⟨i0, h1, h2, h3, h4⟩ := info_parts h
  exact ⟨⟨i0, _, h1, h2, h3, h4, rfl⟩, Tryz.underlying57⟩

/-- A text of bytes. -/
def bs (l : List UInt8) : ByteArray := ⟨l.toArray⟩

/-- A row of words lies at a slice. -/
def WordsAt (w : World) (h : Hd) (ws : List ByteArray) : Prop := h.n = ws.length ∧ Recs SB w h.p ws ∧ (h.p = none → h.c = 0) ∧ h.n ≤ h.c

/-- Lines of words lie at a slice of slices. -/
def LinesAt (w : World) (p : Option Addr) (LL : List (List ByteArray)) : Prop :=
  ∃ H : List Hd, H.length = LL.length ∧ Recs SH w p H ∧ ∀ k (hk : k < H.length) (hk' : k < LL.length), WordsAt w H[k] LL[k]

theorem WordsAt.below {w w' : World} {h : Hd} {ws : List ByteArray} (hh : WordsAt w h ws) (hb : Below w.heap.size w w') : WordsAt w' h ws :=
  ⟨hh.1, hh.2.1.below hb, hh.2.2⟩

theorem LinesAt.below {w w' : World} {p : Option Addr} {LL : List (List ByteArray)} (h : LinesAt w p LL) (hb : Below w.heap.size w w') : LinesAt w' p LL := by
  obtain ⟨H, h1, h2, h3⟩ := h
  exact ⟨H, h1, h2.below hb, fun k hk hk' => (h3 k hk hk').below hb⟩

/-- Line k. -/
theorem LinesAt.at {w : World} {p : Option Addr} {LL : List (List ByteArray)} (h : LinesAt w p LL) {k : Nat} (hk : k < LL.length) :
    ∃ b off q n c, p = some ⟨b, off, none⟩ ∧ b < w.heap.size ∧ w.cell? ⟨b, off + k, none⟩ = some (.slice q n c) ∧ n = LL[k].length ∧ Recs SB w q LL[k] ∧ (q = none → c = 0) ∧ n ≤ c := by
  obtain ⟨H, h1, h2, h3⟩ := h
  obtain ⟨b, off, hp, hl, hc⟩ := h2.at (k := k) (by omega)
  obtain ⟨e, hr, hn, hle⟩ := h3 k (by omega) hk
  refine ⟨b, off, H[k].p, H[k].n, H[k].c, hp, hl, ?_, e, hr, hn, hle⟩
  have := hc 0 _ rfl
  simpa [SH] using this

/-- Word j of a row. -/
theorem Recs.word {w : World} {q : Option Addr} {ws : List ByteArray} (h : Recs SB w q ws) {j : Nat} (hj : j < ws.length) : ∃ b off, q = some ⟨b, off, none⟩ ∧ b < w.heap.size ∧ w.cell? ⟨b, off + j, none⟩ = some (.string ws[j]) := by
  obtain ⟨b, off, hp, hl, hc⟩ := h.at hj
  exact ⟨b, off, hp, hl, by have := hc 0 _ rfl; simpa [SB] using this⟩

end Go.Proofs.YtcghhagnibabeaaGreatDoor
