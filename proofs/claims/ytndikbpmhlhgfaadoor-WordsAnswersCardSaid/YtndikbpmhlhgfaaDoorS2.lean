/-
  words.Split's round: the contracts at a line, the state.
-/
import Derived.Test.YtndikbpmhlhgfaaDoorS1
import Derived.Maps.OwnIn
namespace Go.Proofs.YtndikbpmhlhgfaaDoor
open Go.RowKit Go.Shelf Go.Sort

theorem trim_any (t : ByteArray) (o : Nat) (ho : Lib.indexByte t.data.toList 10 = ((o : Nat) : Int)) (hol : o < t.size) (hsz : t.size ≤ 16384) (W : World) :
    Calls Tryd.prog 33 #[.string (t.extract 0 (o + 1)), .string ⟨#[10]⟩] W fun e w' => (∃ l0 : ByteArray, l0.data.toList = t.data.toList.take o ∧ l0.size ≤ 16384 ∧ e = .returned (.string l0)) ∧ w' = W := by
  have hx : (t.extract 0 (o + 1)).data.toList = t.data.toList.take (o + 1) := Lib.extract_from_zero t (o + 1)
  have hlt : o < t.data.toList.length := by rw [size_len]; exact hol
  have h10 : t.data.toList[o]? = some 10 := (Lib.indexByte_some ho).1
  have hx2 : (t.extract 0 (o + 1)).data.toList = t.data.toList.take o ++ [10] := by
    rw [hx, List.take_add_one, h10]; rfl
  have hz : (t.extract 0 (o + 1)).size ≤ 16384 := by
    rw [← size_len, hx, List.length_take]; rw [size_len]; omega
  refine (Tryd.strings_TrimSuffix (t.extract 0 (o + 1)) ⟨#[10]⟩ W (by omega)).mono fun e w' ⟨he, hw⟩ => ⟨⟨_, ?_, ?_, he⟩, hw⟩
  · show Lib.trimSuffix (t.extract 0 (o + 1)).data.toList [10] = _
    rw [hx2]
    unfold Lib.trimSuffix Lib.hasSuffix
    rw [if_pos (List.isSuffixOf_iff_suffix.2 (List.suffix_append _ _))]
    simp
  · rw [← size_len]
    show (Lib.trimSuffix (t.extract 0 (o + 1)).data.toList [10]).length ≤ _
    refine Nat.le_trans (Lib.trimSuffix_le _ _) ?_
    rw [size_len]; exact hz

theorem cut35_any (l0 : ByteArray) (hsz : l0.size ≤ 16384) (W : World) (hE : Env W) :
    Calls Tryd.prog 32 #[.string l0, .string ⟨#[35]⟩] W fun e w' => (∃ (l9 x : ByteArray) (y : Bool), l9.data.toList = l0.data.toList.takeWhile (· != 35) ∧ l9.size ≤ 16384 ∧ e = .returned (.tuple #[.string l9, .string x, .bool y])) ∧ ∃ q, w' = W.drewN q := by
  obtain ⟨m, hm⟩ := hE.ml
  refine (Tryd.strings_Cut l0 ⟨#[35]⟩ m W (by omega) hm).mono fun e w' ⟨he, hw⟩ => ⟨⟨_, _, _, ?_, ?_, he⟩, hw⟩
  · exact Wo.cut_one l0.data.toList 35
  · rw [← size_len]
    have e : (Lib.cut l0.data.toList [35]).1 = l0.data.toList.takeWhile (· != 35) := Wo.cut_one l0.data.toList 35
    show (Lib.cut l0.data.toList [35]).1.length ≤ _
    rw [e]
    refine Nat.le_trans (List.takeWhile_sublist _).length_le ?_
    rw [size_len]; exact hsz

/-- Between two rounds: t is left; the lines that have come lie in the variable's box. -/
structure LI (s : ByteArray) (w0 : World) (t : ByteArray) (W : World) : Prop where
  st : ∃ v dn H, RS s w0 W t v dn H ∧ OwnR SH W 25 (w0.heap.size + 2) v H ∧ (∀ k (hk : k < H.length) x, H[k].p = some x → w0.heap.size + 2 ≤ x.block) ∧ W.cell? ⟨w0.heap.size, 0, none⟩ = some v
  fz : W.frozen? ⟨w0.heap.size, 0, none⟩ = false
  sz : t.size ≤ 16384
  hp : w0.heap.size + 2 ≤ W.heap.size

theorem RS.world {s : ByteArray} {w wr w' : World} {t : ByteArray} {v : Value} {dn : List (List UInt8)} {H : List Hd} (h : RS s w wr t v dn H) (hO : OwnR SH w' 25 w.heap.size v H) (hz : wr.heap.size ≤ w'.heap.size)
    (hR : ∀ k (hk : k < H.length) (L : List ByteArray), Recs SB wr H[k].p L → Recs SB w' H[k].p L) (hB : Below w.heap.size w w') : RS s w w' t v dn H :=
  ⟨h.ln, h.nl, hO, h.hl, fun k hk hk' => ⟨(h.rows k hk hk').1, hR k hk _ (h.rows k hk hk').2.1, (h.rows k hk hk').2.2⟩, fun k hk x e => ⟨(h.apart k hk x e).1, Nat.lt_of_lt_of_le (h.apart k hk x e).2 hz⟩, hB⟩

theorem LI.drew {s : ByteArray} {w0 : World} {t : ByteArray} {W : World} (h : LI s w0 t W) : LI s w0 t W.drew := by
  obtain ⟨⟨v, dn, H, hr, hO, hk, hc⟩, hf, hs, hp⟩ := h
  exact ⟨⟨v, dn, H, hr.world hr.own.drew (Nat.le_refl _) (fun k hk L h => h.drew) ⟨hr.below.os, hr.below.tape, hr.below.output, hr.below.size, hr.below.block⟩, hO.drew, hk, hc⟩, hf, hs, hp⟩

theorem setCell_block (W : World) (b i k : Nat) (u : Value) (h : k ≠ b) : (W.setCell ⟨b, i, none⟩ u).heap[k]? = W.heap[k]? := by
  rw [setCell_eq]; simp only [mapBlock, Array.getElem?_modify, if_neg (Ne.symm h)]

theorem setCell_size (W : World) (b i : Nat) (u : Value) : (W.setCell ⟨b, i, none⟩ u).heap.size = W.heap.size := by
  rw [setCell_eq]; simp [mapBlock]

theorem Recs.aside {W : World} {b i : Nat} {u : Value} {p : Option Addr} {L : List ByteArray} (h : Recs SB W p L) (hn : ∀ x, p = some x → x.block ≠ b) : Recs SB (W.setCell ⟨b, i, none⟩ u) p L := by
  refine ⟨h.1, ?_⟩
  rcases h.2 with e | ⟨g, off, e, hl, hc⟩
  · exact .inl e
  · refine .inr ⟨g, off, e, by rw [setCell_size]; exact hl, fun n u hu => ?_⟩
    exact (World.cell?_of_block (a := ⟨g, off + n, none⟩) (setCell_block W b i g _ (hn _ e))).trans (hc n u hu)

/-- The iterator writes its own cell. -/
theorem LI.set {s : ByteArray} {w0 : World} {t : ByteArray} {W : World} (h : LI s w0 t W) (u : Value) : LI s w0 t (W.setCell ⟨w0.heap.size + 1, 0, none⟩ u) := by
  obtain ⟨⟨v, dn, H, hr, hO, hk, hc⟩, hf, hs, hp⟩ := h
  have hne : v.ownBlock ≠ some (w0.heap.size + 1) := fun e => by have := (hO.lt e).1; omega
  refine ⟨⟨v, dn, H, hr.world (hr.own.setOther hne u) (by rw [setCell_size]; exact Nat.le_refl _) (fun k hk2 L h => h.aside fun x e => by have := hk k hk2 x e; omega) (hr.below.setCell (p := ⟨w0.heap.size + 1, 0, none⟩) (by show _ ≤ w0.heap.size + 1; omega) u), hO.setOther hne u, hk, ?_⟩, ?_, hs, by rw [setCell_size]; exact hp⟩
  · rw [World.cell?_of_block (w := W) (setCell_block _ _ _ _ _ (by show w0.heap.size ≠ w0.heap.size + 1; omega))]; exact hc
  · rw [World.frozen?_setCell]; exact hf

/-- The law's own book-keeping. -/
theorem LI.own {s : ByteArray} {w0 : World} : OwnFrom (w0.heap.size + 2) (LI s w0) := by
  rintro t W W' row ⟨⟨v, dn, H, hr, hO, hk, hc⟩, hf, hs, hp⟩ hg hrow
  have hrow2 : ∀ r, row = some r → ∃ o : Obj, W.heap[r]? = some o ∧ o.isCells = false := fun r e => (hrow r e).2
  have hB : ∀ {B : Nat} {v : Value} {H : List Hd}, OwnR SH W 25 B v H → OwnR SH W' 25 B v H := fun {B v H} h => by
    rcases h.2 with ⟨a, b⟩ | ⟨g, cap, cur, h1, h2, h3, h4⟩
    · exact ⟨h.1, .inl ⟨a, b⟩⟩
    · exact ⟨h.1, .inr ⟨g, cap, cur, h1, h2, (grownBy_keeps_cells hg hrow2 h3 rfl).trans h3, h4⟩⟩
  refine ⟨⟨v, dn, H, hr.world (hB hr.own) hg.size (fun k hk2 L h => ⟨h.1, ?_⟩) (hr.below.grown hg hr.below.size (fun k e => by have := (hrow k e).1; omega)), hB hO, hk, cell_kept hc hg hrow2⟩, (frozen_kept hc hg hrow2).trans hf, hs, Nat.le_trans hp hg.size⟩
  rcases h.2 with e | ⟨g, off, e, hl, hcc⟩
  · exact .inl e
  · exact .inr ⟨g, off, e, Nat.lt_of_lt_of_le hl hg.size, fun n u hu => cell_kept (hcc n u hu) hg hrow2⟩
end Go.Proofs.YtndikbpmhlhgfaaDoor
