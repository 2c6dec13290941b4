/-
  strings.SplitAfter at the ends of lines; texts with blank lines between.
-/
import Derived.Test.YtcghhagnibabeaaGreatDoorK22
import Derived.Test.YtcghhagnibabeaaGreatDoorK14
import Derived.Shelf.Strings.Split
import Derived.Lib.CutLaws
namespace Go.Proofs.YtcghhagnibabeaaGreatDoor
open Go.RowKit Cr

theorem ixb_hit : ∀ (l r : List UInt8), (∀ c ∈ l, c ≠ 10) → Lib.indexByte (l ++ 10 :: r) 10 = (l.length : Int)
  | [], r, _ => by simp [Lib.indexByte]
  | a :: l, r, h => by
    have ih := ixb_hit l r fun c hc => h c (List.mem_cons_of_mem _ hc)
    have ha : (a == 10) = false := by simpa using h a List.mem_cons_self
    rw [List.cons_append, Lib.indexByte, ha, ih]
    simp

/-- Lines with their ends, and what stands behind the last end. -/
def aftL (TL : List (List UInt8)) : List ByteArray := TL.map (fun l => bs (l ++ [10])) ++ [⟨#[]⟩]

theorem split_lines : ∀ (TL : List (List UInt8)) (s : ByteArray), (∀ l ∈ TL, ∀ c ∈ l, c ≠ 10) → s.data.toList = (TL.flatMap fun l => l ++ [10]) → Lib.splitB ⟨#[10]⟩ 1 TL.length s = aftL TL
  | [], s, _, hs => by
    have : s = ⟨#[]⟩ := ba_ext (by rw [hs]; rfl)
    subst this
    rfl
  | l :: r, s, h, hs => by
    have hix : Lib.indexB s ⟨#[10]⟩ = (l.length : Int) := by
      show Lib.index s.data.toList [10] = _
      rw [Lib.index_one, hs, List.flatMap_cons, List.append_assoc, List.singleton_append]
      exact ixb_hit l _ (h l List.mem_cons_self)
    have hlen : s.data.toList.length = l.length + 1 + (r.flatMap fun l => l ++ [10]).length := by rw [hs, List.flatMap_cons, List.length_append, List.length_append]; rfl
    have e1 : s.extract 0 (l.length + 1) = bs (l ++ [10]) := ba_ext (by
      rw [Lib.extract_data, hs, List.flatMap_cons]
      show List.take (l.length + 1 - 0) (List.drop 0 ((l ++ [10]) ++ _)) = _
      rw [List.drop_zero, Nat.sub_zero, show l.length + 1 = (l ++ [10]).length by simp, List.take_left]
      rfl)
    have e2 : (s.extract (l.length + 1) s.size).data.toList = (r.flatMap fun l => l ++ [10]) := by
      rw [Lib.extract_data, hs, List.flatMap_cons, show l.length + 1 = (l ++ [10]).length by simp, List.drop_left]
      refine List.take_of_length_le ?_
      have := size_len s
      simp only [List.length_append, List.length_cons, List.length_nil]
      omega
    have ih := split_lines r (s.extract (l.length + 1) s.size) (fun x hx => h x (List.mem_cons_of_mem _ hx)) e2
    rw [List.length_cons, Lib.splitB, hix]
    rw [if_neg (by simp), Int.toNat_natCast]
    show s.extract 0 (l.length + 1) :: Lib.splitB ⟨#[10]⟩ 1 r.length (s.extract (l.length + 1) s.size) = _
    rw [e1, ih]
    rfl

def AftGive (TL : List (List UInt8)) (w : World) (e : Ending) (w' : World) : Prop :=
  ∃ b, e = .returned (.slice (some ⟨b, 0, none⟩) (TL.length + 1) (TL.length + 1)) ∧ Recs SB w' (some ⟨b, 0, none⟩) (aftL TL) ∧ Below w.heap.size w w'

set_option maxHeartbeats 1000000 in
theorem splitafter_any (s : ByteArray) (TL : List (List UInt8)) (w : World) (hE : Env w) (h : ∀ l ∈ TL, ∀ c ∈ l, c ≠ 10) (hs : s.data.toList = (TL.flatMap fun l => l ++ [10])) (hl : s.size ≤ 16384) : Calls Tryz.prog 18 #[.string s, .string ⟨#[10]⟩] w (AftGive TL w) := by
  obtain ⟨m, hm⟩ := hE.ml
  have hcnt : Lib.countB s ⟨#[10]⟩ = TL.length := by
    show Lib.count s.data.toList [10] = _
    rw [Lib.count_one, hs]
    exact Wo.count_text TL h
  have hle : TL.length ≤ s.size := by
    rw [← size_len, hs]
    clear h hs hcnt
    induction TL with
    | nil => simp
    | cons a r ih =>
      rw [List.flatMap_cons, List.length_append, List.length_cons]
      have : (a ++ [10]).length = a.length + 1 := by simp
      omega
  have c := Any.strings_genSplit { Tryz.lays146 with } (by kernel_rfl) s ⟨#[10]⟩ 1 (-1) (TL.length + 1) m w (by omega) hm (by decide) (by decide) (by decide) (by decide) (by rw [if_pos (by decide), hcnt]; omega)
  rw [Nat.add_sub_cancel, split_lines TL s h hs] at c
  have hal : (aftL TL).length = TL.length + 1 := by unfold aftL; simp
  have hcell : Lib.cellsOf (aftL TL) (TL.length + 1) = ((aftL TL).map Value.string).toArray := by rw [← hal]; exact Lib.cellsOf_full _
  rw [hcell, hal] at c
  have hR := Recs.lit (S := SB) w 9 (aftL TL) (by rw [hal]; unfold maxLen; omega)
  rw [flat_str] at hR
  have HC := Lib.hid (show Calls Tryz.prog 41 #[.string s, .string ⟨#[10]⟩, .int .i64 1, .int .i64 (-1)] w (AftGive TL w) from c.mono fun e w' ⟨h1, h2⟩ => ⟨w.heap.size, h1, h2 ▸ hR, h2 ▸ (Below.refl _ _).alloc (Nat.le_refl _) _⟩)
  clear c hm hE hs hl hcnt hle hal hcell hR
  go_enter Tryz.func18, Tryz.ntmps18
  go_wp2_with (first | (go_at_call 41; (with_reducible refine Calls.mono HC.out ?_); rintro e w1 ⟨b, rfl, h1, h2⟩) | fail)
  go_ret
  exact ⟨b, rfl, h1, h2⟩

/-- Crops, from the r-th on, and round. -/
def rot (L : List Crp) (r k : Nat) : List Crp := (List.range k).map fun i => L.getD ((i + r) % L.length) ⟨⟨#[]⟩, 0, 0⟩

theorem rot_succ (L : List Crp) (r k : Nat) : rot L r (k + 1) = rot L r k ++ [L.getD ((k + r) % L.length) ⟨⟨#[]⟩, 0, 0⟩] := by
  unfold rot
  rw [List.range_succ, List.map_append]
  rfl

theorem rot_all {L : List Crp} {r : Nat} (hr : r < L.length) : rot L r L.length = L.drop r ++ L.take r := by
  refine List.ext_getElem (by unfold rot; simp; omega) fun i h1 h2 => ?_
  have hi : i < L.length := by unfold rot at h1; simpa using h1
  simp only [rot, List.getElem_map, List.getElem_range]
  by_cases hl : i < L.length - r
  · rw [List.getElem_append_left (by rw [List.length_drop]; exact hl), List.getElem_drop, Nat.mod_eq_of_lt (by omega), List.getD_eq_getElem?_getD, List.getElem?_eq_getElem (by omega)]
    simp only [Option.getD_some]
    congr 1
    omega
  · rw [List.getElem_append_right (by rw [List.length_drop]; omega), List.getElem_take]
    have e : (i + r) % L.length = i - (L.length - r) := by
      rw [Nat.mod_eq_sub_mod (by omega), Nat.mod_eq_of_lt (by omega)]
      omega
    rw [e, List.getD_eq_getElem?_getD, List.getElem?_eq_getElem (by omega)]
    simp only [Option.getD_some, List.length_drop]

theorem rot_perm {L : List Crp} {r : Nat} (hr : r < L.length) : (rot L r L.length).Perm L := by
  rw [rot_all hr]
  have := List.perm_append_comm (l₁ := L.drop r) (l₂ := L.take r)
  rwa [List.take_append_drop] at this

/-- The text of crops, each with a blank line ahead. -/
def bText (C : List Crp) : List UInt8 := C.flatMap fun c => [32, 32, 10] ++ (lnT c ++ [10])

theorem bText_lns (C : List Crp) : bText C = (C.flatMap fun c => [[32, 32], lnT c]).flatMap fun l => l ++ [10] := by
  unfold bText
  rw [List.flatMap_assoc]
  congr 1
  funext c
  simp

theorem bText_snoc (C : List Crp) (c : Crp) : bText (C ++ [c]) = bText C ++ ([32, 32, 10] ++ (lnT c ++ [10])) := by unfold bText; rw [List.flatMap_append]; simp

theorem parse_blank {L C : List Crp} (h : Right L) (hp : C.Perm L) {s : ByteArray} (hs : s.data.toList = bText C) (hl : s.size ≤ 16384) : parse s = (L, 0, 0) := by
  have he : ∀ c ∈ C, cErr c = 0 := fun c hc => h.each c (hp.mem_iff.1 hc)
  have hlen : (C.flatMap fun c => [[32, 32], lnT c]).length = 2 * C.length := by
    clear he hp hs
    induction C with
    | nil => rfl
    | cons a r ih => rw [List.flatMap_cons, List.length_append, ih]; simp; omega
  rw [parse_text (TL := C.flatMap fun c => [[32, 32], lnT c]) (fun l hl => by
    obtain ⟨c, hc, hx⟩ := List.mem_flatMap.1 hl
    simp only [List.mem_cons, List.not_mem_nil, or_false] at hx
    rcases hx with rfl | rfl
    · exact ⟨by decide, by decide⟩
    · exact (lnT_ok (he c hc)).1) (by rw [hlen, hp.length_eq]; have := h.len; omega) (by rw [hs, bText_lns]) hl]
  refine parse_any h hp ?_
  clear hp hs hlen
  induction C with
  | nil => rfl
  | cons c r ih =>
    have ih := ih fun x hx => he x (List.mem_cons_of_mem _ hx)
    have e1 : Wo.wds [32, 32] = [] := by decide +kernel
    have e2 := (lnT_ok (he c List.mem_cons_self)).2
    rw [List.flatMap_cons, List.map_append, List.filter_append, ih, List.map_cons]
    simp only [List.map_cons, List.map_nil, e1, e2]
    rw [List.filter_cons, if_neg (by simp), List.filter_cons, if_pos (by simp [lineW])]
    rfl

end Go.Proofs.YtcghhagnibabeaaGreatDoor
