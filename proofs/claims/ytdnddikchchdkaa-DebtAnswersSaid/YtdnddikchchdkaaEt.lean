/-
  THE COMPARISON that exact.Shares hands to slices.SortFunc, and the sorting itself: behind it the row of the order holds 'Sh.order'.
-/
import Derived.Test.YtdnddikchchdkaaEd
import Derived.Test.YtdnddikchchdkaaHi
namespace Go.Proofs.Ytdnddikchchdkaa
open Go.RowKit Go.Sort Go.Lib Go.Shelf

theorem compareI_any (a b : Int) (w : World) :
    Calls Try.prog 60 #[.int .i64 a, .int .i64 b] w fun e w' => e = .returned (.int .i64 (cmpI a b)) ∧ w = w' :=
  (Try.cmp_Compare_int a b w).mono fun _ _ h => ⟨h.1, h.2.symm⟩

theorem cf_eq (n : Nat) (r : Nat → Int) (x y : Fin n) : Sh.cf n r x y = orI (cmpI (r y.val) (r x.val)) (cmpI (x.val : Int) (y.val : Int)) := by
  unfold Sh.cf orI cmpI
  split <;> (try split) <;> (try split) <;> (try split) <;> (try split) <;> (try split) <;> omega

set_option maxRecDepth 100000 in
set_option maxHeartbeats 1000000 in
theorem by_rests (c rb n i j : Nat) (ri rj : Int) (W : World) (hi : i < n) (hj : j < n) (hbox : W.cell? ⟨c, 0, none⟩ = some (.slice (some ⟨rb, 0, none⟩) n n))
    (hri : W.cell? ⟨rb, i, none⟩ = some (.int .i64 ri)) (hrj : W.cell? ⟨rb, j, none⟩ = some (.int .i64 rj)) (_hn : n ≤ 9223372036854775807) :
    Calls Try.prog 58 #[.int .i64 (i : Int), .int .i64 (j : Int), .pointer (some ⟨c, 0, none⟩)] W fun e w' => e = .returned (.int .i64 (orI (cmpI rj ri) (cmpI (i : Int) (j : Int)))) ∧ ∃ q os, w' = grow (W.drewN q) os := by
  have hi0 : (0 : Int) ≤ (i : Int) := Int.natCast_nonneg _
  have hi1 : (i : Int) < (n : Int) := by omega
  have hj0 : (0 : Int) ≤ (j : Int) := Int.natCast_nonneg _
  have hj1 : (j : Int) < (n : Int) := by omega
  go_enter Try.func58, Try.ntmps58
  go_wp2_with fail
  refine wp_tail 12 (by kernel_rfl) (by kernel_rfl) ?_
  simp only [List.take_succ_cons, List.take_zero, List.drop_succ_cons, List.drop_zero]
  repeat still_step
  still_call (Calls.turn (compareI_any rj ri _))
  repeat still_step
  still_call (Calls.turn (compareI_any (i : Int) (j : Int) _))
  refine wpStill_nil ?_
  change wpList _ _ _ _ _ (World.drew _)
  go_wp2_with (go_at_call 59; refine (or2_any (cmpI rj ri) (cmpI (i : Int) (j : Int)) _ _ _ (by go_simp) (by go_simp)).mono ?_; rintro e w1 ⟨rfl, rfl⟩)
  go_ret
  refine ⟨rfl, 1, #[Obj.cells #[.int .i64 (cmpI rj ri), .int .i64 (cmpI (i : Int) (j : Int))] 3], ?_⟩
  show (W.drewN 1).alloc _ = _
  exact alloc_eq_grow _ _

theorem sortWorld_cell {α : Type} [Inhabited α] (enc : α → Value) (w : World) (blk off m : Nat) (dk : Array α) (os : Array Obj) (a : Addr) (hl : a.block < w.heap.size) (hne : a.block ≠ blk) : (sortWorld enc w blk off m dk os).cell? a = w.cell? a := by
  unfold sortWorld
  rw [cell?_grow _ _ _ (by rw [Sort.size_putRow]; exact hl), cell?_putRow_other _ _ _ _ _ _ (Or.inl hne)]
  rfl

def encF (n : Nat) (x : Fin n) : Value := .int .i64 (x.val : Int)

theorem cmp_lays (c rb ob n : Nat) [Inhabited (Fin n)] (r : Nat → Int) (w : World) (hn : n ≤ 9223372036854775807) (hc : c < w.heap.size) (hbox : w.cell? ⟨c, 0, none⟩ = some (.slice (some ⟨rb, 0, none⟩) n n))
    (hr : Row w rb n fun j => .int .i64 (r j)) (h1 : c ≠ ob) (h2 : rb ≠ ob) (s : Nat) :
    CmpLays1 Try.prog 58 #[.pointer (some ⟨c, 0, none⟩)] (encF n) (Sh.cf n r) ob 0 s w := by
  intro m os dk _ x y
  rw [cf_eq]
  exact by_rests c rb n x.val y.val (r x.val) (r y.val) _ x.isLt y.isLt ((sortWorld_cell _ _ _ _ _ _ _ _ hc h1).trans hbox) ((sortWorld_cell _ _ _ _ _ _ _ _ hr.1 h2).trans (hr.2 _ x.isLt).1) ((sortWorld_cell _ _ _ _ _ _ _ _ hr.1 h2).trans (hr.2 _ y.isLt).1) hn

theorem sortWorld_below {α : Type} [Inhabited α] (enc : α → Value) (w : World) (B blk off m : Nat) (dk : Array α) (os : Array Obj) (h : B ≤ blk) (hB : B ≤ w.heap.size) : Below B w (sortWorld enc w blk off m dk os) := by
  refine ⟨rfl, rfl, rfl, ?_, fun k hk => ?_⟩
  · unfold sortWorld; rw [size_grow, Sort.size_putRow]; exact Nat.le_add_right _ _
  · unfold sortWorld
    rw [heap_grow_old _ _ (by rw [Sort.size_putRow]; exact Nat.lt_of_lt_of_le hk hB)]
    unfold putRow mapBlock
    simp only [Array.getElem?_modify]
    rw [if_neg (by omega)]
    rfl


theorem sortWorld_row {α : Type} [Inhabited α] (enc : α → Value) (w : World) (blk m : Nat) (d0 dk : Array α) (os : Array Obj) (h0 : Holds enc w blk 0 d0) (hs : dk.size = d0.size) (hb : blk < w.heap.size) :
    Row (sortWorld enc w blk 0 m dk os) blk dk.size fun j => enc dk[j]! := by
  refine ⟨?_, fun j hj => ?_⟩
  · unfold sortWorld; rw [size_grow, Sort.size_putRow]; exact Nat.lt_of_lt_of_le hb (Nat.le_add_right _ _)
  · have h0' : Holds enc (Sort.ahead w m) blk 0 d0 := h0
    have c := cell?_putRow enc (Sort.ahead w m) blk 0 d0 dk h0' hs j hj
    rw [Nat.zero_add] at c
    unfold sortWorld
    refine ⟨(cell?_grow _ _ _ (by rw [Sort.size_putRow]; exact hb)).trans c, (frozen?_grow _ _ _ (by rw [Sort.size_putRow]; exact hb)).trans ?_⟩
    rw [frozen?_putRow]
    have := (h0 j (by omega)).2
    rw [Nat.zero_add] at this
    exact this

theorem sortWorld_other {α : Type} [Inhabited α] (enc : α → Value) (w : World) (blk off m : Nat) (dk : Array α) (os : Array Obj) {b n : Nat} {f : Nat → Value} (h : Row w b n f) (hne : b ≠ blk) : Row (sortWorld enc w blk off m dk os) b n f := by
  refine ⟨?_, fun j hj => ⟨(sortWorld_cell enc w blk off m dk os ⟨b, j, none⟩ h.1 hne).trans (h.2 j hj).1, ?_⟩⟩
  · unfold sortWorld; rw [size_grow, Sort.size_putRow]; exact Nat.lt_of_lt_of_le h.1 (Nat.le_add_right _ _)
  · unfold sortWorld
    rw [frozen?_grow _ _ _ (by rw [Sort.size_putRow]; exact h.1), frozen?_putRow]
    exact (h.2 j hj).2

/-- THE SORTING: the row of the indices becomes 'Sh.order'; all other blocks that were there are as they were. -/
theorem sort_rests (c rb ob n cap : Nat) (r : Nat → Int) (w : World) (h0 : 0 < n) (hn : n ≤ 64) (hc : c < w.heap.size) (hbox : w.cell? ⟨c, 0, none⟩ = some (.slice (some ⟨rb, 0, none⟩) n n))
    (hr : Row w rb n fun j => .int .i64 (r j)) (ho : Row w ob n fun j => .int .i64 (j : Int)) (h1 : c ≠ ob) (h2 : rb ≠ ob) :
    Calls Try.prog 57 #[.slice (some ⟨ob, 0, none⟩) n cap, .func (.func 58) #[] #[.pointer (some ⟨c, 0, none⟩)]] w fun e w' =>
      e = .returned (.tuple #[]) ∧ Row w' ob n (fun j => .int .i64 ((Sh.order n r).getD j 0 : Nat)) ∧ (∀ B, B ≤ ob → B ≤ w.heap.size → Below B w w') ∧ ∀ b m f, b ≠ ob → Row w b m f → Row w' b m f := by
  haveI : Inhabited (Fin n) := ⟨⟨0, h0⟩⟩
  have hsz : (List.finRange n).toArray.size = n := by simp
  have hH : Holds (encF n) w ob 0 (List.finRange n).toArray := by
    intro j hj
    rw [hsz] at hj
    rw [Nat.zero_add]
    have := ho.2 j hj
    refine ⟨this.1.trans ?_, this.2⟩
    rw [getElem!_pos _ j (by simpa using hj)]
    simp [encF]
  have hS := Try.slices_SortFunc_total (encF n) (fun _ => rfl) (Sh.cf n r) (Sh.swo n r) 58 #[.pointer (some ⟨c, 0, none⟩)] ob 0 cap (List.finRange n).toArray w
    (enters_of Try.func58 (by kernel_rfl) rfl) (cmp_lays c rb ob n r w (by omega) hc hbox hr h1 h2 _) hH ho.1 (by rw [hsz]; omega) (Sh.tot n r)
  rw [hsz] at hS
  refine hS.mono fun e w' ⟨he, m, os, hw⟩ => ?_
  subst hw
  have hl : ((List.finRange n).mergeSort fun x y => !(ltOf (Sh.cf n r)) y x).toArray.size = (List.finRange n).toArray.size := by simp
  refine ⟨he, ?_, fun B hB hB' => sortWorld_below _ _ _ _ _ _ _ _ hB hB', fun b m f hne h => sortWorld_other _ _ _ _ _ _ _ h hne⟩
  have hr := sortWorld_row (encF n) w ob m _ _ os hH hl ho.1
  rw [hl, hsz] at hr
  refine hr.congr fun j hj => ?_
  rw [getElem!_pos _ j (by rw [hl, hsz]; exact hj)]
  unfold Sh.order encF
  simp [List.getD_eq_getElem?_getD, hj]

end Go.Proofs.Ytdnddikchchdkaa
