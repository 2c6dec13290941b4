/-
  THE COMPARISON that debt.Offset hands to slices.SortFunc, and the sorting itself.
-/
import Derived.Test.YtdnddikchchdkaaD10
import Derived.Test.YtdnddikchchdkaaPq
import Derived.Test.YtdnddikchchdkaaEt
namespace Go.Proofs.Ytdnddikchchdkaa
open Go.RowKit Go.Sort Go.Lib Go.Shelf

theorem cfD_eq (L : List De.Dbt) (x y : Fin L.length) : De.cf L x y = orI (cmpI (De.g L x.val).due (De.g L y.val).due) (cmpI (De.g L x.val).num (De.g L y.val).num) := by
  unfold De.cf orI cmpI
  split <;> (try split) <;> (try split) <;> (try split) <;> (try split) <;> (try split) <;> omega

set_option maxRecDepth 100000 in
set_option maxHeartbeats 1000000 in
theorem by_due (b : Nat) (i j : Nat) (di dj : De.Dbt) (W : World) (hi : DAt W b (i * 5) di) (hj : DAt W b (j * 5) dj) :
    Calls Try.prog 65 #[.pointer (some ⟨b, i * 5, none⟩), .pointer (some ⟨b, j * 5, none⟩)] W fun e w' => e = .returned (.int .i64 (orI (cmpI di.due dj.due) (cmpI di.num dj.num))) ∧ ∃ q os, w' = grow (W.drewN q) os := by
  obtain ⟨a0, -, a2, -, -⟩ := hi
  obtain ⟨b0, -, b2, -, -⟩ := hj
  go_enter Try.func65, Try.ntmps65
  go_wp2_with fail
  refine wp_tail 18 (by kernel_rfl) (by kernel_rfl) ?_
  simp only [List.take_succ_cons, List.take_zero, List.drop_succ_cons, List.drop_zero]
  repeat still_step
  still_call (Calls.turn (compareI_any di.due dj.due _))
  repeat still_step
  still_call (Calls.turn (compareI_any di.num dj.num _))
  refine wpStill_nil ?_
  change wpList _ _ _ _ _ (World.drew _)
  go_wp2_with (go_at_call 59; refine (or2_any (cmpI di.due dj.due) (cmpI di.num dj.num) _ _ _ (by go_simp) (by go_simp)).mono ?_; rintro e w1 ⟨rfl, rfl⟩)
  go_ret
  refine ⟨rfl, 1, #[Obj.cells #[.int .i64 (cmpI di.due dj.due), .int .i64 (cmpI di.num dj.num)] 3], ?_⟩
  show (W.drewN 1).alloc _ = _
  exact alloc_eq_grow _ _

/-- A pointer to debt x of the row in block b. -/
def encD (b n : Nat) (x : Fin n) : Value := .pointer (some ⟨b, x.val * 5, none⟩)

theorem DAt.other {α : Type} [Inhabited α] {enc : α → Value} {w : World} {blk off m : Nat} {dk : Array α} {os : Array Obj} {b o : Nat} {d : De.Dbt} (h : DAt w b o d) (hl : b < w.heap.size) (hne : b ≠ blk) : DAt (sortWorld enc w blk off m dk os) b o d :=
  ⟨(sortWorld_cell _ _ _ _ _ _ _ ⟨b, o, none⟩ hl hne).trans h.c0, (sortWorld_cell _ _ _ _ _ _ _ ⟨b, o + 1, none⟩ hl hne).trans h.c1, (sortWorld_cell _ _ _ _ _ _ _ ⟨b, o + 2, none⟩ hl hne).trans h.c2, (sortWorld_cell _ _ _ _ _ _ _ ⟨b, o + 3, none⟩ hl hne).trans h.c3, (sortWorld_cell _ _ _ _ _ _ _ ⟨b, o + 4, none⟩ hl hne).trans h.c4⟩

theorem cmpD_lays (b ob : Nat) (L : List De.Dbt) [Inhabited (Fin L.length)] (w : World) (hb : b < w.heap.size) (hD : ∀ i, i < L.length → DAt w b (i * 5) (De.g L i)) (hne : b ≠ ob) (s : Nat) :
    CmpLays1 Try.prog 65 #[] (encD b L.length) (De.cf L) ob 0 s w := by
  intro m os dk _ x y
  rw [cfD_eq]
  exact by_due b x.val y.val _ _ _ ((hD x.val x.isLt).other hb hne) ((hD y.val y.isLt).other hb hne)

/-- THE SORTING: the row of pointers in block ob becomes the order in which the debts are paid off. -/
theorem sort_debts (b ob cap : Nat) (L : List De.Dbt) (day : Int) (ha : De.Asc L) (w : World) (h0 : 0 < L.length) (hn : L.length ≤ 1000) (hb : b < w.heap.size) (hD : ∀ i, i < L.length → DAt w b (i * 5) (De.g L i)) (hne : b ≠ ob)
    (ho : Row w ob (De.dueL L day).length fun j => .pointer (some ⟨b, ((De.dueL L day).map Fin.val).getD j 0 * 5, none⟩)) :
    Calls Try.prog 64 #[.slice (some ⟨ob, 0, none⟩) (De.dueL L day).length cap, .func (.func 65) #[] #[]] w fun e w' =>
      e = .returned (.tuple #[]) ∧ Row w' ob (De.dueL L day).length (fun j => .pointer (some ⟨b, (De.ord L day).getD j 0 * 5, none⟩)) ∧ w.heap.size ≤ w'.heap.size ∧ (∀ k, k < w.heap.size → k ≠ ob → w'.heap[k]? = w.heap[k]?) ∧ ∀ B, B ≤ ob → B ≤ w.heap.size → Below B w w' := by
  haveI : Inhabited (Fin L.length) := ⟨⟨0, h0⟩⟩
  have hdl : (De.dueL L day).length ≤ L.length := by
    unfold De.dueL
    refine Nat.le_trans (List.length_filter_le _ _) ?_
    simp
  have hsz : (De.dueL L day).toArray.size = (De.dueL L day).length := by simp
  have hH : Holds (encD b L.length) w ob 0 (De.dueL L day).toArray := by
    intro j hj
    rw [hsz] at hj
    rw [Nat.zero_add]
    have := ho.2 j hj
    refine ⟨this.1.trans ?_, this.2⟩
    rw [getElem!_pos _ j (by simpa using hj)]
    simp [encD, List.getD_eq_getElem?_getD, hj]
  have hS := Try.slices_SortFunc_total_ptr (encD b L.length) (fun _ => rfl) (De.cf L) (De.swo L) 65 #[] ob 0 cap (De.dueL L day).toArray w
    (enters_of Try.func65 (by kernel_rfl) rfl) (cmpD_lays b ob L w hb hD hne _) hH ho.1 (by rw [hsz]; omega) (De.tot ha)
  rw [hsz] at hS
  refine hS.mono fun e w' ⟨he, m, os, hw⟩ => ?_
  subst hw
  have hl : ((De.dueL L day).mergeSort fun x y => !(ltOf (De.cf L)) y x).toArray.size = (De.dueL L day).toArray.size := by simp
  refine ⟨he, ?_, ?_, fun k hk hne => ?_, fun B hB hB' => sortWorld_below _ _ _ _ _ _ _ _ hB hB'⟩
  · have hr := sortWorld_row (encD b L.length) w ob m _ _ os hH hl ho.1
    rw [hl, hsz] at hr
    refine hr.congr fun j hj => ?_
    rw [getElem!_pos _ j (by rw [hl, hsz]; exact hj)]
    unfold De.ord De.ordF encD
    simp [List.getD_eq_getElem?_getD, hj]
  · unfold sortWorld; rw [size_grow, Sort.size_putRow]; exact Nat.le_add_right _ _
  · unfold sortWorld
    rw [heap_grow_old _ _ (by rw [Sort.size_putRow]; exact hk)]
    unfold putRow mapBlock
    simp only [Array.getElem?_modify]
    rw [if_neg (by omega)]
    rfl

end Go.Proofs.Ytdnddikchchdkaa
