/-
  THE WALKS over the example of chapter 32 and the law CeilingRises.
-/
import Derived.Test.YtmgdbbmheiligaaCd
import Derived.Test.YtmgdbbmheiligaaDg
import Derived.Test.YtmgdbbmheiligaaI4
import Derived.Test.YtmgdbbmheiligaaBd
namespace Go.Proofs.Ytmgdbbmheiligaa
open Go.RowKit

theorem Pairs.lit (w : World) (T : TypeId) (D : List (Int × Int)) (hl : D.length ≤ maxLen) : Pairs (w.alloc (.cells (pcells D).toArray T)) (some ⟨w.heap.size, 0, none⟩) D := by
  refine ⟨hl, .inr ⟨_, 0, rfl, by simp, fun j hj => ?_⟩⟩
  have hp := pcells_at D j hj
  rw [Nat.zero_add, World.cell?_alloc_new, World.cell?_alloc_new]
  simpa using hp

theorem ex32a : Ce.redErr [(100, 500), (200, 1000)] 300 = 0 ∧ Ce.redVal [(100, 500), (200, 1000)] 300 = 150 ∧ Ce.chk [(100, 500), (200, 1000)] = 0 ∧ Ex.up 5 2 = 3 := by decide +kernel

theorem ex32b : Ce.farmErr [(100, 500), (200, 1000)] 60 [100, 200] = 0 ∧ Ce.farm [(100, 500), (200, 1000)] 60 [100, 200] = [20, 40] := by
  have he : Ce.farmErr [(100, 500), (200, 1000)] 60 [100, 200] = 0 := by decide +kernel
  refine ⟨he, ?_⟩
  have ho : Sh.order 2 (Sh.rest 60 [100, 200]) = [0, 1] := Sh.order_unique (by decide) (by decide +kernel)
  have hl : Ce.farmLeft [(100, 500), (200, 1000)] 60 [100, 200] = 60 := by decide +kernel
  have hs : shList 60 [100, 200] = [20, 40] := by
    unfold shList
    rw [if_neg (by decide +kernel), if_neg (by decide +kernel)]
    unfold Sh.shares Sh.share Sh.top
    simp only [List.length_cons, List.length_nil, Nat.zero_add, Nat.reduceAdd]
    rw [ho]
    decide +kernel
  unfold Ce.farm
  rw [if_neg (by rw [he]; simp), hl, if_neg (by decide +kernel), hs]

set_option maxRecDepth 100000 in
set_option maxHeartbeats 1000000 in
theorem awake32_any (w : World) : Calls Try.prog 33 #[] w fun e w' => e = .returned (.bool true) ∧ Below w.heap.size w w' := by
  have hP : Pairs (w.alloc (.cells #[.int .i64 100, .int .i64 500, .int .i64 200, .int .i64 1000] 48)) (some ⟨w.heap.size, 0, none⟩) [(100, 500), (200, 1000)] := Pairs.lit w _ [(100, 500), (200, 1000)] (by unfold maxLen; decide)
  have hi : ∀ (w : World), Ints (w.alloc (.cells #[.int .i64 100, .int .i64 200] 3)) (some ⟨w.heap.size, 0, none⟩) [100, 200] := fun w => Ints.lit w _ [100, 200] (by unfold maxLen; decide)
  have hi2 : ∀ (w : World), Ints (w.alloc (.cells #[.int .i64 20, .int .i64 40] 3)) (some ⟨w.heap.size, 0, none⟩) [20, 40] := fun w => Ints.lit w _ [20, 40] (by unfold maxLen; decide)
  have h5 := fun (w : World) p cap (hl : Ints w p [20, 40]) => refints24_any p (some ⟨w.heap.size, 0, none⟩) [20, 40] [20, 40] cap 2 (w.alloc (.cells #[.int .i64 20, .int .i64 40] 3)) (hl.below ((Below.refl _ _).alloc (Nat.le_refl _) _)) (hi2 w)
  rw [decide_eq_true (rfl : ([20, 40] : List Int) = [20, 40])] at h5
  have H5 := Lib.hid h5
  clear h5 hi2
  obtain ⟨x1, x2, x3, x4⟩ := ex32a
  obtain ⟨x5, x6⟩ := ex32b
  have h1 := Reduced_any (some ⟨w.heap.size, 0, none⟩) [(100, 500), (200, 1000)] 2 300 _ hP
  rw [x1, x2] at h1
  have h2 := fun (W : World) (h : Pairs W (some ⟨w.heap.size, 0, none⟩) [(100, 500), (200, 1000)]) => farm_any (some ⟨w.heap.size, 0, none⟩) [(100, 500), (200, 1000)] 2 60 (some ⟨W.heap.size, 0, none⟩) [100, 200] 2 _ (h.below ((Below.refl _ _).alloc (Nat.le_refl _) _)) (hi W)
  rw [x5, x6] at h2
  have h3 := fun (W : World) (h : Pairs W (some ⟨w.heap.size, 0, none⟩) [(100, 500), (200, 1000)]) => check_any (some ⟨w.heap.size, 0, none⟩) [(100, 500), (200, 1000)] 2 W h
  rw [x3] at h3
  have h4 := fun w => up_any 5 2 w (by omega) (by omega)
  rw [x4] at h4
  have H1 := Lib.hid h1
  have H2 := Lib.hid h2
  have H3 := Lib.hid h3
  have H4 := Lib.hid h4
  have HP := Lib.hid hP
  clear h1 h2 h3 h4 x1 x2 x3 x4 x5 x6 hi hP
  go_enter Try.func33, Try.ntmps33
  go_wp2_with (first | (go_at_call 38; refine (H1.out).mono ?_; rintro e w1 ⟨rfl, hb1⟩) | (go_at_call 40; refine (H2.out _ (HP.out.below hb1)).mono ?_; rintro e w2 ⟨p, cap, rfl, hl, hb2⟩) | (go_at_call 36; refine (H3.out _ (((HP.out.below hb1).below ((Below.refl _ _).alloc (Nat.le_refl _) _)).below hb2)).mono ?_; rintro e w3 ⟨rfl, hb3⟩) | (go_at_call 42; refine (H5.out _ _ _ (hl.below hb3)).mono ?_; rintro e w4 ⟨rfl, n, rfl⟩) | (go_at_call 24; refine (H4.out _).mono ?_; rintro e w' ⟨rfl, rfl⟩))
  go_ret
  exact ⟨rfl, by
    have s1 := hb1.size
    rw [World.size_alloc] at s1
    have s2 := hb2.size
    rw [World.size_alloc] at s2
    have s3 := hb3.size
    have b1 := bnext ((Below.refl w.heap.size w).alloc (Nat.le_refl _) _) (by simp) hb1
    have b2 := bnext (b1.alloc (by omega) _) (by simp; omega) hb2
    have b3 := bnext b2 (by omega) hb3
    exact bnext (b3.alloc (by omega) _) (by simp; omega) (drewN_below _ n)⟩

end Go.Proofs.Ytmgdbbmheiligaa
