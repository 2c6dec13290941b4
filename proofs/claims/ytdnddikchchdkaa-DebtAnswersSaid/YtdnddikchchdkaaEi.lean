/-
  THE WALK over the reference's comparison of two lists; the examples of chapter 1.
-/
import Derived.Test.YtdnddikchchdkaaEs
namespace Go.Proofs.Ytdnddikchchdkaa
open Go.RowKit

theorem ex1 : shErr 10 [1, 1, 1] = 0 ∧ shList 10 [1, 1, 1] = [4, 3, 3] := by
  have ho : Sh.order 3 (Sh.rest 10 [1, 1, 1]) = [0, 1, 2] := Sh.order_unique (by decide) (by decide +kernel)
  refine ⟨by decide +kernel, ?_⟩
  unfold shList
  rw [if_neg (by decide +kernel), if_neg (by decide +kernel)]
  unfold Sh.shares Sh.share Sh.top
  simp only [List.length_cons, List.length_nil, Nat.zero_add, Nat.reduceAdd]
  rw [ho]
  decide +kernel

set_option maxHeartbeats 1000000 in
theorem refints_any (p q : Option Addr) (xs ys : List Int) (c d : Nat) (w : World) (hx : Ints w p xs) (hy : Ints w q ys) :
    Calls Try.prog 26 #[.slice p xs.length c, .slice q ys.length d] w fun e w' => e = .returned (.bool (decide (xs = ys))) ∧ ∃ n, w' = w.drewN n := by
  have l1 := hx.len
  have l2 := hy.len
  by_cases hn : xs.length = ys.length
  · have hnB : ((xs.length : Int) != (ys.length : Int)) = false := by rw [hn]; simp
    have Hx := Lib.hid hx
    have Hy := Lib.hid hy
    have Hn := Lib.hid hn
    clear hx hy hn
    go_enter Try.func26, Try.ntmps26
    go_wp2
    go_loopw [13] (fun i wr => ∃ k : Nat, k ≤ xs.length ∧ i = .int .i64 k ∧ (∀ j, j < k → xs.getD j 0 = ys.getD j 0) ∧ ∃ n, wr = w.drewN n) (fun i _ => xs.length - (intOf i).toNat)
    case atStart => exact ⟨0, Nat.zero_le _, rfl, fun j hj => absurd hj (by omega), 0, rfl⟩
    case round =>
      obtain ⟨k, hk, rfl, hall, n, rfl⟩ := hrel
      have HA := Lib.hid hall
      clear hall
      by_cases hlt : k < xs.length
      · obtain ⟨b, off, x, rfl, hbl, hcx, hx'⟩ := Hx.out.get hlt
        obtain ⟨b', off', y, rfl, hbl', hcy, hy'⟩ := Hy.out.get (k := k) (by have := Hn.out; omega)
        have hk0 : (0 : Int) ≤ (k : Int) := Int.natCast_nonneg _
        have hk1 : (k : Int) < (xs.length : Int) := by omega
        have hk2 : (k : Int) < (ys.length : Int) := by have := Hn.out; omega
        by_cases he : x = y
        · have hb : (x != y) = false := by simp [he]
          have He := Lib.hid he
          clear he
          go_wp2_with fail
          go_quiet (fail)
          go_wp2
          go_roundw
          case rel => exact ⟨k + 1, by omega, by go_num, fun j hj => by
            by_cases e : j = k
            · subst e; rw [hx'.out, hy'.out, He.out]
            · exact HA.out j (by omega), _, rfl⟩
          case measure => simp [intOf]; omega
        · have hb : (x != y) = true := by simp [he]
          have hne : xs ≠ ys := fun e => he (by rw [← hx'.out, ← hy'.out, e])
          have HN := Lib.hid hne
          clear he hne
          go_wp2_with fail
          go_quiet (fail)
          go_wp2
          go_ret
          exact ⟨ret_bool (decide_eq_false HN.out).symm, _, drewN_two _ _ _⟩
      · obtain rfl : k = xs.length := by omega
        have he : xs = ys := by
          apply List.ext_getElem Hn.out
          intro j h1 h2
          have := HA.out j h1
          simpa [List.getD_eq_getElem?_getD, h1, h2] using this
        have HE := Lib.hid he
        clear he
        go_wp2
        go_ret
        exact ⟨ret_bool (decide_eq_true HE.out).symm, n, rfl⟩
  · have hnB : ((xs.length : Int) != (ys.length : Int)) = true := by simp; omega
    have HN := Lib.hid (show ¬ xs = ys from fun e => hn (by rw [e]))
    clear hx hy hn
    go_enter Try.func26, Try.ntmps26
    go_wp2
    go_ret
    exact ⟨ret_bool (decide_eq_false HN.out).symm, 0, rfl⟩


theorem ex2 : Ex.half (-3) 2 = -1 ∧ Ex.down (-7) 2 = -4 ∧ Ex.up 7 2 = 4 ∧ Ex.less 1 3 1 2 = true := by decide +kernel

set_option maxRecDepth 100000 in
set_option maxHeartbeats 1000000 in
theorem awake01_any (w : World) : Calls Try.prog 9 #[] w fun e w' => e = .returned (.bool true) ∧ Below w.heap.size w w' := by
  have hi : ∀ (w : World), Ints (w.alloc (.cells #[.int .i64 1, .int .i64 1, .int .i64 1] 3)) (some ⟨w.heap.size, 0, none⟩) [1, 1, 1] := fun w => Ints.lit w _ [1, 1, 1] (by unfold maxLen; decide)
  have hi2 : ∀ (w : World), Ints (w.alloc (.cells #[.int .i64 4, .int .i64 3, .int .i64 3] 3)) (some ⟨w.heap.size, 0, none⟩) [4, 3, 3] := fun w => Ints.lit w _ [4, 3, 3] (by unfold maxLen; decide)
  have h5 := fun (w : World) p cap (hl : Ints w p [4, 3, 3]) => refints_any p (some ⟨w.heap.size, 0, none⟩) [4, 3, 3] [4, 3, 3] cap 3 (w.alloc (.cells #[.int .i64 4, .int .i64 3, .int .i64 3] 3)) (hl.below ((Below.refl _ _).alloc (Nat.le_refl _) _)) (hi2 w)
  rw [decide_eq_true (rfl : ([4, 3, 3] : List Int) = [4, 3, 3])] at h5
  have H5 := Lib.hid h5
  clear h5 hi2
  have hs := fun w cap => shares_any 10 (some ⟨w.heap.size, 0, none⟩) [1, 1, 1] cap _ (hi w)
  rw [ex1.1, ex1.2] at hs
  have HS := Lib.hid hs
  clear hs hi
  obtain ⟨x1, x2, x3, x4⟩ := ex2
  have h1 := fun w => half_any (-3) 2 w
  rw [x1] at h1
  have h2 := fun w => down_any (-7) 2 w
  rw [x2] at h2
  have h3 := fun w => up_any 7 2 w (by omega) (by omega)
  rw [x3] at h3
  have h4 := fun w => less_any 1 3 1 2 w
  rw [x4] at h4
  have H1 := Lib.hid h1
  have H2 := Lib.hid h2
  have H3 := Lib.hid h3
  have H4 := Lib.hid h4
  clear h1 h2 h3 h4 x1 x2 x3 x4
  go_enter Try.func9, Try.ntmps9
  go_wp2_with (first | (go_at_call 24; refine (HS.out _ _).mono ?_; rintro e w1 ⟨p, cap, rfl, hl, hb1⟩) | (go_at_call 26; refine (H5.out _ _ _ hl).mono ?_; rintro e w2 ⟨rfl, n, rfl⟩) | (go_at_call 20; refine (H1.out _).mono ?_; rintro e w' ⟨rfl, rfl⟩) | (go_at_call 16; refine (H2.out _).mono ?_; rintro e w' ⟨rfl, rfl⟩) | (go_at_call 18; refine (H3.out _).mono ?_; rintro e w' ⟨rfl, rfl⟩) | (go_at_call 22; refine (H4.out _).mono ?_; rintro e w4 ⟨rfl, hb4⟩))
  go_ret
  exact ⟨rfl, by
    have s1 := hb1.size
    rw [World.size_alloc] at s1
    refine bnext (bnext (((bnext ((Below.refl _ _).alloc (Nat.le_refl _) _) (by simp) hb1).alloc (by omega) _)) (by simp; omega) (drewN_below _ _)) ?_ hb4
    show w.heap.size ≤ (w1.alloc _).heap.size
    simp; omega⟩

end Go.Proofs.Ytdnddikchchdkaa
