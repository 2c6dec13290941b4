/-
  THE WALK over ref39.Owed.
-/
import Derived.Test.YtdnddikchchdkaaD5
import Derived.Test.YtdnddikchchdkaaD3
namespace Go.Proofs.Ytdnddikchchdkaa
open Go.RowKit

set_option maxRecDepth 100000 in
set_option maxHeartbeats 2000000 in
theorem refowed39_any (farm next : Int) (p : Option Addr) (L : List De.Dbt) (cap : Nat) (w : World) (h : Debts w p L) :
    Calls Try.prog 37 #[accV farm p L.length cap next] w fun e w' => e = .returned (.int .i64 (owedV farm L next)) ∧ Below w.heap.size w w' := by
  have hn := h.len
  have hb0 : Below w.heap.size w (w.alloc (Obj.cells #[.int .i64 farm, .slice p L.length cap, .int .i64 next] 42)) := (Below.refl w.heap.size w).alloc (Nat.le_refl _) _
  have HC := Lib.hid (refcheck39_any farm next p L cap _ (h.below hb0))
  have H0 := Lib.hid (h.below hb0)
  have hbx := Lib.hid (BoxA.new w farm p L.length cap next 42)
  unfold accV at HC ⊢
  clear h
  by_cases hR : De.Right farm L next
  · have hcz := De.chk_ok hR
    rw [hcz] at HC
    have E := Lib.hid (owed_ok hR)
    have SB := Lib.hid (left_bd hR)
    have R := Lib.hid hR
    clear hR hcz
    go_enter Try.func37, Try.ntmps37
    go_wp2_with (first | (go_at_call 36; refine Calls.mono HC.out ?_; rintro e w1 ⟨rfl, hb1⟩; obtain ⟨a0, a1, a2, -, -, -, hlt1⟩ := hbx.out.below hb1 (by simp)))
    have H1 := Lib.hid (H0.out.below hb1)
    have B1 := Lib.hid (bstep (Nat.le_refl _) hb0 hb1)
    clear hb0 hb1
    obtain ⟨wz, rfl⟩ : ∃ wz : World, wz = w1 := ⟨_, rfl⟩
    go_loop [3, 4] (fun s i => ∃ k : Nat, k ≤ L.length ∧ i = .int .i64 k ∧ s = .int .i64 (De.sum (L.take k))) (fun _ i => L.length - (intOf i).toNat)
    case atStart => exact ⟨0, Nat.zero_le _, rfl, rfl⟩
    case round =>
      obtain ⟨k, hk, rfl, rfl⟩ := hrel
      obtain ⟨t0, t1⟩ := SB.out k
      by_cases hlt : k < L.length
      · obtain ⟨b, off, d, rfl, hbl, hD, hd⟩ := SD_at H1.out hlt
        obtain ⟨c0, c1, c2, c3, c4⟩ := hD
        have hg := (R.out.each _ (De.g_mem hlt)).2.2
        rw [hd.out] at hg
        have hl : 1 ≤ d.left ∧ d.left ≤ 68719476736 := by unfold De.good at hg; omega
        have hst := Lib.hid (De.sum_take hlt)
        have hk0 : (0 : Int) ≤ (k : Int) := Int.natCast_nonneg _
        have hk1 : (k : Int) < (L.length : Int) := by omega
        clear hg
        go_wp2
        go_round
        case rel => exact ⟨k + 1, by omega, by go_num, by rw [hst.out, hd.out]⟩
        case measure => simp [intOf]; omega
      · obtain rfl : k = L.length := by omega
        go_wp2
        go_ret
        exact ⟨by rw [E.out]; first | rfl | (rw [List.take_length]; rfl), B1.out⟩
  · have hcz := De.chk_bad hR
    rw [hcz] at HC
    have E := Lib.hid (owed_bad hR)
    clear hR hcz
    go_enter Try.func37, Try.ntmps37
    go_wp2_with (first | (go_at_call 36; refine (HC.out).mono ?_; rintro e w1 ⟨rfl, hb1⟩))
    go_ret
    exact ⟨by rw [E.out]; rfl, bstep (Nat.le_refl _) hb0 hb1⟩

end Go.Proofs.Ytdnddikchchdkaa
