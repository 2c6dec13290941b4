/-
  THE WALK over ref39.Interest.
-/
import Derived.Test.YtdnddikchchdkaaD14
import Derived.Test.YtdnddikchchdkaaD3
import Derived.Test.YtdnddikchchdkaaEr
namespace Go.Proofs.Ytdnddikchchdkaa
open Go.RowKit

set_option maxRecDepth 100000 in
set_option maxHeartbeats 4000000 in
theorem refinterest39_any (farm next : Int) (p : Option Addr) (L : List De.Dbt) (cap : Nat) (at_ mille : Int) (w : World) (h : Debts w p L) :
    Calls Try.prog 43 #[accV farm p L.length cap next, .int .i64 at_, .int .i64 mille] w fun e w' => e = .returned (.tuple #[.int .i64 (iVal farm L next at_ mille), .int .i64 (iErr farm L next at_ mille)]) ∧ Below w.heap.size w w' := by
  have hn := h.len
  have hb0 : Below w.heap.size w (w.alloc (Obj.cells #[.int .i64 farm, .slice p L.length cap, .int .i64 next] 42)) := (Below.refl w.heap.size w).alloc (Nat.le_refl _) _
  have hc := refcheck39_any farm next p L cap _ (h.below hb0)
  have H0 := Lib.hid (h.below hb0)
  have hbx := Lib.hid (BoxA.new w farm p L.length cap next 42)
  unfold accV at hc ⊢
  clear h
  rcases i_cases farm L next at_ mille with ⟨c, e, v⟩ | ⟨hR, c, ⟨d1, e, v⟩ | ⟨d1, ⟨d2, e, v⟩ | ⟨d2, d3, e, v⟩ | ⟨d2, d3, e, v⟩⟩⟩
  · rw [e, v]
    rw [c] at hc
    have HC := Lib.hid hc
    clear e v c hc
    go_enter Try.func43, Try.ntmps43
    go_wp2_with (first | (go_at_call 36; refine (HC.out).mono ?_; rintro e w1 ⟨rfl, hb1⟩))
    go_ret2
    exact ⟨rfl, bstep (Nat.le_refl _) hb0 hb1⟩
  · rw [e, v]
    rw [c] at hc
    have HC := Lib.hid hc
    clear e v c hc hR
    rcases De.dayB_not.1 d1 with d0 | d0
    all_goals
      go_enter Try.func43, Try.ntmps43
      go_wp2_with (first | (go_at_call 36; refine (HC.out).mono ?_; rintro e w1 ⟨rfl, hb1⟩))
      go_ret2
      exact ⟨rfl, bstep (Nat.le_refl _) hb0 hb1⟩
  · rw [e, v]
    rw [c] at hc
    have HC := Lib.hid hc
    obtain ⟨g3, g4⟩ := De.dayB_iff.1 d1
    clear e v c hc hR
    go_enter Try.func43, Try.ntmps43
    go_wp2_with (first | (go_at_call 36; refine (HC.out).mono ?_; rintro e w1 ⟨rfl, hb1⟩))
    go_ret2
    exact ⟨rfl, bstep (Nat.le_refl _) hb0 hb1⟩
  · rw [e, v]
    rw [c] at hc
    have HC := Lib.hid hc
    obtain ⟨g3, g4⟩ := De.dayB_iff.1 d1
    clear e v c hc hR
    go_enter Try.func43, Try.ntmps43
    go_wp2_with (first | (go_at_call 36; refine (HC.out).mono ?_; rintro e w1 ⟨rfl, hb1⟩))
    go_ret2
    exact ⟨rfl, bstep (Nat.le_refl _) hb0 hb1⟩
  · rw [e, v]
    rw [c] at hc
    have HC := Lib.hid hc
    obtain ⟨u0, u1⟩ := De.dayB_iff.1 d1
    have TK := Lib.hid (intr_tk hR ⟨u0, u1⟩ ⟨d2, d3⟩)
    have IK := Lib.hid (hR.intOk ⟨u0, u1⟩ ⟨d2, d3⟩)
    have R := Lib.hid hR
    obtain ⟨g3, g4⟩ := De.dayB_iff.1 d1
    clear e v c hc hR
    go_enter Try.func43, Try.ntmps43
    go_wp2_with (first | (go_at_call 36; refine Calls.mono HC.out ?_; rintro e w1 ⟨rfl, hb1⟩; have BX1 := Lib.hid (hbx.out.below hb1 (by simp))))
    have H1 := Lib.hid (H0.out.below hb1)
    have B1 := Lib.hid (bstep (Nat.le_refl _) hb0 hb1)
    clear hb0 hb1
    have BXz := BX1
    clear BX1
    obtain ⟨wz, rfl⟩ : ∃ wz : World, wz = w1 := ⟨_, rfl⟩
    obtain ⟨a0, a1, a2, -, -, -, -⟩ := BXz.out
    go_loopw [9, 10] (fun s i wr => ∃ k : Nat, k ≤ L.length ∧ i = .int .i64 k ∧ s = .int .i64 (De.intr at_ mille (L.take k)) ∧ Below wz.heap.size wz wr) (fun _ i _ => L.length - (intOf i).toNat)
    case atStart => exact ⟨0, Nat.zero_le _, rfl, rfl, Below.refl _ _⟩
    case round =>
      obtain ⟨k, hk, rfl, rfl, hb⟩ := hrel
      have HB := Lib.hid hb
      have hsz := hb.size
      obtain ⟨t0, t1⟩ := TK.out k
      by_cases hlt : k < L.length
      · obtain ⟨b, off, d, rfl, hbl, hD, hd⟩ := SD_at H1.out hlt
        obtain ⟨c0, c1, c2, c3, c4⟩ := hD.below hb hbl
        have hg := (R.out.each _ (De.g_mem hlt)).2.2
        rw [hd.out] at hg
        have hdue : 0 ≤ d.due ∧ d.due ≤ 36864 := by unfold De.good at hg; omega
        obtain ⟨hdue0, hdue1⟩ := hdue
        have hst := Lib.hid (De.intr_take (at_ := at_) (mille := mille) hlt)
        have hk0 : (0 : Int) ≤ (k : Int) := Int.natCast_nonneg _
        have hk1 : (k : Int) < (L.length : Int) := by omega
        clear hb hD hg
        by_cases hcd : d.due < at_
        · have ik := IK.out _ (De.g_mem hlt) (by rw [hd.out]; exact hcd)
          rw [hd.out] at ik
          have hp := ik.part
          have hpp := ik.p
          have hone := ik.one
          have hw1 : IntKind.i64.wrap ((at_ - d.due) * mille) = (at_ - d.due) * mille := by rw [IntKind.wrap_i64]; omega
          have hpa := fun W => refpart_any d.left ((at_ - d.due) * mille) 365000 W
          rw [hp] at hpa
          have PA := Lib.hid hpa
          have ST := Lib.hid (show De.intr at_ mille (L.take (k + 1)) = De.intr at_ mille (L.take k) + De.intOne at_ mille d by rw [hst.out, hd.out, if_pos hcd])
          have hws : IntKind.i64.wrap (at_ - d.due) = at_ - d.due := by rw [IntKind.wrap_i64]; omega
          generalize De.intOne at_ mille d = x at *
          obtain ⟨b0, b1, b2, -, -, -, -⟩ := BXz.out.below HB.out BXz.out.lt
          clear ik hp hpa
          go_wp2_with fail
          go_quiet ((go_at_call 15; exact Calls.quiet_of (PA.out _)))
          go_wp2
          go_roundw
          case rel => exact ⟨k + 1, by omega, by go_num, by rw [ST.out], bnext HB.out HB.out.size (drewN_below _ _)⟩
          case measure => simp [intOf]; omega
        · have ST := Lib.hid (show De.intr at_ mille (L.take (k + 1)) = De.intr at_ mille (L.take k) by rw [hst.out, hd.out, if_neg hcd, Int.add_zero])
          obtain ⟨b0, b1, b2, -, -, -, -⟩ := BXz.out.below HB.out BXz.out.lt
          go_wp2
          go_roundw
          case rel => exact ⟨k + 1, by omega, by go_num, by rw [ST.out], HB.out⟩
          case measure => simp [intOf]; omega
      · obtain rfl : k = L.length := by omega
        obtain ⟨b0, b1, b2, -, -, -, -⟩ := BXz.out.below hb BXz.out.lt
        clear hb
        rw [List.take_length]
        go_wp2
        go_ret2
        exact ⟨rfl, bnext B1.out B1.out.size HB.out⟩

end Go.Proofs.Ytdnddikchchdkaa
