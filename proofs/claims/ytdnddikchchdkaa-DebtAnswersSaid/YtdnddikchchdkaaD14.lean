/-
  THE WALK over debt.Interest.
-/
import Derived.Test.YtdnddikchchdkaaD5
import Derived.Test.YtdnddikchchdkaaEd
namespace Go.Proofs.Ytdnddikchchdkaa
open Go.RowKit

noncomputable def iErr (farm : Int) (L : List De.Dbt) (next at_ mille : Int) : Int :=
  if De.chk farm L next ≠ 0 then 22 else if De.dayB at_ = false then 9 else if mille < 0 ∨ 1000 < mille then 2 else 0
noncomputable def iVal (farm : Int) (L : List De.Dbt) (next at_ mille : Int) : Int := if iErr farm L next at_ mille ≠ 0 then 0 else De.intr at_ mille L

theorem i_cases (farm : Int) (L : List De.Dbt) (next at_ mille : Int) :
    (De.chk farm L next = 22 ∧ iErr farm L next at_ mille = 22 ∧ iVal farm L next at_ mille = 0) ∨ (De.Right farm L next ∧ De.chk farm L next = 0 ∧ ((De.dayB at_ = false ∧ iErr farm L next at_ mille = 9 ∧ iVal farm L next at_ mille = 0) ∨ (De.dayB at_ = true ∧ ((mille < 0 ∧ iErr farm L next at_ mille = 2 ∧ iVal farm L next at_ mille = 0) ∨ (0 ≤ mille ∧ 1000 < mille ∧ iErr farm L next at_ mille = 2 ∧ iVal farm L next at_ mille = 0) ∨ (0 ≤ mille ∧ mille ≤ 1000 ∧ iErr farm L next at_ mille = 0 ∧ iVal farm L next at_ mille = De.intr at_ mille L))))) := by
  have hv : ∀ n : Int, n ≠ 0 → iErr farm L next at_ mille = n → iErr farm L next at_ mille = n ∧ iVal farm L next at_ mille = 0 := fun n hn h => ⟨h, by unfold iVal; rw [if_pos (by rw [h]; exact hn)]⟩
  by_cases hR : De.Right farm L next
  · have c := De.chk_ok hR
    refine .inr ⟨hR, c, ?_⟩
    cases h2 : De.dayB at_
    · exact .inl ⟨rfl, hv 9 (by omega) (by unfold iErr; rw [if_neg (by rw [c]; simp), if_pos h2])⟩
    refine .inr ⟨rfl, ?_⟩
    by_cases h3 : mille < 0
    · exact .inl ⟨h3, hv 2 (by omega) (by unfold iErr; rw [if_neg (by rw [c]; simp), if_neg (by rw [h2]; simp), if_pos (.inl h3)])⟩
    by_cases h4 : 1000 < mille
    · exact .inr (.inl ⟨by omega, h4, hv 2 (by omega) (by unfold iErr; rw [if_neg (by rw [c]; simp), if_neg (by rw [h2]; simp), if_pos (.inr h4)])⟩)
    · have e : iErr farm L next at_ mille = 0 := by unfold iErr; rw [if_neg (by rw [c]; simp), if_neg (by rw [h2]; simp), if_neg (by omega)]
      exact .inr (.inr ⟨by omega, by omega, e, by unfold iVal; rw [if_neg (by rw [e]; simp)]⟩)
  · exact .inl ⟨De.chk_bad hR, hv 22 (by omega) (by unfold iErr; rw [if_pos (by rw [De.chk_bad hR]; simp)])⟩

theorem intr_tk {farm : Int} {L : List De.Dbt} {next at_ mille : Int} (h : De.Right farm L next) (t0 : 0 ≤ at_ ∧ at_ ≤ 36864) (q0 : 0 ≤ mille ∧ mille ≤ 1000) (k : Nat) : 0 ≤ De.intr at_ mille (L.take k) ∧ De.intr at_ mille (L.take k) ≤ 351843720888320 := by
  have := De.intr_bd (L := L.take k) (at_ := at_) (mille := mille) fun d hd => h.intOk t0 q0 d (List.mem_of_mem_take hd)
  have hl := h.len
  rw [List.length_take] at this
  omega

set_option maxRecDepth 100000 in
set_option maxHeartbeats 4000000 in
theorem interest39_any (farm next : Int) (p : Option Addr) (L : List De.Dbt) (cap : Nat) (at_ mille : Int) (w : World) (h : Debts w p L) :
    Calls Try.prog 42 #[accV farm p L.length cap next, .int .i64 at_, .int .i64 mille] w fun e w' => e = .returned (.tuple #[.int .i64 (iVal farm L next at_ mille), .int .i64 (iErr farm L next at_ mille)]) ∧ Below w.heap.size w w' := by
  have hn := h.len
  have hb0 : Below w.heap.size w (w.alloc (Obj.cells #[.int .i64 farm, .slice p L.length cap, .int .i64 next] 42)) := (Below.refl w.heap.size w).alloc (Nat.le_refl _) _
  have hc := check39_any farm next p L cap _ (h.below hb0)
  have H0 := Lib.hid (h.below hb0)
  have hbx := Lib.hid (BoxA.new w farm p L.length cap next 42)
  unfold accV at hc ⊢
  clear h
  rcases i_cases farm L next at_ mille with ⟨c, e, v⟩ | ⟨hR, c, ⟨d1, e, v⟩ | ⟨d1, ⟨d2, e, v⟩ | ⟨d2, d3, e, v⟩ | ⟨d2, d3, e, v⟩⟩⟩
  · rw [e, v]
    rw [c] at hc
    have HC := Lib.hid hc
    clear e v c hc
    go_enter Try.func42, Try.ntmps42
    go_wp2_with (first | (go_at_call 30; refine (HC.out).mono ?_; rintro e w1 ⟨rfl, hb1⟩))
    go_ret2
    exact ⟨rfl, bstep (Nat.le_refl _) hb0 hb1⟩
  · rw [e, v]
    rw [c] at hc
    have HC := Lib.hid hc
    clear e v c hc hR
    go_enter Try.func42, Try.ntmps42
    go_wp2_with (first | (go_at_call 30; refine (HC.out).mono ?_; rintro e w1 ⟨rfl, hb1⟩) | (go_at_call 63; refine (day39_any _ _).mono ?_; rintro e w' ⟨rfl, rfl⟩))
    go_ret2
    exact ⟨rfl, bstep (Nat.le_refl _) hb0 hb1⟩
  · rw [e, v]
    rw [c] at hc
    have HC := Lib.hid hc
    clear e v c hc hR
    go_enter Try.func42, Try.ntmps42
    go_wp2_with (first | (go_at_call 30; refine (HC.out).mono ?_; rintro e w1 ⟨rfl, hb1⟩) | (go_at_call 63; refine (day39_any _ _).mono ?_; rintro e w' ⟨rfl, rfl⟩))
    go_ret2
    exact ⟨rfl, bstep (Nat.le_refl _) hb0 hb1⟩
  · rw [e, v]
    rw [c] at hc
    have HC := Lib.hid hc
    clear e v c hc hR
    go_enter Try.func42, Try.ntmps42
    go_wp2_with (first | (go_at_call 30; refine (HC.out).mono ?_; rintro e w1 ⟨rfl, hb1⟩) | (go_at_call 63; refine (day39_any _ _).mono ?_; rintro e w' ⟨rfl, rfl⟩))
    go_ret2
    exact ⟨rfl, bstep (Nat.le_refl _) hb0 hb1⟩
  · rw [e, v]
    rw [c] at hc
    have HC := Lib.hid hc
    obtain ⟨u0, u1⟩ := De.dayB_iff.1 d1
    have TK := Lib.hid (intr_tk hR ⟨u0, u1⟩ ⟨d2, d3⟩)
    have IK := Lib.hid (hR.intOk ⟨u0, u1⟩ ⟨d2, d3⟩)
    have R := Lib.hid hR
    clear e v c hc hR
    go_enter Try.func42, Try.ntmps42
    go_wp2_with (first | (go_at_call 30; refine Calls.mono HC.out ?_; rintro e w1 ⟨rfl, hb1⟩; obtain ⟨a0, a1, a2, -, -, -, hlt1⟩ := hbx.out.below hb1 (by simp)) | (go_at_call 63; refine (day39_any _ _).mono ?_; rintro e w' ⟨rfl, rfl⟩))
    have H1 := Lib.hid (H0.out.below hb1)
    have B1 := Lib.hid (bstep (Nat.le_refl _) hb0 hb1)
    clear hb0 hb1
    obtain ⟨wz, rfl⟩ : ∃ wz : World, wz = w1 := ⟨_, rfl⟩
    go_loopw [9, 33] (fun s i wr => ∃ k : Nat, k ≤ L.length ∧ i = .int .i64 k ∧ s = .int .i64 (De.intr at_ mille (L.take k)) ∧ Below wz.heap.size wz wr) (fun _ i _ => L.length - (intOf i).toNat)
    case atStart => exact ⟨0, Nat.zero_le _, rfl, rfl, Below.refl _ _⟩
    case round =>
      obtain ⟨k, hk, rfl, rfl, hb⟩ := hrel
      have HB := Lib.hid hb
      have hsz := hb.size
      obtain ⟨t0, t1⟩ := TK.out k
      by_cases hlt : k < L.length
      · obtain ⟨b, off, d, rfl, hbl, hD, hd⟩ := SD_at H1.out hlt
        obtain ⟨c0, c1, c2, c3, c4⟩ := hD.below hb hbl
        have hg := (R.out.each _ (De.g_mem hlt)).2.2
        rw [hd.out] at hg
        have hdue : 0 ≤ d.due ∧ d.due ≤ 36864 := by unfold De.good at hg; omega
        obtain ⟨hdue0, hdue1⟩ := hdue
        have hst := Lib.hid (De.intr_take (at_ := at_) (mille := mille) hlt)
        have hk0 : (0 : Int) ≤ (k : Int) := Int.natCast_nonneg _
        have hk1 : (k : Int) < (L.length : Int) := by omega
        clear hb hD hg
        by_cases hcd : d.due < at_
        · have ik := IK.out _ (De.g_mem hlt) (by rw [hd.out]; exact hcd)
          rw [hd.out] at ik
          have hp := ik.part
          have hpp := ik.p
          have hone := ik.one
          have hw1 : IntKind.i64.wrap ((at_ - d.due) * mille) = (at_ - d.due) * mille := by rw [IntKind.wrap_i64]; omega
          have hpa := fun W => part_any d.left ((at_ - d.due) * mille) 365000 W
          rw [hp] at hpa
          have PA := Lib.hid hpa
          have ST := Lib.hid (show De.intr at_ mille (L.take (k + 1)) = De.intr at_ mille (L.take k) + De.intOne at_ mille d by rw [hst.out, hd.out, if_pos hcd])
          generalize De.intOne at_ mille d = x at *
          clear ik hp hpa
          go_wp2_with (first | (go_at_call 14; refine (PA.out _).mono ?_; rintro e w2 ⟨rfl, hb2⟩))
          go_roundw
          case rel => exact ⟨k + 1, by omega, by go_num, by rw [ST.out], bstep (by omega) (HB.out.alloc hsz _) hb2⟩
          case measure => simp [intOf]; omega
        · have ST := Lib.hid (show De.intr at_ mille (L.take (k + 1)) = De.intr at_ mille (L.take k) by rw [hst.out, hd.out, if_neg hcd, Int.add_zero])
          go_wp2
          go_roundw
          case rel => exact ⟨k + 1, by omega, by go_num, by rw [ST.out], HB.out.alloc hsz _⟩
          case measure => simp [intOf]; omega
      · obtain rfl : k = L.length := by omega
        clear hb
        rw [List.take_length]
        go_wp2
        go_ret2
        exact ⟨rfl, bnext B1.out B1.out.size HB.out⟩

end Go.Proofs.Ytdnddikchchdkaa
