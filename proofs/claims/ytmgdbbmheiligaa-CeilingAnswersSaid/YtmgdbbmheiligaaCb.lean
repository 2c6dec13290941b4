/-
  THE WALKS over ref32.Check, ceiling.reduced, Reduced, ref32.Reduced.
-/
import Derived.Test.YtmgdbbmheiligaaCa
namespace Go.Proofs.Ytmgdbbmheiligaa
open Go.RowKit

theorem dec_true {p : Prop} [Decidable p] (h : decide p = true) : p := of_decide_eq_true h
theorem dec_false {p : Prop} [Decidable p] (h : decide p = false) : ¬ p := of_decide_eq_false h

set_option maxRecDepth 100000 in
set_option maxHeartbeats 4000000 in
theorem refcheck_any (p : Option Addr) (D : List (Int × Int)) (cap : Nat) (w : World) (h : Pairs w p D) :
    Calls Try.prog 37 #[.slice p D.length cap] w fun e w' => e = .returned (.int .i64 (Ce.chk D)) ∧ ∃ n, w' = w.drewN n := by
  have hn := h.len
  by_cases h6 : 6 < D.length
  · have hc : Ce.chk D = 66 := Ce.chk_not fun hR => by have := hR.len; omega
    rw [hc]
    clear h
    go_enter Try.func37, Try.ntmps37
    go_wp2
    go_ret
    exact ⟨rfl, 0, rfl⟩
  · have H := Lib.hid h
    clear h
    go_enter Try.func37, Try.ntmps37
    go_wp2
    go_loopw [3] (fun i wr => ∃ k n : Nat, k ≤ D.length ∧ i = .int .i64 k ∧ (∀ j, j < k → Ce.okAt D j = true) ∧ wr = w.drewN n) (fun i _ => D.length - (intOf i).toNat)
    case atStart => exact ⟨0, 0, Nat.zero_le _, rfl, fun j hj => absurd hj (Nat.not_lt_zero j), rfl⟩
    case round =>
      obtain ⟨k, n, hk, rfl, hok, hwr⟩ := hrel
      have HW := Lib.hid hwr
      have hcells : ∀ a, wr.cell? a = w.cell? a := fun a => by rw [hwr]; rfl
      have HCE := Lib.hid hcells
      clear hwr hcells
      have HOK := Lib.hid hok
      clear hok
      by_cases hlt : k < D.length
      · obtain ⟨b, off, x, y, rfl, hbl, hx0, hy0, hxy⟩ := H.out.get hlt
        rw [← HCE.out] at hx0 hy0
        have hk0 : (0 : Int) ≤ (k : Int) := Int.natCast_nonneg _
        have hk1 : (k : Int) < (D.length : Int) := by omega
        rcases Nat.eq_zero_or_pos k with rfl | hpos
        · simp only [Nat.zero_mul, Nat.add_zero] at hx0 hy0
          rcases (show En.money x = false ∨ (En.money x = true ∧ decide (y < 0) = true) ∨ (En.money x = true ∧ decide (y < 0) = false ∧ decide (1000 < y) = true) ∨ (En.money x = true ∧ decide (y < 0) = false ∧ decide (1000 < y) = false) by
            cases En.money x <;> simp <;> omega) with m | ⟨m, b1⟩ | ⟨m, b1, b2⟩ | ⟨m, b1, b2⟩
          case inr.inr.inr =>
            have hO := Lib.hid (okAt_yes (lx := 0) (ly := 0) hxy.out (fun h => absurd rfl h) m (dec_false b1) (dec_false b2) (by have := dec_false b1; omega) (by omega))
            go_wp2_with fail
            go_quiet ((go_at_call 70; exact Calls.quiet_of_same (Calls.turn (refmoney_any _ _))))
            go_wp2
            go_roundw
            case rel => exact ⟨1, _, by omega, by go_num, fun j hj => (show j = 0 by omega) ▸ hO.out, by rw [HW.out]; exact drewN_two _ _ _⟩
            case measure => simp [intOf]; omega
          all_goals
            have hB := Lib.hid (chk_bad hlt (okAt_not (lx := 0) (ly := 0) hxy.out (fun h => absurd rfl h) (fun _ => ⟨rfl, rfl⟩) (by first | exact .inl m | exact .inr (.inl (dec_true b1)) | exact .inr (.inr (.inl (dec_true b2))))))
            go_wp2_with fail
            go_quiet ((go_at_call 70; exact Calls.quiet_of_same (Calls.turn (refmoney_any _ _))))
            go_wp2
            go_ret
            exact ⟨by rw [hB.out]; rfl, _, by rw [HW.out]; exact drewN_two _ _ _⟩
        · obtain ⟨k', rfl⟩ : ∃ k', k = k' + 1 := ⟨k - 1, by omega⟩
          obtain ⟨b', off', lx, ly, e, -, hlx0, hly0, hlxy⟩ := H.out.get (k := k') (by omega)
          rw [← HCE.out] at hlx0 hly0
          simp only [Option.some.injEq, Addr.mk.injEq] at e
          obtain ⟨rfl, rfl, -⟩ := e
          have hw : IntKind.i64.wrap ((k' : Int) + 1 - 1) = (k' : Int) := by rw [IntKind.wrap_i64]; omega
          have hk0' : (0 : Int) ≤ (k' : Int) + 1 := by omega
          have hk1' : (k' : Int) + 1 < (D.length : Int) := by omega
          have hk2' : (0 : Int) < (k' : Int) + 1 := by omega
          have hq0 : (0 : Int) ≤ (k' : Int) := Int.natCast_nonneg _
          have hq1 : (k' : Int) < (D.length : Int) := by omega
          rcases (show En.money x = false ∨ (En.money x = true ∧ decide (y < 0) = true) ∨ (En.money x = true ∧ decide (y < 0) = false ∧ decide (1000 < y) = true) ∨ (En.money x = true ∧ decide (y < 0) = false ∧ decide (1000 < y) = false ∧ decide (x ≤ lx) = true) ∨ (En.money x = true ∧ decide (y < 0) = false ∧ decide (1000 < y) = false ∧ decide (x ≤ lx) = false ∧ decide (y < ly) = true) ∨ (En.money x = true ∧ decide (y < 0) = false ∧ decide (1000 < y) = false ∧ decide (x ≤ lx) = false ∧ decide (y < ly) = false) by
            cases En.money x <;> simp <;> omega) with m | ⟨m, b1⟩ | ⟨m, b1, b2⟩ | ⟨m, b1, b2, b3⟩ | ⟨m, b1, b2, b3, b4⟩ | ⟨m, b1, b2, b3, b4⟩
          case inr.inr.inr.inr.inr =>
            have hO := Lib.hid (okAt_yes (lx := lx) (ly := ly) hxy.out (fun _ => hlxy.out) m (dec_false b1) (dec_false b2) (dec_false b4) (fun h => dec_false b3 h.2))
            go_wp2_with fail
            go_quiet ((go_at_call 70; exact Calls.quiet_of_same (Calls.turn (refmoney_any _ _))))
            go_wp2
            go_roundw
            case rel => exact ⟨k' + 1 + 1, _, by omega, by go_num, fun j hj => by
              by_cases e : j = k' + 1
              · rw [e]; exact hO.out
              · exact HOK.out j (by omega), by rw [HW.out]; exact drewN_two _ _ _⟩
            case measure => simp [intOf]; omega
          all_goals
            have hB := Lib.hid (chk_bad hlt (okAt_not (lx := lx) (ly := ly) hxy.out (fun _ => hlxy.out) (fun h => absurd h (by omega)) (by first | exact .inl m | exact .inr (.inl (dec_true b1)) | exact .inr (.inr (.inl (dec_true b2))) | exact .inr (.inr (.inr (.inl (dec_true b4)))) | exact .inr (.inr (.inr (.inr ⟨hpos, dec_true b3⟩))))))
            go_wp2_with fail
            go_quiet ((go_at_call 70; exact Calls.quiet_of_same (Calls.turn (refmoney_any _ _))))
            go_wp2
            go_ret
            exact ⟨by rw [hB.out]; rfl, _, by rw [HW.out]; exact drewN_two _ _ _⟩
      · obtain rfl : k = D.length := by omega
        have hc := Lib.hid (show Ce.chk D = 0 from Ce.chk_zero.2 ⟨by omega, HOK.out⟩)
        clear hlt hk
        go_wp2
        go_ret
        exact ⟨by rw [hc.out]; rfl, n, HW.out⟩

theorem fr_eq {D : List (Int × Int)} {k : Nat} {x y : Int} (h : D.getD k (0, 0) = (x, y)) : Ce.fr D k = x := by unfold Ce.fr; rw [h]
theorem mi_eq {D : List (Int × Int)} {k : Nat} {x y : Int} (h : D.getD k (0, 0) = (x, y)) : Ce.mi D k = y := by unfold Ce.mi; rw [h]

/-- One degree of an amount, in numbers. -/
theorem cut_facts {D : List (Int × Int)} {k : Nat} {x y a : Int} (hR : Ce.Right D) (hk : k < D.length) (h : D.getD k (0, 0) = (x, y)) (a0 : 0 ≤ a) (a1 : a ≤ 68719476736) :
    (0 ≤ x ∧ x ≤ 68719476736) ∧ (0 ≤ y ∧ y ≤ 1000) ∧ (0 ≤ Ce.span D a k ∧ Ce.span D a k ≤ 68719476736) ∧ (0 ≤ Ce.span D a k * y ∧ Ce.span D a k * y ≤ 68719476736000) ∧ Ce.cut D a k = Ex.up (Ce.span D a k * y) 1000 ∧ Ce.span D a k = max 0 (Ce.till D a k - x) := by
  have h1 := hR.fr0 hk
  have h2 := hR.mi0 hk
  have h3 := hR.span_bd a0 a1 hk
  have h4 : Ce.cut D a k = Ex.up (Ce.span D a k * Ce.mi D k) 1000 := rfl
  have h5 : Ce.span D a k = max 0 (Ce.till D a k - Ce.fr D k) := rfl
  rw [fr_eq h] at h1 h5
  rw [mi_eq h] at h2 h4
  refine ⟨h1, h2, h3, ⟨Int.mul_nonneg h3.1 h2.1, ?_⟩, h4, h5⟩
  have := Int.mul_le_mul h3.2 h2.2 h2.1 (show (0 : Int) ≤ 68719476736 by omega)
  omega

set_option maxRecDepth 100000 in
set_option maxHeartbeats 4000000 in
theorem reduced_any (p : Option Addr) (D : List (Int × Int)) (cap : Nat) (a : Int) (w : World) (h : Pairs w p D) (hR : Ce.Right D) (a0 : 0 ≤ a) (a1 : a ≤ 68719476736) :
    Calls Try.prog 71 #[.slice p D.length cap, .int .i64 a] w fun e w' => e = .returned (.int .i64 (Ce.red D a)) ∧ Below w.heap.size w w' := by
  have H := Lib.hid h
  have R := Lib.hid hR
  have h6 := hR.len
  clear h hR
  go_enter Try.func71, Try.ntmps71
  go_wp2
  go_loopw [12, 5] (fun i o wr => ∃ k : Nat, k ≤ D.length ∧ i = .int .i64 k ∧ o = .int .i64 (a - Ce.cuts D a k) ∧ Below w.heap.size w wr) (fun i _ _ => D.length - (intOf i).toNat)
  case atStart => exact ⟨0, Nat.zero_le _, rfl, by simp [Ce.cuts], Below.refl _ _⟩
  case round =>
    obtain ⟨k, hk, rfl, rfl, hb⟩ := hrel
    have HB := Lib.hid hb
    have hsz := hb.size
    have hp := R.out.red_part a0 a1 hk
    by_cases hlt : k < D.length
    · obtain ⟨b, off, x, y, rfl, hbl, hx0, hy0, hxy⟩ := H.out.get hlt
      have hx1 := (hb.cell (p := ⟨b, off + k * 2, none⟩) hbl).trans hx0
      have hy1 := (hb.cell (p := ⟨b, off + k * 2 + 1, none⟩) hbl).trans hy0
      have hbl2 : b < wr.heap.size := Nat.lt_of_lt_of_le hbl hsz
      obtain ⟨f1, f2, f3, f4, f5, f6⟩ := cut_facts R.out hlt hxy.out a0 a1
      have hp2 := R.out.red_part (k := k + 1) a0 a1 (by omega)
      have hcs : Ce.cuts D a (k + 1) = Ce.cuts D a k + Ce.cut D a k := rfl
      rw [hcs] at hp2
      have CS := Lib.hid hcs
      by_cases hlt2 : k + 1 < D.length
      · obtain ⟨b', off', x2, y2, e, -, hx2, hy2, hxy2⟩ := H.out.get hlt2
        simp only [Option.some.injEq, Addr.mk.injEq] at e
        obtain ⟨rfl, rfl, -⟩ := e
        have hx3 := (hb.cell (p := ⟨b, off + (k + 1) * 2, none⟩) hbl).trans hx2
        have ht : Ce.till D a k = min a x2 := by unfold Ce.till; rw [if_pos hlt2, fr_eq hxy2.out]
        have hfr2 := R.out.fr0 hlt2
        rw [fr_eq hxy2.out] at hfr2
        clear hb hx0 hy0 hx2 hy2 hcs
        rw [ht] at f6
        generalize Ce.span D a k = S at *
        have f6' := f6.symm
        have hmw : IntKind.i64.wrap (S * y) = S * y := by
          generalize S * y = q at f4 ⊢
          rw [IntKind.wrap_i64]; omega
        have f5' := f5.symm
        generalize Ce.cut D a k = C at *
        generalize Ce.cuts D a k = Q at *
        have hsw : IntKind.i64.wrap (a - Q - C) = a - Q - C := by rw [IntKind.wrap_i64]; omega
        clear f5 f6 ht
        go_wp2_with (first | (go_at_call 24; refine (up_all _ _ _ (by omega) (by omega)).mono ?_; rintro e w' ⟨rfl, rfl⟩))
        go_roundw
        case rel => exact ⟨k + 1, by omega, by go_num, by rw [CS.out]; congr 1; omega, HB.out.alloc hsz _⟩
        case measure => simp [intOf]; omega
      · have ht : Ce.till D a k = a := by unfold Ce.till; rw [if_neg hlt2]
        clear hb hx0 hy0 hcs
        rw [ht] at f6
        generalize Ce.span D a k = S at *
        have f6' := f6.symm
        have hmw : IntKind.i64.wrap (S * y) = S * y := by
          generalize S * y = q at f4 ⊢
          rw [IntKind.wrap_i64]; omega
        have f5' := f5.symm
        generalize Ce.cut D a k = C at *
        generalize Ce.cuts D a k = Q at *
        have hsw : IntKind.i64.wrap (a - Q - C) = a - Q - C := by rw [IntKind.wrap_i64]; omega
        clear f5 f6 ht
        go_wp2_with (first | (go_at_call 24; refine (up_all _ _ _ (by omega) (by omega)).mono ?_; rintro e w' ⟨rfl, rfl⟩))
        go_roundw
        case rel => exact ⟨k + 1, by omega, by go_num, by rw [CS.out]; congr 1; omega, HB.out.alloc hsz _⟩
        case measure => simp [intOf]; omega
    · obtain rfl : k = D.length := by omega
      clear hb hlt hk
      go_wp2
      go_ret
      exact ⟨rfl, HB.out⟩

end Go.Proofs.Ytmgdbbmheiligaa
