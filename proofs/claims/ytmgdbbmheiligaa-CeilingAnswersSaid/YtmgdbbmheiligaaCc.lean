/-
  THE WALKS over ceiling.Reduced, sum, Farm; ref32.Reduced, Farm.
-/
import Derived.Test.YtmgdbbmheiligaaCb
import Derived.Test.YtmgdbbmheiligaaAp
import Derived.Test.YtmgdbbmheiligaaRs
namespace Go.Proofs.Ytmgdbbmheiligaa
open Go.RowKit

set_option maxRecDepth 100000 in
theorem Reduced_any (p : Option Addr) (D : List (Int × Int)) (cap : Nat) (a : Int) (w : World) (h : Pairs w p D) :
    Calls Try.prog 38 #[.slice p D.length cap, .int .i64 a] w fun e w' => e = .returned (.tuple #[.int .i64 (Ce.redVal D a), .int .i64 (Ce.redErr D a)]) ∧ Below w.heap.size w w' := by
  have hc := check_any p D cap w h
  by_cases h1 : Ce.Right D
  · rw [Ce.chk_zero.2 h1] at hc
    by_cases h2 : En.money a = true
    · have m := En.money_iff.1 h2
      have hr := Lib.hid (fun (W : World) (hP : Pairs W p D) => reduced_any p D cap a W hP h1 m.1 m.2)
      have he : Ce.redErr D a = 0 := by unfold Ce.redErr; rw [if_neg (by rw [Ce.chk_zero.2 h1]; simp), if_neg (by rw [h2]; simp)]
      have hv : Ce.redVal D a = Ce.red D a := by unfold Ce.redVal; rw [if_neg (by rw [he]; simp)]
      rw [he, hv]
      have HC := Lib.hid hc
      have H := Lib.hid h
      clear hc h he hv m
      go_enter Try.func38, Try.ntmps38
      go_wp2_with (first | (go_at_call 36; refine (HC.out).mono ?_; rintro e w1 ⟨rfl, hb1⟩) | (go_at_call 69; refine (money_any _ _).mono ?_; rintro e w' ⟨rfl, rfl⟩) | (go_at_call 71; refine (hr.out _ (H.out.below hb1)).mono ?_; rintro e w2 ⟨rfl, hb2⟩))
      go_ret2
      exact ⟨rfl, bnext hb1 hb1.size hb2⟩
    · have h3 : En.money a = false := by simpa using h2
      have he : Ce.redErr D a = 67 := by unfold Ce.redErr; rw [if_neg (by rw [Ce.chk_zero.2 h1]; simp), if_pos h3]
      have hv : Ce.redVal D a = 0 := by unfold Ce.redVal; rw [if_pos (by rw [he]; decide)]
      rw [he, hv]
      have HC := Lib.hid hc
      clear hc h he hv h2
      go_enter Try.func38, Try.ntmps38
      go_wp2_with (first | (go_at_call 36; refine (HC.out).mono ?_; rintro e w1 ⟨rfl, hb1⟩) | (go_at_call 69; refine (money_any _ _).mono ?_; rintro e w' ⟨rfl, rfl⟩))
      go_ret2
      exact ⟨rfl, hb1⟩
  · rw [Ce.chk_not h1] at hc
    have he : Ce.redErr D a = 66 := by unfold Ce.redErr; rw [if_pos (by rw [Ce.chk_not h1]; decide)]
    have hv : Ce.redVal D a = 0 := by unfold Ce.redVal; rw [if_pos (by rw [he]; decide)]
    rw [he, hv]
    have HC := Lib.hid hc
    clear hc h he hv h1
    go_enter Try.func38, Try.ntmps38
    go_wp2_with (first | (go_at_call 36; refine (HC.out).mono ?_; rintro e w1 ⟨rfl, hb1⟩))
    go_ret2
    exact ⟨rfl, hb1⟩

set_option maxRecDepth 100000 in
set_option maxHeartbeats 4000000 in
theorem refReduced_any (p : Option Addr) (D : List (Int × Int)) (cap : Nat) (a : Int) (w : World) (h : Pairs w p D) :
    Calls Try.prog 39 #[.slice p D.length cap, .int .i64 a] w fun e w' => e = .returned (.tuple #[.int .i64 (Ce.redVal D a), .int .i64 (Ce.redErr D a)]) ∧ ∃ n, w' = w.drewN n := by
  have hc := refcheck_any p D cap w h
  by_cases h1 : Ce.Right D
  · rw [Ce.chk_zero.2 h1] at hc
    by_cases h2 : En.money a = true
    · obtain ⟨a0, a1⟩ := En.money_iff.1 h2
      have he : Ce.redErr D a = 0 := by unfold Ce.redErr; rw [if_neg (by rw [Ce.chk_zero.2 h1]; simp), if_neg (by rw [h2]; simp)]
      have hv : Ce.redVal D a = Ce.red D a := by unfold Ce.redVal; rw [if_neg (by rw [he]; simp)]
      rw [he, hv]
      have HC := Lib.hid hc
      have H := Lib.hid h
      have R := Lib.hid h1
      have h6 := h1.len
      clear hc h he hv h1
      go_enter Try.func39, Try.ntmps39
      go_wp2_with (first | (go_at_call 37; refine (HC.out).mono ?_; rintro e w1 ⟨rfl, n0, rfl⟩) | (go_at_call 70; refine (refmoney_any _ _).mono ?_; rintro e w' ⟨rfl, rfl⟩))
      go_loopw [8, 7] (fun i o wr => ∃ k n : Nat, k ≤ D.length ∧ i = .int .i64 k ∧ o = .int .i64 (a - Ce.cuts D a k) ∧ wr = w.drewN n) (fun i _ _ => D.length - (intOf i).toNat)
      case atStart => exact ⟨0, n0, Nat.zero_le _, rfl, by simp [Ce.cuts], rfl⟩
      case round =>
        obtain ⟨k, n, hk, rfl, rfl, hwr⟩ := hrel
        have HW := Lib.hid hwr
        have hcells : ∀ a, wr.cell? a = w.cell? a := fun a => by rw [hwr]; rfl
        have HCE := Lib.hid hcells
        clear hwr hcells
        have hp := R.out.red_part a0 a1 hk
        by_cases hlt : k < D.length
        · obtain ⟨b, off, x, y, rfl, hbl, hx0, hy0, hxy⟩ := H.out.get hlt
          rw [← HCE.out] at hx0 hy0
          obtain ⟨f1, f2, f3, f4, f5, f6⟩ := cut_facts R.out hlt hxy.out a0 a1
          have hp2 := R.out.red_part (k := k + 1) a0 a1 (by omega)
          have hcs : Ce.cuts D a (k + 1) = Ce.cuts D a k + Ce.cut D a k := rfl
          rw [hcs] at hp2
          have CS := Lib.hid hcs
          have hk0 : (0 : Int) ≤ (k : Int) := Int.natCast_nonneg _
          have hk1 : (k : Int) < (D.length : Int) := by omega
          have f5' := f5.symm
          have hz : 0 ≤ Ce.span D a k ∧ (Ce.span D a k = 0 → Ce.cut D a k = 0) := ⟨f3.1, fun e => by rw [f5, e, Int.zero_mul]; decide⟩
          clear f5
          by_cases hlt2 : k + 1 < D.length
          · obtain ⟨b', off', x2, y2, e, -, hx2, hy2, hxy2⟩ := H.out.get hlt2
            rw [← HCE.out] at hx2 hy2
            simp only [Option.some.injEq, Addr.mk.injEq] at e
            obtain ⟨rfl, rfl, -⟩ := e
            have ht : Ce.till D a k = min a x2 := by unfold Ce.till; rw [if_pos hlt2, fr_eq hxy2.out]
            have hfr2 := R.out.fr0 hlt2
            rw [fr_eq hxy2.out] at hfr2
            rw [ht] at f6
            clear ht hcs hy2
            by_cases hgt : x < min a x2
            · have hS : min a x2 - x = Ce.span D a k := by omega
              generalize Ce.span D a k = S at *
              have hmw : IntKind.i64.wrap (S * y) = S * y := by
                generalize S * y = q at f4 ⊢
                rw [IntKind.wrap_i64]; omega
              generalize Ce.cut D a k = C at *
              generalize Ce.cuts D a k = Q at *
              have hsw : IntKind.i64.wrap (a - Q - C) = a - Q - C := by rw [IntKind.wrap_i64]; omega
              clear f6 hz
              go_wp2_with fail
              go_quiet ((go_at_call 25; exact Calls.quiet_of_same (Calls.turn (refup_any _ _ _))))
              go_wp2
              go_roundw
              case rel => exact ⟨k + 1, _, by omega, by go_num, by rw [CS.out]; congr 1; omega, by rw [HW.out]; exact drewN_two _ _ _⟩
              case measure => simp [intOf]; omega
            · have hC : Ce.cut D a k = 0 := hz.2 (by omega)
              clear f6 hz f5' f4 f3
              go_wp2
              go_roundw
              case rel => exact ⟨k + 1, n, by omega, by go_num, by rw [CS.out, hC]; congr 1; omega, HW.out⟩
              case measure => simp [intOf]; omega
          · have ht : Ce.till D a k = a := by unfold Ce.till; rw [if_neg hlt2]
            rw [ht] at f6
            clear ht hcs
            by_cases hgt : x < a
            · have hS : a - x = Ce.span D a k := by omega
              generalize Ce.span D a k = S at *
              have hmw : IntKind.i64.wrap (S * y) = S * y := by
                generalize S * y = q at f4 ⊢
                rw [IntKind.wrap_i64]; omega
              generalize Ce.cut D a k = C at *
              generalize Ce.cuts D a k = Q at *
              have hsw : IntKind.i64.wrap (a - Q - C) = a - Q - C := by rw [IntKind.wrap_i64]; omega
              clear f6 hz
              go_wp2_with fail
              go_quiet ((go_at_call 25; exact Calls.quiet_of_same (Calls.turn (refup_any _ _ _))))
              go_wp2
              go_roundw
              case rel => exact ⟨k + 1, _, by omega, by go_num, by rw [CS.out]; congr 1; omega, by rw [HW.out]; exact drewN_two _ _ _⟩
              case measure => simp [intOf]; omega
            · have hC : Ce.cut D a k = 0 := hz.2 (by omega)
              clear f6 hz f5' f4 f3
              go_wp2
              go_roundw
              case rel => exact ⟨k + 1, n, by omega, by go_num, by rw [CS.out, hC]; congr 1; omega, HW.out⟩
              case measure => simp [intOf]; omega
        · obtain rfl : k = D.length := by omega
          clear hlt hk
          go_wp2
          go_ret2
          exact ⟨rfl, n, HW.out⟩
    · have h3 : En.money a = false := by simpa using h2
      have he : Ce.redErr D a = 67 := by unfold Ce.redErr; rw [if_neg (by rw [Ce.chk_zero.2 h1]; simp), if_pos h3]
      have hv : Ce.redVal D a = 0 := by unfold Ce.redVal; rw [if_pos (by rw [he]; decide)]
      rw [he, hv]
      have HC := Lib.hid hc
      clear hc h he hv h2
      go_enter Try.func39, Try.ntmps39
      go_wp2_with (first | (go_at_call 37; refine (HC.out).mono ?_; rintro e w1 ⟨rfl, n0, rfl⟩) | (go_at_call 70; refine (refmoney_any _ _).mono ?_; rintro e w' ⟨rfl, rfl⟩))
      go_ret2
      exact ⟨rfl, n0, rfl⟩
  · rw [Ce.chk_not h1] at hc
    have he : Ce.redErr D a = 66 := by unfold Ce.redErr; rw [if_pos (by rw [Ce.chk_not h1]; decide)]
    have hv : Ce.redVal D a = 0 := by unfold Ce.redVal; rw [if_pos (by rw [he]; decide)]
    rw [he, hv]
    have HC := Lib.hid hc
    clear hc h he hv h1
    go_enter Try.func39, Try.ntmps39
    go_wp2_with (first | (go_at_call 37; refine (HC.out).mono ?_; rintro e w1 ⟨rfl, n0, rfl⟩))
    go_ret2
    exact ⟨rfl, n0, rfl⟩

end Go.Proofs.Ytmgdbbmheiligaa
