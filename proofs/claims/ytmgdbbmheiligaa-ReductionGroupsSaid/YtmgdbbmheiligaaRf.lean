/-
  THE WALKS over ref29.Step, Paid.
-/
import Derived.Test.YtmgdbbmheiligaaRb
import Derived.Test.YtmgdbbmheiligaaRc
namespace Go.Proofs.Ytmgdbbmheiligaa
open Go.RowKit

set_option maxRecDepth 100000 in
set_option maxHeartbeats 2000000 in
theorem refRstep_any (p : Option Addr) (D : List (Int × Int)) (cap : Nat) (d f : Int) (w : World) (h : Pairs w p D) :
    Calls Try.prog 51 #[.slice p D.length cap, .int .i64 d, .int .i64 f] w fun e w' => e = .returned (.int .i64 (Re.stepV D d f)) ∧ ∃ n, w' = w.drewN n := by
  have hc := refrcheck_any p D cap w h
  rcases step_cases D d f with ⟨c, e⟩ | ⟨c, h1, e⟩ | ⟨c, h1, h2, e⟩ | ⟨c, h1, h2, hR, e⟩
  all_goals rw [c] at hc; rw [e]
  · have HC := Lib.hid hc
    clear hc h c e
    go_enter Try.func51, Try.ntmps51
    go_wp2_with (first | (go_at_call 47; refine (HC.out).mono ?_; rintro e w1 ⟨rfl, n1, rfl⟩))
    go_ret
    exact ⟨rfl, n1, rfl⟩
  · have HC := Lib.hid hc
    clear hc h c e
    go_enter Try.func51, Try.ntmps51
    go_wp2_with (first | (go_at_call 47; refine (HC.out).mono ?_; rintro e w1 ⟨rfl, n1, rfl⟩) | (go_at_call 76; refine (refarea_any _ _).mono ?_; rintro e w' ⟨rfl, rfl⟩))
    go_ret
    exact ⟨rfl, n1, rfl⟩
  · have HC := Lib.hid hc
    clear hc h c e
    go_enter Try.func51, Try.ntmps51
    go_wp2_with (first | (go_at_call 47; refine (HC.out).mono ?_; rintro e w1 ⟨rfl, n1, rfl⟩) | (go_at_call 76; refine (refarea_any _ _).mono ?_; rintro e w' ⟨rfl, rfl⟩))
    go_ret
    exact ⟨rfl, n1, rfl⟩
  · have HC := Lib.hid hc
    have R := Lib.hid hR
    have H := Lib.hid h
    have d0 := Re.area_iff.1 h1
    have f0 := Re.area_iff.1 h2
    have h6 := hR.len
    have hwd : IntKind.i64.wrap (d - f) = d - f := by rw [IntKind.wrap_i64]; omega
    clear hc h c e hR
    go_enter Try.func51, Try.ntmps51
    go_wp2_with (first | (go_at_call 47; refine (HC.out).mono ?_; rintro e w1 ⟨rfl, n1, rfl⟩) | (go_at_call 76; refine (refarea_any _ _).mono ?_; rintro e w' ⟨rfl, rfl⟩))
    go_loop [8, 7] (fun i o => ∃ k : Nat, k ≤ D.length ∧ i = .int .i64 k ∧ o = .int .i64 (Re.stepTo D d f k)) (fun i _ => D.length - (intOf i).toNat)
    case atStart => exact ⟨0, Nat.zero_le _, rfl, rfl⟩
    case round =>
      obtain ⟨k, hk, rfl, rfl⟩ := hrel
      by_cases hlt : k < D.length
      · obtain ⟨b, off, x, y, rfl, hbl, hx, hy, hxy⟩ := H.out.get hlt
        obtain ⟨X, M, g2, g3, g4, g5⟩ := hold_facts R.out hlt hxy.out d0 f0
        have HS := Lib.hid (show Re.stepTo D d f (k + 1) = if Re.holds D d f k = true then (k : Int) else Re.stepTo D d f k from rfl)
        by_cases hh : X < M
        · have hh' : decide (X < M) = true := decide_eq_true hh
          have HE := Lib.hid (show Re.stepTo D d f (k + 1) = (k : Int) by rw [HS.out, g5, if_pos hh'])
          clear g5
          go_wp2
          go_round
          case rel => exact ⟨k + 1, by omega, by go_num, by rw [HE.out]⟩
          case measure => simp [intOf]; omega
        · have hh' : decide (X < M) = false := decide_eq_false hh
          have HE := Lib.hid (show Re.stepTo D d f (k + 1) = Re.stepTo D d f k by rw [HS.out, g5, hh', if_neg (by decide)])
          clear g5
          go_wp2
          go_round
          case rel => exact ⟨k + 1, by omega, by go_num, by rw [HE.out]⟩
          case measure => simp [intOf]; omega
      · obtain rfl : k = D.length := by omega
        clear hlt hk
        go_wp2
        go_ret
        exact ⟨rfl, n1, rfl⟩

set_option maxRecDepth 100000 in
set_option maxHeartbeats 4000000 in
theorem refpaid_any (p : Option Addr) (D : List (Int × Int)) (cap : Nat) (d f : Int) (w : World) (h : Pairs w p D) :
    Calls Try.prog 49 #[.slice p D.length cap, .int .i64 d, .int .i64 f] w fun e w' => e = .returned (.tuple #[.int .i64 (Re.paidVal D d f), .int .i64 (Re.paidErr D d f)]) ∧ ∃ n, w' = w.drewN n := by
  have hc := refrcheck_any p D cap w h
  rcases paid_cases D d f with ⟨c, e, e2⟩ | ⟨c, h1, e, e2⟩ | ⟨c, h1, h2, e, e2⟩ | ⟨c, h1, h2, hR, e, e2⟩
  all_goals rw [c] at hc; rw [e, e2]
  · have HC := Lib.hid hc
    clear hc h c e e2
    go_enter Try.func49, Try.ntmps49
    go_wp2_with (first | (go_at_call 47; refine (HC.out).mono ?_; rintro e w1 ⟨rfl, n1, rfl⟩))
    go_ret2
    exact ⟨rfl, n1, rfl⟩
  · have HC := Lib.hid hc
    clear hc h c e e2
    go_enter Try.func49, Try.ntmps49
    go_wp2_with (first | (go_at_call 47; refine (HC.out).mono ?_; rintro e w1 ⟨rfl, n1, rfl⟩) | (go_at_call 76; refine (refarea_any _ _).mono ?_; rintro e w' ⟨rfl, rfl⟩))
    go_ret2
    exact ⟨rfl, n1, rfl⟩
  · have HC := Lib.hid hc
    clear hc h c e e2
    go_enter Try.func49, Try.ntmps49
    go_wp2_with (first | (go_at_call 47; refine (HC.out).mono ?_; rintro e w1 ⟨rfl, n1, rfl⟩) | (go_at_call 76; refine (refarea_any _ _).mono ?_; rintro e w' ⟨rfl, rfl⟩))
    go_ret2
    exact ⟨rfl, n1, rfl⟩
  · have HC := Lib.hid hc
    have H := Lib.hid h
    have d0 := Re.area_iff.1 h1
    have f0 := Re.area_iff.1 h2
    have h6 := hR.len
    by_cases hdf : d ≤ f
    · have hp : Re.paid D d f = d := by unfold Re.paid; rw [if_pos hdf]
      rw [hp]
      clear hc h c e e2 hp hR
      go_enter Try.func49, Try.ntmps49
      go_wp2_with (first | (go_at_call 47; refine (HC.out).mono ?_; rintro e w1 ⟨rfl, n1, rfl⟩) | (go_at_call 76; refine (refarea_any _ _).mono ?_; rintro e w' ⟨rfl, rfl⟩))
      go_ret2
      exact ⟨rfl, n1, rfl⟩
    have hs := fun (W : World) (hP : Pairs W p D) => refRstep_any p D cap d f W hP
    rw [show Re.stepV D d f = Re.step D d f by unfold Re.stepV; rw [if_neg]; rw [c, h1, h2]; simp] at hs
    rcases Re.step_spec (l := D) (d := d) (f := f) with ⟨es, -⟩ | ⟨n, es, hn, -, -⟩
    · have hp : Re.paid D d f = f := by unfold Re.paid; rw [if_neg hdf, if_pos (by omega)]
      rw [hp]
      rw [es] at hs
      have HS := Lib.hid hs
      clear hc h c e e2 hp hs es hR
      go_enter Try.func49, Try.ntmps49
      go_wp2_with (first | (go_at_call 47; refine (HC.out).mono ?_; rintro e w1 ⟨rfl, n1, rfl⟩) | (go_at_call 76; refine (refarea_any _ _).mono ?_; rintro e w' ⟨rfl, rfl⟩) | (go_at_call 51; refine (HS.out _ (H.out.below (drewN_below _ n1))).mono ?_; rintro e w2 ⟨rfl, n2, rfl⟩))
      go_ret2
      exact ⟨rfl, _, rfl⟩
    · obtain ⟨b, off, x, y, rfl, hbl, hx, hy, hxy⟩ := H.out.get hn
      have ht := ti_eq hxy.out
      rw [es] at hs
      have HS := Lib.hid hs
      have hn0 : (0 : Int) ≤ (n : Int) := Int.natCast_nonneg _
      have hn1 : (n : Int) < (D.length : Int) := by omega
      have hnB : decide ((n : Int) < 0) = false := decide_eq_false (by omega)
      by_cases hy1 : y = -1
      · have hp : Re.paid D d f = 0 := by unfold Re.paid; rw [if_neg hdf, if_neg (by omega), es, Int.toNat_natCast, ht, if_pos hy1]
        rw [hp]
        have hyB : (y == -1) = true := beq_iff_eq.2 hy1
        clear hc h c e e2 hp hs es hR ht hy1
        go_enter Try.func49, Try.ntmps49
        go_wp2_with (first | (go_at_call 47; refine (HC.out).mono ?_; rintro e w1 ⟨rfl, n1, rfl⟩) | (go_at_call 76; refine (refarea_any _ _).mono ?_; rintro e w' ⟨rfl, rfl⟩) | (go_at_call 51; refine (HS.out _ (H.out.below (drewN_below _ n1))).mono ?_; rintro e w2 ⟨rfl, n2, rfl⟩))
        go_ret2
        exact ⟨rfl, _, rfl⟩
      · have hp : Re.paid D d f = max 0 (f - y * (d - f)) := by unfold Re.paid; rw [if_neg hdf, if_neg (by omega), es, Int.toNat_natCast, ht, if_neg hy1]
        rw [hp]
        have hyB : (y == -1) = false := beq_eq_false_iff_ne.2 hy1
        have hyb : 0 ≤ y ∧ y ≤ 10 := by
          have := hR.ti0 hn
          rw [ht] at this
          omega
        have m0 : 0 ≤ y * (d - f) := Int.mul_nonneg hyb.1 (by omega)
        have m1 : y * (d - f) ≤ 10 * 268435456 := Int.mul_le_mul hyb.2 (by omega) (by omega) (by omega)
        have hwd : IntKind.i64.wrap (d - f) = d - f := by rw [IntKind.wrap_i64]; omega
        obtain ⟨M, hM⟩ : ∃ M, y * (d - f) = M := ⟨_, rfl⟩
        have hwm : IntKind.i64.wrap (y * (d - f)) = M := by rw [hM] at m0 m1 ⊢; rw [IntKind.wrap_i64]; omega
        rw [hM] at m0 m1 ⊢
        have hws : IntKind.i64.wrap (f - M) = f - M := by rw [IntKind.wrap_i64]; omega
        clear hc h c e e2 hp hs es hR ht hM
        go_enter Try.func49, Try.ntmps49
        go_wp2_with (first | (go_at_call 47; refine (HC.out).mono ?_; rintro e w1 ⟨rfl, n1, rfl⟩) | (go_at_call 76; refine (refarea_any _ _).mono ?_; rintro e w' ⟨rfl, rfl⟩) | (go_at_call 51; refine (HS.out _ (H.out.below (drewN_below _ n1))).mono ?_; rintro e w2 ⟨rfl, n2, rfl⟩))
        go_ret2
        exact ⟨rfl, _, rfl⟩

end Go.Proofs.Ytmgdbbmheiligaa
