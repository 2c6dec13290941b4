/-
  THE WALKS over reduction.step, Step, Paid.
-/
import Derived.Test.YtmgdbbmheiligaaRa
import Derived.Test.YtmgdbbmheiligaaI4
namespace Go.Proofs.Ytmgdbbmheiligaa
open Go.RowKit

theorem ab_eq {D : List (Int × Int)} {k : Nat} {x y : Int} (h : D.getD k (0, 0) = (x, y)) : Re.ab D k = x := by unfold Re.ab; rw [h]
theorem ti_eq {D : List (Int × Int)} {k : Nat} {x y : Int} (h : D.getD k (0, 0) = (x, y)) : Re.ti D k = y := by unfold Re.ti; rw [h]

/-- One step's test, in numbers. -/
theorem hold_facts {D : List (Int × Int)} {k : Nat} {x y d f : Int} (hR : Re.Right D) (hk : k < D.length) (h : D.getD k (0, 0) = (x, y)) (d0 : 0 ≤ d ∧ d ≤ 268435456) (f0 : 0 ≤ f ∧ f ≤ 268435456) :
    ∃ X M : Int, IntKind.i64.wrap (x * f) = X ∧ IntKind.i64.wrap (1000 * max 0 (d - f)) = M ∧ IntKind.i64.wrap (d - f) = d - f ∧ Re.holds D d f k = decide (X < M) := by
  have h1 := hR.ab0 hk
  rw [ab_eq h] at h1
  have h2 : 0 ≤ x * f := Int.mul_nonneg h1.1 f0.1
  have h3 : x * f ≤ 100000 * 268435456 := Int.mul_le_mul h1.2 f0.2 f0.1 (by omega)
  refine ⟨x * f, 1000 * max 0 (d - f), ?_, ?_, ?_, ?_⟩
  · generalize x * f = y at *; rw [IntKind.wrap_i64]; omega
  · rw [IntKind.wrap_i64]; omega
  · rw [IntKind.wrap_i64]; omega
  · unfold Re.holds; rw [ab_eq h]

set_option maxHeartbeats 2000000 in
theorem rstep_any (p : Option Addr) (D : List (Int × Int)) (cap : Nat) (d f : Int) (w : World) (h : Pairs w p D) (hR : Re.Right D) (d0 : 0 ≤ d ∧ d ≤ 268435456) (f0 : 0 ≤ f ∧ f ≤ 268435456) :
    Calls Try.prog 75 #[.slice p D.length cap, .int .i64 d, .int .i64 f] w fun e w' => e = .returned (.int .i64 (Re.step D d f)) ∧ w = w' := by
  have H := Lib.hid h
  have R := Lib.hid hR
  have h6 := hR.len
  have h1 := hR.len1
  have hwl : IntKind.i64.wrap ((D.length : Int) - 1) = (D.length : Int) - 1 := by rw [IntKind.wrap_i64]; omega
  have hwd : IntKind.i64.wrap (d - f) = d - f := by rw [IntKind.wrap_i64]; omega
  clear h hR
  go_enter Try.func75, Try.ntmps75
  go_wp2
  go_loop [8] (fun i => ∃ k : Nat, k ≤ D.length ∧ i = .int .i64 ((k : Int) - 1) ∧ Re.step D d f = Re.stepTo D d f k) (fun i => (intOf i + 1).toNat)
  case atStart => exact ⟨D.length, Nat.le_refl _, rfl, rfl⟩
  case round =>
    obtain ⟨k, hk, rfl, hst⟩ := hrel
    have HST := Lib.hid hst
    clear hst
    rcases Nat.eq_zero_or_pos k with rfl | hpos
    · go_wp2
      go_ret
      exact ⟨by rw [HST.out]; rfl, rfl⟩
    · obtain ⟨n, rfl⟩ : ∃ n, k = n + 1 := ⟨k - 1, by omega⟩
      have hlt : n < D.length := by omega
      obtain ⟨b, off, x, y, rfl, hbl, hx, hy, hxy⟩ := H.out.get hlt
      obtain ⟨X, M, g2, g3, g4, g5⟩ := hold_facts R.out hlt hxy.out d0 f0
      have HS := Lib.hid (show Re.stepTo D d f (n + 1) = if Re.holds D d f n = true then (n : Int) else Re.stepTo D d f n from rfl)
      have hn0 : (0 : Int) ≤ (n : Int) := Int.natCast_nonneg _
      have hn1 : (n : Int) < (D.length : Int) := by omega
      have hnn : (n : Int) + 1 - 1 = (n : Int) := by omega
      have hwn : IntKind.i64.wrap ((n : Int) - 1) = (n : Int) - 1 := by rw [IntKind.wrap_i64]; omega
      by_cases hh : X < M
      · have hh' : decide (X < M) = true := decide_eq_true hh
        have HE := Lib.hid (show Re.step D d f = (n : Int) by rw [HST.out, HS.out, g5, if_pos hh'])
        clear g5
        go_wp2
        go_ret
        exact ⟨by rw [HE.out]; rfl, rfl⟩
      · have hh' : decide (X < M) = false := decide_eq_false hh
        have HE := Lib.hid (show Re.step D d f = Re.stepTo D d f n by rw [HST.out, HS.out, g5, hh', if_neg (by decide)])
        clear g5
        go_wp2
        go_round
        case rel => exact ⟨n, by omega, rfl, HE.out⟩
        case measure => simp [intOf]

/-- The paths of Step and Paid. -/
theorem step_cases (D : List (Int × Int)) (d f : Int) :
    (Re.chk D = 66 ∧ Re.stepV D d f = -1) ∨ (Re.chk D = 0 ∧ Re.area d = false ∧ Re.stepV D d f = -1) ∨ (Re.chk D = 0 ∧ Re.area d = true ∧ Re.area f = false ∧ Re.stepV D d f = -1) ∨ (Re.chk D = 0 ∧ Re.area d = true ∧ Re.area f = true ∧ Re.Right D ∧ Re.stepV D d f = Re.step D d f) := by
  by_cases hR : Re.Right D
  · have c := Re.chk_zero.2 hR
    cases h1 : Re.area d
    · exact .inr (.inl ⟨c, rfl, by unfold Re.stepV; rw [if_pos (.inr (.inl h1))]⟩)
    · cases h2 : Re.area f
      · exact .inr (.inr (.inl ⟨c, rfl, rfl, by unfold Re.stepV; rw [if_pos (.inr (.inr h2))]⟩))
      · exact .inr (.inr (.inr ⟨c, rfl, rfl, hR, by unfold Re.stepV; rw [if_neg]; rw [c, h1, h2]; simp⟩))
  · have c := Re.chk_not hR
    exact .inl ⟨c, by unfold Re.stepV; rw [if_pos (.inl (by rw [c]; decide))]⟩

theorem paid_cases (D : List (Int × Int)) (d f : Int) :
    (Re.chk D = 66 ∧ Re.paidErr D d f = 66 ∧ Re.paidVal D d f = 0) ∨ (Re.chk D = 0 ∧ Re.area d = false ∧ Re.paidErr D d f = 2 ∧ Re.paidVal D d f = 0) ∨ (Re.chk D = 0 ∧ Re.area d = true ∧ Re.area f = false ∧ Re.paidErr D d f = 2 ∧ Re.paidVal D d f = 0) ∨
    (Re.chk D = 0 ∧ Re.area d = true ∧ Re.area f = true ∧ Re.Right D ∧ Re.paidErr D d f = 0 ∧ Re.paidVal D d f = Re.paid D d f) := by
  rcases step_cases D d f with ⟨c, -⟩ | ⟨c, h1, -⟩ | ⟨c, h1, h2, -⟩ | ⟨c, h1, h2, hR, -⟩
  · have e : Re.paidErr D d f = 66 := by unfold Re.paidErr; rw [if_pos (by rw [c]; decide)]
    exact .inl ⟨c, e, by unfold Re.paidVal; rw [if_pos (by rw [e]; decide)]⟩
  · have e : Re.paidErr D d f = 2 := by unfold Re.paidErr; rw [if_neg (by rw [c]; decide), if_pos (.inl h1)]
    exact .inr (.inl ⟨c, h1, e, by unfold Re.paidVal; rw [if_pos (by rw [e]; decide)]⟩)
  · have e : Re.paidErr D d f = 2 := by unfold Re.paidErr; rw [if_neg (by rw [c]; decide), if_pos (.inr h2)]
    exact .inr (.inr (.inl ⟨c, h1, h2, e, by unfold Re.paidVal; rw [if_pos (by rw [e]; decide)]⟩))
  · have e : Re.paidErr D d f = 0 := by unfold Re.paidErr; rw [if_neg (by rw [c]; decide), if_neg (by rw [h1, h2]; simp)]
    exact .inr (.inr (.inr ⟨c, h1, h2, hR, e, by unfold Re.paidVal; rw [if_neg (by rw [e]; decide)]⟩))

set_option maxRecDepth 100000 in
set_option maxHeartbeats 2000000 in
theorem Rstep_any (p : Option Addr) (D : List (Int × Int)) (cap : Nat) (d f : Int) (w : World) (h : Pairs w p D) :
    Calls Try.prog 50 #[.slice p D.length cap, .int .i64 d, .int .i64 f] w fun e w' => e = .returned (.int .i64 (Re.stepV D d f)) ∧ Below w.heap.size w w' := by
  have hc := rcheck_any p D cap w h
  rcases step_cases D d f with ⟨c, e⟩ | ⟨c, h1, e⟩ | ⟨c, h1, h2, e⟩ | ⟨c, h1, h2, hR, e⟩
  all_goals rw [c] at hc; rw [e]
  · have HC := Lib.hid hc
    clear hc h c e
    go_enter Try.func50, Try.ntmps50
    go_wp2_with (first | (go_at_call 46; refine (HC.out).mono ?_; rintro e w1 ⟨rfl, hb1⟩))
    go_ret
    exact ⟨rfl, hb1⟩
  · have HC := Lib.hid hc
    clear hc h c e
    go_enter Try.func50, Try.ntmps50
    go_wp2_with (first | (go_at_call 46; refine (HC.out).mono ?_; rintro e w1 ⟨rfl, hb1⟩) | (go_at_call 74; refine (area_any _ _).mono ?_; rintro e w' ⟨rfl, rfl⟩))
    go_ret
    exact ⟨rfl, hb1⟩
  · have HC := Lib.hid hc
    clear hc h c e
    go_enter Try.func50, Try.ntmps50
    go_wp2_with (first | (go_at_call 46; refine (HC.out).mono ?_; rintro e w1 ⟨rfl, hb1⟩) | (go_at_call 74; refine (area_any _ _).mono ?_; rintro e w' ⟨rfl, rfl⟩))
    go_ret
    exact ⟨rfl, hb1⟩
  · have HC := Lib.hid hc
    have HS := Lib.hid (fun (W : World) (hP : Pairs W p D) => rstep_any p D cap d f W hP hR (Re.area_iff.1 h1) (Re.area_iff.1 h2))
    have H := Lib.hid h
    clear hc h c e
    go_enter Try.func50, Try.ntmps50
    go_wp2_with (first | (go_at_call 46; refine (HC.out).mono ?_; rintro e w1 ⟨rfl, hb1⟩) | (go_at_call 74; refine (area_any _ _).mono ?_; rintro e w' ⟨rfl, rfl⟩) | (go_at_call 75; refine (HS.out _ (H.out.below hb1)).mono ?_; rintro e w' ⟨rfl, rfl⟩))
    go_ret
    exact ⟨rfl, hb1⟩

set_option maxRecDepth 100000 in
set_option maxHeartbeats 4000000 in
theorem paid_any (p : Option Addr) (D : List (Int × Int)) (cap : Nat) (d f : Int) (w : World) (h : Pairs w p D) :
    Calls Try.prog 48 #[.slice p D.length cap, .int .i64 d, .int .i64 f] w fun e w' => e = .returned (.tuple #[.int .i64 (Re.paidVal D d f), .int .i64 (Re.paidErr D d f)]) ∧ Below w.heap.size w w' := by
  have hc := rcheck_any p D cap w h
  rcases paid_cases D d f with ⟨c, e, e2⟩ | ⟨c, h1, e, e2⟩ | ⟨c, h1, h2, e, e2⟩ | ⟨c, h1, h2, hR, e, e2⟩
  all_goals rw [c] at hc; rw [e, e2]
  · have HC := Lib.hid hc
    clear hc h c e e2
    go_enter Try.func48, Try.ntmps48
    go_wp2_with (first | (go_at_call 46; refine (HC.out).mono ?_; rintro e w1 ⟨rfl, hb1⟩))
    go_ret2
    exact ⟨rfl, hb1⟩
  · have HC := Lib.hid hc
    clear hc h c e e2
    go_enter Try.func48, Try.ntmps48
    go_wp2_with (first | (go_at_call 46; refine (HC.out).mono ?_; rintro e w1 ⟨rfl, hb1⟩) | (go_at_call 74; refine (area_any _ _).mono ?_; rintro e w' ⟨rfl, rfl⟩))
    go_ret2
    exact ⟨rfl, hb1⟩
  · have HC := Lib.hid hc
    clear hc h c e e2
    go_enter Try.func48, Try.ntmps48
    go_wp2_with (first | (go_at_call 46; refine (HC.out).mono ?_; rintro e w1 ⟨rfl, hb1⟩) | (go_at_call 74; refine (area_any _ _).mono ?_; rintro e w' ⟨rfl, rfl⟩))
    go_ret2
    exact ⟨rfl, hb1⟩
  · have HC := Lib.hid hc
    have H := Lib.hid h
    have d0 := Re.area_iff.1 h1
    have f0 := Re.area_iff.1 h2
    have h6 := hR.len
    by_cases hdf : d ≤ f
    · have hp : Re.paid D d f = d := by unfold Re.paid; rw [if_pos hdf]
      rw [hp]
      clear hc h c e e2 hp hR
      go_enter Try.func48, Try.ntmps48
      go_wp2_with (first | (go_at_call 46; refine (HC.out).mono ?_; rintro e w1 ⟨rfl, hb1⟩) | (go_at_call 74; refine (area_any _ _).mono ?_; rintro e w' ⟨rfl, rfl⟩))
      go_ret2
      exact ⟨rfl, hb1⟩
    have hs := fun (W : World) (hP : Pairs W p D) => rstep_any p D cap d f W hP hR d0 f0
    rcases Re.step_spec (l := D) (d := d) (f := f) with ⟨es, -⟩ | ⟨n, es, hn, -, -⟩
    · have hp : Re.paid D d f = f := by unfold Re.paid; rw [if_neg hdf, if_pos (by omega)]
      rw [hp]
      rw [es] at hs
      have HS := Lib.hid hs
      clear hc h c e e2 hp hs es hR
      go_enter Try.func48, Try.ntmps48
      go_wp2_with (first | (go_at_call 46; refine (HC.out).mono ?_; rintro e w1 ⟨rfl, hb1⟩) | (go_at_call 74; refine (area_any _ _).mono ?_; rintro e w' ⟨rfl, rfl⟩) | (go_at_call 75; refine (HS.out _ (H.out.below hb1)).mono ?_; rintro e w' ⟨rfl, rfl⟩))
      go_ret2
      exact ⟨rfl, hb1⟩
    · obtain ⟨b, off, x, y, rfl, hbl, hx, hy, hxy⟩ := H.out.get hn
      have ht := ti_eq hxy.out
      rw [es] at hs
      have HS := Lib.hid hs
      have hn0 : (0 : Int) ≤ (n : Int) := Int.natCast_nonneg _
      have hn1 : (n : Int) < (D.length : Int) := by omega
      have hnB : decide ((n : Int) < 0) = false := decide_eq_false (by omega)
      by_cases hy1 : y = -1
      · have hp : Re.paid D d f = 0 := by unfold Re.paid; rw [if_neg hdf, if_neg (by omega), es, Int.toNat_natCast, ht, if_pos hy1]
        rw [hp]
        have hyB : (y == -1) = true := beq_iff_eq.2 hy1
        clear hc h c e e2 hp hs es hR ht hy1
        go_enter Try.func48, Try.ntmps48
        go_wp2_with (first | (go_at_call 46; refine HC.out.mono ?_; rintro e w1 ⟨rfl, hb1⟩; have hy2 := (hb1.cell (p := ⟨b, off + n * 2 + 1, none⟩) hbl).trans hy) | (go_at_call 74; refine (area_any _ _).mono ?_; rintro e w' ⟨rfl, rfl⟩) | (go_at_call 75; refine (HS.out _ (H.out.below hb1)).mono ?_; rintro e w' ⟨rfl, rfl⟩))
        go_ret2
        exact ⟨rfl, hb1⟩
      · have hp : Re.paid D d f = max 0 (f - y * (d - f)) := by unfold Re.paid; rw [if_neg hdf, if_neg (by omega), es, Int.toNat_natCast, ht, if_neg hy1]
        rw [hp]
        have hyB : (y == -1) = false := beq_eq_false_iff_ne.2 hy1
        have hyb : 0 ≤ y ∧ y ≤ 10 := by
          have := hR.ti0 hn
          rw [ht] at this
          omega
        have m0 : 0 ≤ y * (d - f) := Int.mul_nonneg hyb.1 (by omega)
        have m1 : y * (d - f) ≤ 10 * 268435456 := Int.mul_le_mul hyb.2 (by omega) (by omega) (by omega)
        have hwd : IntKind.i64.wrap (d - f) = d - f := by rw [IntKind.wrap_i64]; omega
        obtain ⟨M, hM⟩ : ∃ M, y * (d - f) = M := ⟨_, rfl⟩
        have hwm : IntKind.i64.wrap (y * (d - f)) = M := by rw [hM] at m0 m1 ⊢; rw [IntKind.wrap_i64]; omega
        rw [hM] at m0 m1 ⊢
        have hws : IntKind.i64.wrap (f - M) = f - M := by rw [IntKind.wrap_i64]; omega
        clear hc h c e e2 hp hs es hR ht hM
        go_enter Try.func48, Try.ntmps48
        go_wp2_with (first | (go_at_call 46; refine HC.out.mono ?_; rintro e w1 ⟨rfl, hb1⟩; have hy2 := (hb1.cell (p := ⟨b, off + n * 2 + 1, none⟩) hbl).trans hy) | (go_at_call 74; refine (area_any _ _).mono ?_; rintro e w' ⟨rfl, rfl⟩) | (go_at_call 75; refine (HS.out _ (H.out.below hb1)).mono ?_; rintro e w' ⟨rfl, rfl⟩))
        go_ret2
        exact ⟨rfl, hb1⟩

end Go.Proofs.Ytmgdbbmheiligaa
