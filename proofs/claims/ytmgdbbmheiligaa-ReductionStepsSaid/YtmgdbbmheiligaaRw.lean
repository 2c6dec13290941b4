/-
  THE WALKS over the laws ReductionWithin and ReductionSteps.
-/
import Derived.Test.YtmgdbbmheiligaaRg
namespace Go.Proofs.Ytmgdbbmheiligaa
open Go.RowKit

/-- The loop of ReductionWithin: 'last' is nothing, or what is paid where less was found. -/
structure WiAt (w wr : World) (l : List Int) (D : List (Int × Int)) (B : Nat) (v : Value) (d x y : Int) (q : Nat) : Prop where
  y0 : 0 ≤ y ∧ y ≤ 1000
  x0 : x = 0 ∨ ∃ z, 0 ≤ z ∧ z ≤ y ∧ x = Re.paid D d z
  own : OwnP wr 67 B v D
  tape : TapeAt wr w.heap.size l q
  below : Below w.heap.size w wr

set_option maxRecDepth 100000 in
set_option maxHeartbeats 4000000 in
theorem reductionWithin_walk (a : Option Addr) (len cap : Nat) (z : List Int) (w : World) (w0 : IsRow .i64 w a len cap z) :
    Calls Try.prog 11 #[.slice a len cap] w fun e w' => e = .returned (.bool true) ∧ Below w.heap.size w w' := by
  have HN := Lib.hid (new_any a len cap z w w0)
  clear w0
  generalize (z.take len).take 400 = l at *
  have HD := Lib.hid (fun (W : World) (h : TapeAt W w.heap.size l 0) => steps_any w.heap.size l 0 W h)
  have HX := Lib.hid (fun (W : World) (q : Nat) (h : TapeAt W w.heap.size l q) => next_any w.heap.size l q 400 W h (by omega))
  have HR := Lib.hid (fun (W : World) (q : Nat) (h : TapeAt W w.heap.size l q) => range_any w.heap.size l q 1 30 W h (by omega) (by omega) (by omega))
  go_enter Try.func11, Try.ntmps11
  go_wp2_with (first | (go_at_call 16; refine (HN.out).mono ?_; rintro e w1 ⟨rfl, ht, hb1⟩) | (go_at_call 44; refine (HD.out _ ht).mono ?_; rintro e w2 ⟨p, cp, D, q0, rfl, hO, hRt, ht2, hb2⟩) | (go_at_call 17; refine (HX.out _ _ ht2).mono ?_; rintro e w3 ⟨rfl, ht3, hb3⟩))
  have htl := ht.lt
  obtain ⟨d0, d1⟩ := gives_bd l q0 (n := 400) (by omega)
  generalize gives l q0 400 = d at *
  have HST := Lib.hid (show WiAt w w3 l D w1.heap.size (.slice p D.length cp) d 0 0 _ from ⟨by omega, .inl rfl, hO.butB htl hb3, ht3, hb1.trans ((hb2.trans hb3).below (Nat.le_refl _) hb1.size)⟩)
  have R := Lib.hid hRt
  clear hO ht ht2 ht3 hb1 hb2 hb3 HN HD HX hRt
  go_loopw [6, 7] (fun s i wr => ∃ (x y : Int) (q : Nat), s = .int .i64 x ∧ i = .int .i64 y ∧ WiAt w wr l D w1.heap.size (.slice p D.length cp) d x y q) (fun _ i _ => (1000 - intOf i).toNat)
  case atStart => exact ⟨0, 0, _, rfl, rfl, HST.out⟩
  case round =>
    clear HST
    obtain ⟨x, y, q, rfl, rfl, hC⟩ := hrel
    have H := Lib.hid hC
    obtain ⟨y0, y1⟩ := hC.y0
    have hP := hC.own.pairs_at2
    have HP := Lib.hid hP
    by_cases hlt : y ≤ d + 3
    · have hpb := R.out.paid_bd (d := d) (f := y) d0 y0
      have hxr : x ≤ Re.paid D d y := by
        rcases hC.x0 with h | ⟨z, z0, z1, h⟩
        · omega
        · rw [h]; exact R.out.paid_mono d0 z0 z1
      have C1 := Lib.hid (paid_fine R.out (show 0 ≤ d ∧ d ≤ 268435456 by omega) (show 0 ≤ y ∧ y ≤ 268435456 by omega) p cp wr hP)
      obtain ⟨g, eg⟩ : ∃ g, gives l q (30 - 1 + 1) = g := ⟨_, rfl⟩
      obtain ⟨g1, g2⟩ := gives_bd l q (n := 30 - 1 + 1) (by omega)
      rw [eg] at g1 g2
      have HR1 := Lib.hid (fun (W : World) (h : TapeAt W w.heap.size l q) => eg ▸ HR.out W q h)
      have step : ∀ (w3 w4 : World), Below wr.heap.size wr w3 → But w.heap.size w3 w4 → TapeAt w4 w.heap.size l (taken l q) → WiAt w w4 l D w1.heap.size (.slice p D.length cp) d (Re.paid D d y) (y + (1 + g)) (taken l q) := fun w3 w4 h3 h4 h5 =>
        ⟨by omega, .inr ⟨y, y0, by omega, rfl⟩, (H.out.own.below h3).butB htl h4, h5, (H.out.below.trans (h3.mono H.out.below.size)).trans (h4.below (Nat.le_refl _) (Nat.le_trans H.out.below.size h3.size))⟩
      have STEP := Lib.hid step
      clear step hP hC eg HR
      generalize Re.paid D d y = n at *
      go_wp2_with (first | (go_at_call 48; refine (C1.out).mono ?_; rintro e w5 ⟨rfl, hb5⟩) | (go_at_call 18; refine (HR1.out _ (H.out.tape.below hb5)).mono ?_; rintro e w6 ⟨rfl, ht6, hb6⟩))
      have S := Lib.hid (STEP.out w5 w6 hb5 hb6 ht6)
      clear hb5 hb6 ht6
      go_roundw
      case rel => exact ⟨_, _, _, rfl, rfl, S.out⟩
      case measure => simp [intOf]; omega
    · have c1 := paid_fine R.out (show 0 ≤ d ∧ d ≤ 268435456 by omega) (show 0 ≤ d ∧ d ≤ 268435456 by omega) p cp wr hP
      rw [Re.paid_same] at c1
      have C1 := Lib.hid c1
      clear hC hP c1
      go_wp2_with (first | (go_at_call 48; refine (C1.out).mono ?_; rintro e w5 ⟨rfl, hb5⟩) | (go_at_call 43; refine (awake29_any _).mono ?_; rintro e w9 ⟨rfl, hb9⟩))
      go_ret
      exact ⟨rfl, bstep (Nat.le_refl _) (bstep (Nat.le_refl _) H.out.below hb5) hb9⟩

/-- The loop of ReductionSteps. -/
structure SiAt (w wr : World) (l : List Int) (D : List (Int × Int)) (B : Nat) (v : Value) (f x y : Int) (q : Nat) : Prop where
  y0 : f ≤ y ∧ y ≤ f + 400
  x0 : x = -1 ∨ ∃ z, f ≤ z ∧ z ≤ y ∧ x = Re.step D z f
  own : OwnP wr 67 B v D
  tape : TapeAt wr w.heap.size l q
  below : Below w.heap.size w wr

set_option maxRecDepth 100000 in
set_option maxHeartbeats 8000000 in
theorem reductionSteps_walk (a : Option Addr) (len cap : Nat) (z : List Int) (w : World) (w0 : IsRow .i64 w a len cap z) :
    Calls Try.prog 13 #[.slice a len cap] w fun e w' => e = .returned (.bool true) ∧ Below w.heap.size w w' := by
  have HN := Lib.hid (new_any a len cap z w w0)
  clear w0
  generalize (z.take len).take 400 = l at *
  have HD := Lib.hid (fun (W : World) (h : TapeAt W w.heap.size l 0) => steps_any w.heap.size l 0 W h)
  have HX := Lib.hid (fun (W : World) (q : Nat) (h : TapeAt W w.heap.size l q) => range_any w.heap.size l q 1 200 W h (by omega) (by omega) (by omega))
  have HR := Lib.hid (fun (W : World) (q : Nat) (h : TapeAt W w.heap.size l q) => range_any w.heap.size l q 1 25 W h (by omega) (by omega) (by omega))
  go_enter Try.func13, Try.ntmps13
  go_wp2_with (first | (go_at_call 16; refine (HN.out).mono ?_; rintro e w1 ⟨rfl, ht, hb1⟩) | (go_at_call 44; refine (HD.out _ ht).mono ?_; rintro e w2 ⟨p, cp, D, q0, rfl, hO, hRt, ht2, hb2⟩) | (go_at_call 18; refine (HX.out _ _ ht2).mono ?_; rintro e w3 ⟨rfl, ht3, hb3⟩))
  have htl := ht.lt
  obtain ⟨e0, e1⟩ := gives_bd l q0 (n := 200) (by omega)
  obtain ⟨f, hf⟩ : ∃ f, 1 + gives l q0 200 = f := ⟨_, rfl⟩
  have f0 : 1 ≤ f ∧ f ≤ 200 := by omega
  have HST := Lib.hid (show SiAt w w3 l D w1.heap.size (.slice p D.length cp) f (-1) f _ from ⟨by omega, .inl rfl, hO.butB htl hb3, ht3, hb1.trans ((hb2.trans hb3).below (Nat.le_refl _) hb1.size)⟩)
  have R := Lib.hid hRt
  have hl6 := hRt.len
  rw [hf]
  clear hO ht ht2 ht3 hb1 hb2 hb3 HN HD HX hRt hf e0 e1
  go_loopw [6, 7] (fun s i wr => ∃ (x y : Int) (q : Nat), s = .int .i64 x ∧ i = .int .i64 y ∧ SiAt w wr l D w1.heap.size (.slice p D.length cp) f x y q) (fun _ i _ => (1000 - intOf i).toNat)
  case atStart => exact ⟨-1, f, _, rfl, rfl, HST.out⟩
  case round =>
    clear HST
    obtain ⟨x, y, q, rfl, rfl, hC⟩ := hrel
    have H := Lib.hid hC
    obtain ⟨y0, y1⟩ := hC.y0
    have hP := hC.own.pairs_at2
    have HP := Lib.hid hP
    by_cases hlt : y < f + 300
    · have hxr : x ≤ Re.step D y f := by
        rcases hC.x0 with h | ⟨z, z0, z1, h⟩
        · rcases Re.step_spec (l := D) (d := y) (f := f) with ⟨e, _⟩ | ⟨n, e, _⟩ <;> omega
        · rw [h]; exact Re.step_more z1
      have c1 := Step_fine R.out (show 0 ≤ y ∧ y ≤ 268435456 by omega) (show 0 ≤ f ∧ f ≤ 268435456 by omega) p cp wr hP
      obtain ⟨g, eg⟩ : ∃ g, gives l q (25 - 1 + 1) = g := ⟨_, rfl⟩
      obtain ⟨g1, g2⟩ := gives_bd l q (n := 25 - 1 + 1) (by omega)
      rw [eg] at g1 g2
      have HR1 := Lib.hid (fun (W : World) (h : TapeAt W w.heap.size l q) => eg ▸ HR.out W q h)
      have step : ∀ (w3 w4 : World), Below wr.heap.size wr w3 → But w.heap.size w3 w4 → TapeAt w4 w.heap.size l (taken l q) → SiAt w w4 l D w1.heap.size (.slice p D.length cp) f (Re.step D y f) (y + (1 + g)) (taken l q) := fun w3 w4 h3 h4 h5 =>
        ⟨by omega, .inr ⟨y, y0, by omega, rfl⟩, (H.out.own.below h3).butB htl h4, h5, (H.out.below.trans (h3.mono H.out.below.size)).trans (h4.below (Nat.le_refl _) (Nat.le_trans H.out.below.size h3.size))⟩
      have hmx : max 0 (y - f) = y - f := by omega
      have hwm : IntKind.i64.wrap ((y - f) * 1000) = (y - f) * 1000 := by rw [IntKind.wrap_i64]; omega
      rcases Re.step_spec (l := D) (d := y) (f := f) with ⟨es, hno⟩ | ⟨n, es, hn, hyes, hno⟩
      · rw [es] at c1 hxr
        have STEP := Lib.hid step
        have C1 := Lib.hid c1
        have hl1 := R.out.len1
        obtain ⟨b, off, u, v, rfl, hbl, hu, hv, huv⟩ := HP.out.get (k := 0) hl1
        have h0 := hno 0 hl1
        unfold Re.holds at h0
        rw [ab_eq huv.out, hmx] at h0
        have hu0 := R.out.ab0 (i := 0) hl1
        rw [ab_eq huv.out] at hu0
        have uf0 : 0 ≤ u * f ∧ u * f ≤ 100000 * 200 := ⟨Int.mul_nonneg hu0.1 (by omega), Int.mul_le_mul hu0.2 f0.2 (by omega) (by omega)⟩
        obtain ⟨X, hX⟩ : ∃ X, u * f = X := ⟨_, rfl⟩
        rw [hX] at uf0 h0
        have hwX : IntKind.i64.wrap (u * f) = X := by rw [hX, IntKind.wrap_i64]; omega
        have h1 := of_decide_eq_false h0
        have hl1I : (0 : Int) < (D.length : Int) := by omega
        simp only [Nat.zero_mul, Nat.add_zero] at hu
        have SE := Lib.hid es
        clear step c1 hP hC eg HR hno es h0 hX
        go_wp2_with (first | (go_at_call 50; refine C1.out.mono ?_; rintro e w5 ⟨rfl, hb5⟩; have hu5 := (hb5.cell (p := ⟨b, off, none⟩) hbl).trans hu) | (go_at_call 18; refine (HR1.out _ (H.out.tape.below hb5)).mono ?_; rintro e w6 ⟨rfl, ht6, hb6⟩))
        have S := STEP.out w5 w6 hb5 hb6 ht6
        rw [SE.out] at S
        have S' := Lib.hid S
        clear hb5 hb6 ht6 S
        go_roundw
        case rel => exact ⟨_, _, _, rfl, rfl, S'.out⟩
        case measure => simp [intOf]; omega
      · rw [es] at c1 hxr
        have STEP := Lib.hid step
        have C1 := Lib.hid c1
        obtain ⟨b, off, u, v, rfl, hbl, hu, hv, huv⟩ := HP.out.get hn
        unfold Re.holds at hyes
        rw [ab_eq huv.out, hmx] at hyes
        have hu0 := R.out.ab0 hn
        rw [ab_eq huv.out] at hu0
        have uf0 : 0 ≤ u * f ∧ u * f ≤ 100000 * 200 := ⟨Int.mul_nonneg hu0.1 (by omega), Int.mul_le_mul hu0.2 f0.2 (by omega) (by omega)⟩
        obtain ⟨X, hX⟩ : ∃ X, u * f = X := ⟨_, rfl⟩
        rw [hX] at uf0 hyes
        have hwX : IntKind.i64.wrap (u * f) = X := by rw [hX, IntKind.wrap_i64]; omega
        have h1 := of_decide_eq_true hyes
        have hn0 : (0 : Int) ≤ (n : Int) := Int.natCast_nonneg _
        have hn1 : (n : Int) < (D.length : Int) := by omega
        have SE := Lib.hid es
        by_cases hlast : n + 1 < D.length
        · obtain ⟨b', off', u', v', e, -, hu', hv', huv'⟩ := HP.out.get hlast
          simp only [Option.some.injEq, Addr.mk.injEq] at e
          obtain ⟨rfl, rfl, -⟩ := e
          have h2 := hno (n + 1) (by omega) hlast
          unfold Re.holds at h2
          rw [ab_eq huv'.out, hmx] at h2
          have hu0' := R.out.ab0 hlast
          rw [ab_eq huv'.out] at hu0'
          have uf0' : 0 ≤ u' * f ∧ u' * f ≤ 100000 * 200 := ⟨Int.mul_nonneg hu0'.1 (by omega), Int.mul_le_mul hu0'.2 f0.2 (by omega) (by omega)⟩
          obtain ⟨X', hX'⟩ : ∃ X, u' * f = X := ⟨_, rfl⟩
          rw [hX'] at uf0' h2
          have hwX' : IntKind.i64.wrap (u' * f) = X' := by rw [hX', IntKind.wrap_i64]; omega
          have h3 := of_decide_eq_false h2
          have hn2 : (n : Int) + 1 < (D.length : Int) := by omega
          have hn3 : (0 : Int) ≤ (n : Int) + 1 := by omega
          clear step c1 hP hC eg HR hno es h2 hX hX' hyes
          go_wp2_with (first | (go_at_call 50; refine C1.out.mono ?_; rintro e w5 ⟨rfl, hb5⟩; have hu5 := (hb5.cell (p := ⟨b, off + n * 2, none⟩) hbl).trans hu; have hu6 := (hb5.cell (p := ⟨b, off + (n + 1) * 2, none⟩) hbl).trans hu') | (go_at_call 18; refine (HR1.out _ (H.out.tape.below hb5)).mono ?_; rintro e w6 ⟨rfl, ht6, hb6⟩))
          have S := STEP.out w5 w6 hb5 hb6 ht6
          rw [SE.out] at S
          have S' := Lib.hid S
          clear hb5 hb6 ht6 S
          go_roundw
          case rel => exact ⟨_, _, _, rfl, rfl, S'.out⟩
          case measure => simp [intOf]; omega
        · have hn2 : ¬ (n : Int) + 1 < (D.length : Int) := by omega
          clear step c1 hP hC eg HR hno es hX hyes
          go_wp2_with (first | (go_at_call 50; refine C1.out.mono ?_; rintro e w5 ⟨rfl, hb5⟩; have hu5 := (hb5.cell (p := ⟨b, off + n * 2, none⟩) hbl).trans hu) | (go_at_call 18; refine (HR1.out _ (H.out.tape.below hb5)).mono ?_; rintro e w6 ⟨rfl, ht6, hb6⟩))
          have S := STEP.out w5 w6 hb5 hb6 ht6
          rw [SE.out] at S
          have S' := Lib.hid S
          clear hb5 hb6 ht6 S
          go_roundw
          case rel => exact ⟨_, _, _, rfl, rfl, S'.out⟩
          case measure => simp [intOf]; omega
    · clear hC hP
      go_wp2_with (first | (go_at_call 43; refine (awake29_any _).mono ?_; rintro e w9 ⟨rfl, hb9⟩))
      go_ret
      exact ⟨rfl, bstep (Nat.le_refl _) H.out.below hb9⟩

end Go.Proofs.Ytmgdbbmheiligaa
