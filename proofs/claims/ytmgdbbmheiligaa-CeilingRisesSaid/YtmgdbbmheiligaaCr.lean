/-
  THE WALK over the law CeilingRises.
-/
import Derived.Test.YtmgdbbmheiligaaCg
namespace Go.Proofs.Ytmgdbbmheiligaa
open Go.RowKit

/-- The loop of CeilingRises: 'last' is nothing, or what is left of an amount not greater than a. -/
structure RiseAt (w wr : World) (l : List Int) (D : List (Int × Int)) (v : Value) (x y : Int) (q : Nat) : Prop where
  y0 : 0 ≤ y ∧ y ≤ 10000
  x0 : x = 0 ∨ ∃ z, 0 ≤ z ∧ z ≤ y ∧ x = Ce.red D z
  own : OwnP wr 48 (w.heap.size + 1) v D
  tape : TapeAt wr w.heap.size l q
  below : Below w.heap.size w wr

set_option maxRecDepth 100000 in
set_option maxHeartbeats 4000000 in
theorem ceilingRises_walk (a : Option Addr) (len cap : Nat) (z : List Int) (w : World) (w0 : IsRow .i64 w a len cap z) :
    Calls Try.prog 5 #[.slice a len cap] w fun e w' => e = .returned (.bool true) ∧ Below w.heap.size w w' := by
  have HN := Lib.hid (new_any a len cap z w w0)
  clear w0
  generalize (z.take len).take 400 = l at *
  have HD := Lib.hid (fun (W : World) (h : TapeAt W w.heap.size l 0) => degrees_any w.heap.size l 0 W h)
  have HR := Lib.hid (fun (W : World) (q : Nat) (h : TapeAt W w.heap.size l q) => range_any w.heap.size l q 1 900 W h (by omega) (by omega) (by omega))
  go_enter Try.func5, Try.ntmps5
  go_wp2_with (first | (go_at_call 16; refine (HN.out).mono ?_; rintro e w1 ⟨rfl, ht, hb1⟩) | (go_at_call 34; refine (HD.out _ ht).mono ?_; rintro e w2 ⟨p, cp, D, q0, rfl, hO, hRt, hl3, ht2, hb2⟩))
  have hst : RiseAt w w2 l D (.slice p D.length cp) 0 0 q0 := ⟨by omega, .inl rfl, hO, ht2, hb1.trans hb2⟩
  have HST := Lib.hid hst
  have R := Lib.hid hRt
  clear hst hO ht ht2 hb1 hb2 HN HD hRt
  go_loopw [5, 6] (fun s i wr => ∃ (x y : Int) (q : Nat), s = .int .i64 x ∧ i = .int .i64 y ∧ RiseAt w wr l D (.slice p D.length cp) x y q) (fun _ i _ => (9000 - intOf i).toNat)
  case atStart => exact ⟨0, 0, q0, rfl, rfl, HST.out⟩
  case round =>
    clear HST
    obtain ⟨x, y, q, rfl, rfl, hC⟩ := hrel
    have H := Lib.hid hC
    obtain ⟨y0, y1⟩ := hC.y0
    by_cases hlt : y < 9000
    · have hrb := R.out.red_bd (a := y) y0 (by omega)
      have hxr : x ≤ Ce.red D y := by
        rcases hC.x0 with h | ⟨z, z0, z1, h⟩
        · omega
        · rw [h]; exact R.out.red_mono z0 z1 (by omega)
      have he : Ce.redErr D y = 0 := by unfold Ce.redErr; rw [if_neg (by rw [Ce.chk_zero.2 R.out]; simp), if_neg (by rw [En.money_iff.2 ⟨y0, by omega⟩]; simp)]
      have hv : Ce.redVal D y = Ce.red D y := by unfold Ce.redVal; rw [if_neg (by rw [he]; simp)]
      have hP := hC.own.pairs_at
      have hr := Reduced_any p D cp y wr hP
      rw [he, hv] at hr
      have HRD := Lib.hid hr
      have hlow := fun h => R.out.red_low (a := y) y0 (by omega) h
      obtain ⟨g, eg⟩ : ∃ g, gives l q (900 - 1 + 1) = g := ⟨_, rfl⟩
      obtain ⟨g1, g2⟩ := gives_bd l q (n := 900 - 1 + 1) (by omega)
      rw [eg] at g1 g2
      have HR1 := Lib.hid (fun (W : World) (h : TapeAt W w.heap.size l q) => eg ▸ HR.out W q h)
      have HPP := Lib.hid hP
      have RD := Lib.hid (show x = 0 ∨ ∃ z, 0 ≤ z ∧ z ≤ y ∧ x = Ce.red D z from hC.x0)
      have step : ∀ (w3 w4 : World), Below wr.heap.size wr w3 → But w.heap.size w3 w4 → TapeAt w4 w.heap.size l (taken l q) → RiseAt w w4 l D (.slice p D.length cp) (Ce.red D y) (y + (1 + g)) (taken l q) := fun w3 w4 h3 h4 h5 =>
        ⟨by omega, .inr ⟨y, y0, by omega, rfl⟩, (H.out.own.below h3).but h4, h5, (H.out.below.trans (h3.mono H.out.below.size)).trans (h4.below (Nat.le_refl _) (Nat.le_trans H.out.below.size h3.size))⟩
      have STEP := Lib.hid step
      clear step hr he hv hP hC eg HR
      rcases Nat.eq_zero_or_pos D.length with hz | hpos
      · have hn := hlow (.inl hz)
        have hnb : (y != y) = false := by simp
        rw [hn] at HRD hxr hrb STEP
        have hzB : ((D.length : Int) == 0) = true := by rw [hz]; rfl
        clear hlow hn hz
        go_wp2_with (first | (go_at_call 38; refine (HRD.out).mono ?_; rintro e w3 ⟨rfl, hb3⟩) | (go_at_call 18; refine (HR1.out _ (H.out.tape.below hb3)).mono ?_; rintro e w4 ⟨rfl, ht4, hb4⟩))
        have S := Lib.hid (STEP.out w3 w4 hb3 hb4 ht4)
        clear hb3 hb4 ht4
        go_roundw
        case rel => exact ⟨_, _, _, rfl, rfl, S.out⟩
        case measure => simp [intOf]; omega
      · obtain ⟨b, off, x0, m0, rfl, hbl, hx0, hm0, hxm⟩ := HPP.out.get hpos
        simp only [Nat.zero_mul, Nat.add_zero] at hx0 hm0
        have hfr : Ce.fr D 0 = x0 := fr_eq hxm.out
        have hposI : (0 : Int) < (D.length : Int) := by omega
        have hzB : ((D.length : Int) == 0) = false := beq_eq_false_iff_ne.2 (by omega)
        by_cases hle : y ≤ x0
        · have hn := hlow (.inr (by rw [hfr]; exact hle))
          have hnb : (y != y) = false := by simp
          rw [hn] at HRD hxr hrb STEP
          clear hlow hn
          go_wp2_with (first | (go_at_call 38; refine HRD.out.mono ?_; rintro e w3 ⟨rfl, hb3⟩; have hx1 := (hb3.cell (p := ⟨b, off, none⟩) hbl).trans hx0) | (go_at_call 18; refine (HR1.out _ (H.out.tape.below hb3)).mono ?_; rintro e w4 ⟨rfl, ht4, hb4⟩))
          have S := Lib.hid (STEP.out w3 w4 hb3 hb4 ht4)
          clear hb3 hb4 ht4
          go_roundw
          case rel => exact ⟨_, _, _, rfl, rfl, S.out⟩
          case measure => simp [intOf]; omega
        · clear hlow
          go_wp2_with (first | (go_at_call 38; refine HRD.out.mono ?_; rintro e w3 ⟨rfl, hb3⟩; have hx1 := (hb3.cell (p := ⟨b, off, none⟩) hbl).trans hx0) | (go_at_call 18; refine (HR1.out _ (H.out.tape.below hb3)).mono ?_; rintro e w4 ⟨rfl, ht4, hb4⟩))
          have S := Lib.hid (STEP.out w3 w4 hb3 hb4 ht4)
          clear hb3 hb4 ht4
          go_roundw
          case rel => exact ⟨_, _, _, rfl, rfl, S.out⟩
          case measure => simp [intOf]; omega
    · clear hC
      go_wp2_with (first | (go_at_call 33; refine (awake32_any _).mono ?_; rintro e w9 ⟨rfl, hb9⟩))
      go_ret
      exact ⟨rfl, bnext H.out.below H.out.below.size hb9⟩

end Go.Proofs.Ytmgdbbmheiligaa
