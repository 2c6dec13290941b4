/-
  THE WALK over landaidlaw33.amounts: some numbers of a tape, in a slice of its own.
-/
import Derived.Test.YtlmikbjnibiajaaKp
import Derived.Test.YtlmikbjnibiajaaEs
namespace Go.Proofs.Ytlmikbjnibiajaa
open Go.RowKit

def amountsL (l : List Int) (a : Nat) : List Int := draws l (taken l a) 5000 (gives l a 8).toNat

/-- The end of 'amounts'. -/
def AmountsGive (w : World) (t : Nat) (l : List Int) (a : Nat) (e : Ending) (w' : World) : Prop :=
  ∃ p cap, e = .returned (.slice p (amountsL l a).length cap) ∧ Ints w' p (amountsL l a) ∧ Below t w w'

set_option maxRecDepth 100000 in
set_option maxHeartbeats 2000000 in
theorem amounts_any (t : Nat) (l : List Int) (a : Nat) (w : World) (h : TapeAt w t l a) :
    Calls Try.prog 34 #[.pointer (some ⟨t, 0, none⟩)] w (AmountsGive w t l a) := by
  have h1 := next_any t l a 8 w h (by omega)
  obtain ⟨b1, b2⟩ := gives_bd l a (n := 8) (by omega)
  obtain ⟨N, hN⟩ : ∃ N : Nat, gives l a 8 = (N : Int) := Int.eq_ofNat_of_zero_le b1
  have hAL := Lib.hid (show amountsL l a = draws l (taken l a) 5000 N by unfold amountsL; rw [hN]; rfl)
  rw [hN] at h1 b2
  have H1 := Lib.hid h1
  have hn := fun (W : World) (k : Nat) (h : TapeAt W t l (tk l (taken l a) k)) => next_any t l _ 5000 W h (by omega)
  have HN := Lib.hid hn
  have hg := fun k => gives_bd l (tk l (taken l a) k) (n := 5000) (by omega)
  have HG := Lib.hid hg
  obtain ⟨i0, hi, hz0, hz1, hz2⟩ := info_parts info_int
  have HI := Lib.hid (And.intro hi (And.intro hz0 (And.intro hz1 hz2)))
  have hlt := h.lt
  clear h h1 hn hg hN hi hz0 hz1 hz2 b1
  go_enter Try.func34, Try.ntmps34
  go_wp2_with (first | (go_at_call 22; refine (H1.out).mono ?_; rintro e w1 ⟨rfl, ht1, hb1⟩))
  have HT1 := Lib.hid ht1
  have HB1 := Lib.hid hb1
  have hs1 := hb1.size
  clear ht1 hb1 H1
  go_loopw [3, 4] (fun v c wr => ∃ k : Nat, k ≤ N ∧ c = .int .i64 ((N : Int) - k) ∧ Own wr 3 (t + 1) v (draws l (taken l a) 5000 k) ∧ TapeAt wr t l (tk l (taken l a) k) ∧ Below t w1 wr) (fun _ c _ => (intOf c).toNat)
  case atStart => exact ⟨0, Nat.zero_le _, by simp, Own.nil _ _ _, HT1.out, Below.refl _ _⟩
  case round =>
    clear HT1
    obtain ⟨k, hk, rfl, hown, htp, hbut⟩ := hrel
    have HO := Lib.hid hown
    have HT := Lib.hid htp
    have HB := Lib.hid hbut
    have hsz := hbut.size
    clear hown htp hbut
    by_cases hkN : k < N
    · have hgk := HG.out k
      have hnk := HN.out wr k HT.out
      have HNK := Lib.hid hnk
      have hds := Lib.hid (draws_succ l (taken l a) 5000 k)
      have hdl := Lib.hid (draws_len l (taken l a) 5000 k)
      clear hnk
      generalize hgv : gives l (tk l (taken l a) k) 5000 = g at *
      clear hgv
      go_wp2_with (first | (go_at_call 22; refine (HNK.out).mono ?_; rintro e w2 ⟨rfl, ht2, hb2⟩) | (at_builtin; refine Own.append HI.out.1 HI.out.2.1 HI.out.2.2.1 HI.out.2.2.2 Try.underlying28 rfl (.tmp 11) (.tmp 14) rfl (t + 1) _ _ _ (Own.but HO.out hb2) rfl rfl (by have := hb2.size; omega) (by rw [hdl.out]; omega) ?_; intro v1 w3 hown3 hb3))
      have hb2s := hb2.size
      have HO3 := Lib.hid hown3
      have HT3 := Lib.hid (ht2.belowB hb3 (by omega))
      have HB3 := Lib.hid ((HB.out.trans (hb2.below (Nat.le_refl _) (by omega))).trans (hb3.mono (by omega)))
      clear hown3 ht2 hb3 hb2
      go_roundw
      case rel => exact ⟨k + 1, by omega, by congr 1; omega, by rw [hds.out]; exact HO3.out, HT3.out, HB3.out⟩
      case measure => simp [intOf]; omega
    · obtain rfl : k = N := by omega
      obtain ⟨p, c, rfl, hin⟩ := HO.out.ints
      have HIN := Lib.hid hin
      clear hin hkN hk
      go_wp2
      go_ret
      refine ⟨p, c, ?_, ?_, ?_⟩
      · rw [hAL.out]; rfl
      · rw [hAL.out]; exact HIN.out
      · exact (HB1.out.below (Nat.le_refl _) (by omega)).trans HB.out

end Go.Proofs.Ytlmikbjnibiajaa
