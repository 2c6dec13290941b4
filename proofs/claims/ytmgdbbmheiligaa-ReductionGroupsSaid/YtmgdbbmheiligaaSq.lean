/-
  THE WALK over landaidlaw29.spoilt.
-/
import Derived.Test.YtmgdbbmheiligaaDq
import Derived.Test.YtmgdbbmheiligaaDt
namespace Go.Proofs.Ytmgdbbmheiligaa
open Go.RowKit

/-- The end of 'spoilt': some degrees, in old or new memory. -/
def SqGive (w : World) (t : Nat) (l : List Int) (e : Ending) (w' : World) : Prop :=
  ∃ p cap D q, e = .returned (.slice p D.length cap) ∧ OwnP w' 67 w.heap.size (.slice p D.length cap) D ∧ TapeAt w' t l q ∧ But t w w'

set_option maxRecDepth 100000 in
set_option maxHeartbeats 4000000 in
theorem spoilt29_any (t : Nat) (l : List Int) (a : Nat) (b : Int) (w : World) (h : TapeAt w t l a) (_b0 : -9223372036854775808 ≤ b) (b1 : b ≤ 9223372036854775807) :
    Calls Try.prog 45 #[.pointer (some ⟨t, 0, none⟩), .int .i64 b] w (SqGive w t l) := by
  have HD := Lib.hid (steps_any t l a w h)
  have HX := Lib.hid (fun (W : World) (q : Nat) (n : Int) (h : TapeAt W t l q) (hn : n ≤ 9223372036854775807) => next_any t l q n W h hn)
  obtain ⟨i0, hi, hz0, hz1, hz2⟩ := info_parts info_stp
  have HI := Lib.hid (And.intro hi (And.intro hz0 (And.intro hz1 hz2)))
  have hlt0 := h.lt
  clear h hi hz0 hz1 hz2
  go_enter Try.func45, Try.ntmps45
  go_wp2_with fail
  (go_at_call 44; refine (HD.out).mono ?_; rintro e w2 ⟨p, cp, D, q0, rfl, hO, hRt, ht2, hb2⟩)
  have B2 := Lib.hid hb2
  have hs2 := hb2.size
  have O2 := Lib.hid hO
  have hpos := hRt.len1
  have hl3 := hRt.len
  obtain ⟨g, eg⟩ : ∃ g, gives l q0 (D.length : Int) = g := ⟨_, rfl⟩
  obtain ⟨g1, g2⟩ := gives_bd l q0 (n := (D.length : Int)) (by omega)
  rw [eg] at g1 g2
  obtain ⟨kd, ek⟩ : ∃ g, gives l (taken l q0) 5 = g := ⟨_, rfl⟩
  obtain ⟨k1, k2⟩ := gives_bd l (taken l q0) (n := 5) (by omega)
  rw [ek] at k1 k2
  obtain ⟨K, rfl⟩ : ∃ K : Nat, g = (K : Int) := Int.eq_ofNat_of_zero_le g1
  have hK : K < D.length := by omega
  have N1 := Lib.hid (eg ▸ HX.out w2 q0 (D.length : Int) ht2 (by omega))
  have N2 := Lib.hid (fun (W : World) (h : TapeAt W t l (taken l q0)) => ek ▸ HX.out W _ 5 h (by omega))
  have htlt := ht2.lt
  clear eg ek hO hRt ht2 hb2 HX HD
  rcases (show (kd = 0 ∨ kd = 4) ∨ kd = 1 ∨ kd = 2 ∨ kd = 3 by omega) with (rfl | rfl) | rfl | rfl | rfl
  · go_wp2_with (first | (go_at_call 17; first | (with_reducible refine Calls.mono N1.out ?_; rintro e w3 ⟨rfl, ht3, hb3⟩) | (with_reducible refine Calls.mono (N2.out _ ht3) ?_; rintro e w4 ⟨rfl, ht4, hb4⟩)))
    go_ret
    exact ⟨p, cp, D, _, rfl, O2.out.butB hlt0 (hb3.trans hb4), ht4, B2.out.trans (hb3.trans hb4)⟩
  · go_wp2_with (first | (go_at_call 17; first | (with_reducible refine Calls.mono N1.out ?_; rintro e w3 ⟨rfl, ht3, hb3⟩) | (with_reducible refine Calls.mono (N2.out _ ht3) ?_; rintro e w4 ⟨rfl, ht4, hb4⟩)))
    go_ret
    exact ⟨p, cp, D, _, rfl, O2.out.butB hlt0 (hb3.trans hb4), ht4, B2.out.trans (hb3.trans hb4)⟩
  · go_wp2_with (first | (go_at_call 17; first | (with_reducible refine Calls.mono N1.out ?_; rintro e w3 ⟨rfl, ht3, hb3⟩) | (with_reducible refine Calls.mono (N2.out _ ht3) ?_; rintro e w4 ⟨rfl, ht4, hb4⟩; obtain ⟨gg, hpg, hBg, hgl, cx, cy, fx, fy, hset, -⟩ := (O2.out.butB hlt0 (hb3.trans hb4)).at hK; subst hpg; have HS := Lib.hid (hset b); clear hset)))
    go_ret
    exact ⟨_, cp, D.set K (b, (D.getD K (0, 0)).2), _, by rw [List.length_set]; rfl, by rw [List.length_set]; exact HS.out, ht4.belowB ((Below.refl w.heap.size _).setCell hBg _) hlt0, (B2.out.trans (hb3.trans hb4)).step ((Below.refl w.heap.size _).setCell hBg _)⟩
  · go_wp2_with (first | (go_at_call 17; first | (with_reducible refine Calls.mono N1.out ?_; rintro e w3 ⟨rfl, ht3, hb3⟩) | (with_reducible refine Calls.mono (N2.out _ ht3) ?_; rintro e w4 ⟨rfl, ht4, hb4⟩; obtain ⟨gg, hpg, hBg, hgl, cx, cy, fx, fy, -, hset⟩ := (O2.out.butB hlt0 (hb3.trans hb4)).at hK; subst hpg; have HS := Lib.hid (hset b); clear hset)))
    go_ret
    exact ⟨_, cp, D.set K ((D.getD K (0, 0)).1, b), _, by rw [List.length_set]; rfl, by rw [List.length_set]; exact HS.out, ht4.belowB ((Below.refl w.heap.size _).setCell hBg _) hlt0, (B2.out.trans (hb3.trans hb4)).step ((Below.refl w.heap.size _).setCell hBg _)⟩
  · go_wp2_with (first | (go_at_call 17; first | (with_reducible refine Calls.mono N1.out ?_; rintro e w3 ⟨rfl, ht3, hb3⟩) | (with_reducible refine Calls.mono (N2.out _ ht3) ?_; rintro e w4 ⟨rfl, ht4, hb4⟩; have O4 := Lib.hid (O2.out.butB hlt0 (hb3.trans hb4)); obtain ⟨gg, hpg, hBg, hgl, cx, cy, fx, fy, -, -⟩ := O4.out.at hK; subst hpg; generalize (D.getD K (0, 0)).1 = dx at cx; generalize (D.getD K (0, 0)).2 = dy at cy)) | (at_builtin; (refine OwnP.append HI.out.1 HI.out.2.1 HI.out.2.2.1 HI.out.2.2.2 Try.underlying52 rfl (.tmp 31) (.tmp 36) rfl w.heap.size _ D dx dy O4.out rfl rfl (by have := (hb3.trans hb4).size; omega) (by omega) ?_); intro v5 w5 hown5 hb5; obtain ⟨p5, c5, rfl, hP5⟩ := hown5.pairs))
    go_ret
    exact ⟨p5, c5, _, _, by rw [List.length_append]; rfl, hown5, ht4.belowB hb5 hlt0, (B2.out.trans (hb3.trans hb4)).step hb5⟩

end Go.Proofs.Ytmgdbbmheiligaa
