/-
  THE WALKS over ref33.units, Scaled, Factor.
-/
import Derived.Test.YtlmikbjnibiajaaEw
namespace Go.Proofs.Ytlmikbjnibiajaa
open Go.RowKit

def UGive (e u : Int) (l : List Int) (w : World) (en : Ending) (w' : World) : Prop :=
  (En.Good e u l ∧ ∃ q c, en = .returned (.tuple #[.slice q l.length c, .int .i64 (En.usum u l), .int .i64 0]) ∧ Ints w' q (En.units u l) ∧ Below w.heap.size w w') ∨
  (¬ En.Good e u l ∧ en = .returned (.tuple #[.slice none 0 0, .int .i64 0, .int .i64 67]) ∧ Below w.heap.size w w')

set_option maxRecDepth 100000 in
set_option maxHeartbeats 4000000 in
theorem refunits_main (e u : Int) (p : Option Addr) (l : List Int) (cap : Nat) (w : World) (h : Ints w p l) (hg : En.Good e u []) (hl : l.length ≤ 64) :
    Calls Try.prog 68 #[.int .i64 e, .int .i64 u, .slice p l.length cap] w (UGive e u l w) := by
  have H := Lib.hid h
  have G := Lib.hid hg
  have e0 := hg.e0
  have e1 := hg.e1
  have u0 := hg.u0
  have u1 := hg.u1
  have hu0 : ¬ u = 0 := by omega
  clear h hg
  go_enter Try.func68, Try.ntmps68
  go_wp2
  obtain ⟨i0, hi, hz0, hz1, hz2⟩ := info_parts info_int
  have HI := Lib.hid (And.intro hi (And.intro hz0 (And.intro hz1 hz2)))
  clear hi hz0 hz1 hz2
  go_loopw [12, 11, 10, 9] (fun i s t v wr => ∃ k : Nat, k ≤ l.length ∧ i = .int .i64 k ∧ s = .int .i64 (Sh.sum (l.take k)) ∧ t = .int .i64 (En.usum u (l.take k)) ∧ En.Good e u (l.take k) ∧ Own wr 3 w.heap.size v (En.units u (l.take k)) ∧ Below w.heap.size w wr) (fun i _ _ _ _ => l.length - (intOf i).toNat)
  case atStart => exact ⟨0, Nat.zero_le _, rfl, by simp [Sh.sum], rfl, G.out, Own.nil _ _ _, Below.refl _ _⟩
  case round =>
    obtain ⟨k, hk, rfl, rfl, rfl, hGk, hown, hbw⟩ := hrel
    have GK := Lib.hid hGk
    have HO := Lib.hid hown
    have HB := Lib.hid hbw
    have hs0 := GK.out.sum k
    have hus := GK.out.usum k
    rw [List.take_take, Nat.min_self] at hs0 hus
    have hsz := hbw.size
    by_cases hlt : k < l.length
    · obtain ⟨b, off, x, rfl, hbl, hcell0, hx⟩ := H.out.get hlt
      have hcell : wr.cell? ⟨b, off + k, none⟩ = some (.int .i64 x) := (hbw.cell (p := ⟨b, off + k, none⟩) hbl).trans hcell0
      have hst := Lib.hid (En.take_snoc hlt)
      clear hGk hown hbw hcell0
      by_cases hxb : 0 ≤ x ∧ x ≤ 68719476736
      case neg =>
        have hxb' : x < 0 ∨ 68719476736 < x := by omega
        have hbad : ¬ En.Good e u l := fun hG => by
          have := hG.all x (by rw [← hx.out, List.getD_eq_getElem?_getD, List.getElem?_eq_getElem hlt]; exact List.getElem_mem hlt)
          omega
        have HBAD := Lib.hid hbad
        clear hxb hbad
        go_wp2
        all_goals
          go_ret3
          exact .inr ⟨HBAD.out, rfl, HB.out⟩
      have hG1 : En.Good e u (l.take k ++ [x]) := GK.out.snoc hxb (by rw [List.length_take]; omega)
      have hs1 := hG1.sum (k + 1)
      have hus1 := hG1.usum (k + 1)
      have hlk : (l.take k ++ [x]).length = k + 1 := by simp; omega
      rw [List.take_of_length_le (by omega), Sh.sum_snoc] at hs1
      rw [List.take_of_length_le (by omega), En.usum_snoc] at hus1
      have HG1 := Lib.hid hG1
      clear hG1 hlk
      have x0 : 0 ≤ x / u := Int.ediv_nonneg hxb.1 (by omega)
      have x1 : x / u ≤ 68719476736 := by have := Int.ediv_le_self u hxb.1; omega
      have hdq : IntKind.i64.wrap (x.tdiv u) = x / u := by
        rw [Int.tdiv_eq_ediv_of_nonneg hxb.1]; generalize x / u = y at x0 x1 ⊢; rw [IntKind.wrap_i64]; omega
      go_wp2_with (first | (at_builtin; (refine Own.append HI.out.1 HI.out.2.1 HI.out.2.2.1 HI.out.2.2.2 Try.underlying28 rfl (.tmp 52) (.tmp 59) rfl w.heap.size _ _ _ HO.out rfl rfl (by omega) (by rw [En.units_len, List.length_take]; omega) ?_); intro v1 w1 hown1 hb1; have hcell1 := (hb1.cell (p := ⟨b, off + k, none⟩) hbl).trans hcell))
      have HO1 := Lib.hid hown1
      have HB1 := Lib.hid (HB.out.trans hb1)
      clear hown1 hb1
      go_roundw
      case rel => exact ⟨k + 1, by omega, by go_num, by rw [hst.out, hx.out, Sh.sum_snoc], by rw [hst.out, hx.out, En.usum_snoc], by rw [hst.out, hx.out]; exact HG1.out, by rw [hst.out, hx.out, En.units_snoc]; exact HO1.out, HB1.out⟩
      case measure => simp [intOf]; omega
    · obtain rfl : k = l.length := by omega
      rw [List.take_length] at hs0 hus GK HO
      obtain ⟨p4, c4, rfl, hI4⟩ := HO.out.ints
      have HI4 := Lib.hid hI4
      clear hI4 hGk hown hbw hlt hk
      rw [List.take_length]
      go_wp2
      go_ret3
      exact .inl ⟨GK.out, p4, c4, by rw [En.units_len]; rfl, HI4.out, HB.out⟩

theorem refunits_good (e u : Int) (p : Option Addr) (l : List Int) (cap : Nat) (w : World) (h : Ints w p l) (hg : En.Good e u l) :
    Calls Try.prog 68 #[.int .i64 e, .int .i64 u, .slice p l.length cap] w fun en w' => ∃ q c, en = .returned (.tuple #[.slice q l.length c, .int .i64 (En.usum u l), .int .i64 0]) ∧ Ints w' q (En.units u l) ∧ Below w.heap.size w w' := by
  refine (refunits_main e u p l cap w h ⟨hg.e0, hg.e1, hg.u0, hg.u1, by simp, by simp⟩ hg.len).mono fun en w' hu => ?_
  rcases hu with ⟨_, h2⟩ | ⟨h1, _⟩
  · exact h2
  · exact absurd hg h1

set_option maxRecDepth 100000 in
theorem refunits_bad (e u : Int) (p : Option Addr) (l : List Int) (cap : Nat) (w : World) (h : Ints w p l) (hg : En.err e u l ≠ 0) :
    Calls Try.prog 68 #[.int .i64 e, .int .i64 u, .slice p l.length cap] w fun en w' => en = .returned (.tuple #[.slice none 0 0, .int .i64 0, .int .i64 (En.err e u l)]) ∧ Below w.heap.size w w' := by
  by_cases h1 : En.money e = false
  · have h1' := En.money_not.1 h1
    have he : En.err e u l = 67 := by unfold En.err; rw [if_pos h1]
    rw [he]
    clear hg
    go_enter Try.func68, Try.ntmps68
    go_wp2
    all_goals
      go_ret3
      exact ⟨rfl, Below.refl _ _⟩
  have m := En.money_iff.1 (show En.money e = true by simpa using h1)
  by_cases h2 : u < 1 ∨ 100000 < u
  · have he : En.err e u l = 2 := by unfold En.err; rw [if_neg h1, if_pos h2]
    rw [he]
    clear hg
    go_enter Try.func68, Try.ntmps68
    go_wp2
    all_goals
      go_ret3
      exact ⟨rfl, Below.refl _ _⟩
  by_cases h3 : 64 < l.length
  · have he : En.err e u l = 1 := by unfold En.err; rw [if_neg h1, if_neg h2, if_pos h3]
    rw [he]
    have u0 : 1 ≤ u := by omega
    have u1 : u ≤ 100000 := by omega
    have hl : (64 : Int) < (l.length : Int) := by omega
    clear hg h2
    go_enter Try.func68, Try.ntmps68
    go_wp2
    all_goals
      go_ret3
      exact ⟨rfl, Below.refl _ _⟩
  have hb : ¬ En.Good e u l := fun hG => hg (En.err_of hG)
  have he : En.err e u l = 67 := by
    unfold En.err at hg ⊢
    rw [if_neg h1, if_neg h2, if_neg h3] at hg ⊢
    split at hg
    · rw [if_pos (by assumption)]
    · exact absurd rfl hg
  rw [he]
  refine (refunits_main e u p l cap w h ⟨m.1, m.2, by omega, by omega, by simp, by simp⟩ (by omega)).mono fun en w' hu => ?_
  rcases hu with ⟨h2, _⟩ | ⟨_, h2⟩
  · exact absurd h2 hb
  · exact h2

set_option maxRecDepth 100000 in
theorem refscaled_any (e u : Int) (p : Option Addr) (l : List Int) (cap : Nat) (w : World) (h : Ints w p l) :
    Calls Try.prog 41 #[.int .i64 e, .int .i64 u, .slice p l.length cap] w fun en w' => en = .returned (.bool (En.scaled e u l)) ∧ Below w.heap.size w w' := by
  by_cases hg : En.err e u l = 0
  · have hs : En.scaled e u l = decide (e / u < En.usum u l) := by unfold En.scaled; rw [hg]; rfl
    rw [hs]
    have hG := En.good_of hg
    have hc := Lib.hid (refunits_good e u p l cap w h hG)
    have hu0 : ¬ u = 0 := by have := hG.u0; omega
    have hdq : IntKind.i64.wrap (e.tdiv u) = e / u := by
      have q0 : 0 ≤ e / u := Int.ediv_nonneg hG.e0 (by have := hG.u0; omega)
      have q1 : e / u ≤ e := Int.ediv_le_self u hG.e0
      have := hG.e1
      rw [Int.tdiv_eq_ediv_of_nonneg hG.e0]; generalize e / u = y at q0 q1 ⊢; rw [IntKind.wrap_i64]; omega
    clear h hg hs hG
    go_enter Try.func41, Try.ntmps41
    go_wp2_with (first | (go_at_call 68; refine (hc.out).mono ?_; rintro en w1 ⟨q, c, rfl, hI, hb1⟩))
    go_ret
    exact ⟨rfl, hb1⟩
  · have hs : En.scaled e u l = false := by unfold En.scaled; rw [decide_eq_false hg]; rfl
    rw [hs]
    have hc := Lib.hid (refunits_bad e u p l cap w h hg)
    clear h hs
    go_enter Try.func41, Try.ntmps41
    go_wp2_with (first | (go_at_call 68; refine (hc.out).mono ?_; rintro en w1 ⟨rfl, hb1⟩))
    go_ret
    exact ⟨rfl, hb1⟩

set_option maxRecDepth 100000 in
theorem reffactor_any (e u : Int) (p : Option Addr) (l : List Int) (cap : Nat) (w : World) (h : Ints w p l) :
    Calls Try.prog 38 #[.int .i64 e, .int .i64 u, .slice p l.length cap] w fun en w' => en = .returned (.tuple #[.int .i64 (En.factor e u l).1, .int .i64 (En.factor e u l).2, .int .i64 (En.err e u l)]) ∧ Below w.heap.size w w' := by
  by_cases hg : En.err e u l = 0
  · have hG := En.good_of hg
    have hc := Lib.hid (refunits_good e u p l cap w h hG)
    have hu0 : ¬ u = 0 := by have := hG.u0; omega
    have hdq : IntKind.i64.wrap (e.tdiv u) = e / u := by
      have q0 : 0 ≤ e / u := Int.ediv_nonneg hG.e0 (by have := hG.u0; omega)
      have q1 : e / u ≤ e := Int.ediv_le_self u hG.e0
      have := hG.e1
      rw [Int.tdiv_eq_ediv_of_nonneg hG.e0]; generalize e / u = y at q0 q1 ⊢; rw [IntKind.wrap_i64]; omega
    by_cases hq : e / u < En.usum u l
    · have hs : En.factor e u l = (e / u, En.usum u l) := by unfold En.factor; rw [if_pos hg, if_pos hq]
      rw [hs, hg]
      clear h hg hs hG
      go_enter Try.func38, Try.ntmps38
      go_wp2_with (first | (go_at_call 68; refine (hc.out).mono ?_; rintro en w1 ⟨q, c, rfl, hI, hb1⟩))
      go_ret3
      exact ⟨rfl, hb1⟩
    · have hs : En.factor e u l = (1, 1) := by unfold En.factor; rw [if_pos hg, if_neg hq]
      rw [hs, hg]
      clear h hg hs hG
      go_enter Try.func38, Try.ntmps38
      go_wp2_with (first | (go_at_call 68; refine (hc.out).mono ?_; rintro en w1 ⟨q, c, rfl, hI, hb1⟩))
      go_ret3
      exact ⟨rfl, hb1⟩
  · have hs : En.factor e u l = (0, 0) := by unfold En.factor; rw [if_neg hg]
    rw [hs]
    have hc := Lib.hid (refunits_bad e u p l cap w h hg)
    clear h hs
    go_enter Try.func38, Try.ntmps38
    go_wp2_with (first | (go_at_call 68; refine (hc.out).mono ?_; rintro en w1 ⟨rfl, hb1⟩))
    go_ret3
    exact ⟨rfl, hb1⟩

end Go.Proofs.Ytlmikbjnibiajaa
