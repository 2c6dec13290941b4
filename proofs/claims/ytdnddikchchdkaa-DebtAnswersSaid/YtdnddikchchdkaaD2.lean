/-
  THE WALK over debt.Check.
-/
import Derived.Test.YtdnddikchchdkaaD1
namespace Go.Proofs.Ytdnddikchchdkaa
open Go.RowKit

theorem chk_loop {farm next : Int} {L : List De.Dbt} {k : Nat} {d : De.Dbt} {pv : Int} (hk : k < L.length) (hd : De.g L k = d) (hp : De.prv L k = pv) (h : ¬ (pv < d.num ∧ d.num < next ∧ De.good d)) : De.chk farm L next = 22 :=
  De.chk_bad fun hR => h (by have := hR.ok k hk; unfold De.okAt at this; rw [hd, hp] at this; exact this)

theorem prv_succ {L : List De.Dbt} {k : Nat} {d : De.Dbt} (hd : De.g L k = d) : De.prv L (k + 1) = d.num := by
  unfold De.prv
  rw [if_neg (by omega), Nat.add_sub_cancel, hd]

theorem ok_next {L : List De.Dbt} {next : Int} {k : Nat} {d : De.Dbt} {pv : Int} (h : ∀ j, j < k → De.okAt L next j) (hd : De.g L k = d) (hp : De.prv L k = pv) (hg : pv < d.num ∧ d.num < next ∧ De.good d) : ∀ j, j < k + 1 → De.okAt L next j := fun j hj => by
  by_cases e : j = k
  · subst e; unfold De.okAt; rw [hd, hp]; exact hg
  · exact h j (by omega)

theorem amt_of_ok {L : List De.Dbt} {next : Int} (h : ∀ j, j < L.length → De.okAt L next j) : ∀ d ∈ L, 0 ≤ d.amt ∧ d.amt ≤ 68719476736 := fun d hd => by
  have := ((De.asc_of_ok h).2 d hd).2.2
  unfold De.good at this
  omega

theorem right_of {farm next : Int} {L : List De.Dbt} (h1 : 1 ≤ farm ∧ farm ≤ 60) (h2 : L.length ≤ 40) (h3 : 1 ≤ next ∧ next ≤ 1125899906842624) (h4 : ∀ j, j < L.length → De.okAt L next j) (h5 : De.total L ≤ 68719476736) : De.Right farm L next :=
  ⟨h1, h2, h3, (De.asc_of_ok h4).1, (De.asc_of_ok h4).2, h5⟩

theorem chk_head {farm next : Int} {L : List De.Dbt} (h : farm < 1 ∨ 60 < farm ∨ 40 < L.length ∨ next < 1 ∨ 1125899906842624 < next) : De.chk farm L next = 22 :=
  De.chk_bad fun hR => by have := hR.fm; have := hR.len; have := hR.nx; omega

set_option maxRecDepth 100000 in
set_option maxHeartbeats 4000000 in
theorem check39_any (farm next : Int) (p : Option Addr) (L : List De.Dbt) (cap : Nat) (w : World) (h : Debts w p L) :
    Calls Try.prog 30 #[accV farm p L.length cap next] w fun e w' => e = .returned (.int .i64 (De.chk farm L next)) ∧ Below w.heap.size w w' := by
  unfold accV
  have hn := h.len
  by_cases hh : farm < 1 ∨ 60 < farm ∨ 40 < L.length ∨ next < 1 ∨ 1125899906842624 < next
  · rw [chk_head hh]
    clear h
    rcases (show farm < 1 ∨ (1 ≤ farm ∧ 60 < farm) ∨ (1 ≤ farm ∧ farm ≤ 60 ∧ 40 < L.length) ∨ (1 ≤ farm ∧ farm ≤ 60 ∧ L.length ≤ 40 ∧ next < 1) ∨ (1 ≤ farm ∧ farm ≤ 60 ∧ L.length ≤ 40 ∧ 1 ≤ next ∧ 1125899906842624 < next) by omega) with h1 | ⟨h1, h2⟩ | ⟨h1, h2, h3⟩ | ⟨h1, h2, h3, h4⟩ | ⟨h1, h2, h3, h4, h5⟩
    all_goals
      clear hh
      go_enter Try.func30, Try.ntmps30
      go_wp2
      go_ret
      exact ⟨rfl, (Below.refl _ _).alloc (Nat.le_refl _) _⟩
  · have f1 : 1 ≤ farm ∧ farm ≤ 60 := by omega
    have f2 : L.length ≤ 40 := by omega
    have f3 : 1 ≤ next ∧ next ≤ 1125899906842624 := by omega
    obtain ⟨f11, f12⟩ := f1
    obtain ⟨f31, f32⟩ := f3
    have H := Lib.hid h
    clear h hh
    go_enter Try.func30, Try.ntmps30
    go_wp2
    go_loopw [3, 33] (fun s i wr => ∃ k : Nat, k ≤ L.length ∧ i = .int .i64 k ∧ s = .int .i64 (De.prv L k) ∧ (∀ j, j < k → De.okAt L next j) ∧ Below (w.heap.size + 1) (w.alloc (Obj.cells #[.int .i64 farm, .slice p L.length cap, .int .i64 next] 42)) wr) (fun _ i _ => L.length - (intOf i).toNat)
    case atStart => exact ⟨0, Nat.zero_le _, rfl, rfl, fun j hj => absurd hj (Nat.not_lt_zero j), Below.refl _ _⟩
    case round =>
      obtain ⟨k, hk, rfl, rfl, hok, hb⟩ := hrel
      have a0 := (hb.cell (p := ⟨w.heap.size, 0, none⟩) (by simp)).trans (show _ = some (Value.int .i64 farm) by go_simp)
      have a1 := (hb.cell (p := ⟨w.heap.size, 1, none⟩) (by simp)).trans (show _ = some (Value.slice p L.length cap) by go_simp)
      have a2 := (hb.cell (p := ⟨w.heap.size, 2, none⟩) (by simp)).trans (show _ = some (Value.int .i64 next) by go_simp)
      have HOK := Lib.hid hok
      have HB := Lib.hid hb
      have hsz := hb.size
      simp only [World.size_alloc] at hsz
      have hlt0 : w.heap.size < wr.heap.size := by omega
      have HH := Lib.hid ((H.out.below ((Below.refl w.heap.size w).alloc (Nat.le_refl _) (Obj.cells #[.int .i64 farm, .slice p L.length cap, .int .i64 next] 42))).below (hb.mono (by simp)))
      have hbe : Below w.heap.size w wr := bnext ((Below.refl w.heap.size w).alloc (Nat.le_refl _) _) (by simp) (hb.mono (by simp))
      have BE := Lib.hid hbe
      obtain ⟨pv, epv⟩ : ∃ x, De.prv L k = x := ⟨_, rfl⟩
      rw [epv]
      have EP := Lib.hid epv
      clear hok hb hbe epv
      by_cases hlt : k < L.length
      · obtain ⟨b, off, d, rfl, hbl, hD, hd⟩ := SD_at HH.out hlt
        obtain ⟨c0, c1, c2, c3, c4⟩ := hD
        have hk0 : (0 : Int) ≤ (k : Int) := Int.natCast_nonneg _
        have hk1 : (k : Int) < (L.length : Int) := by omega
        have bad : ¬ (pv < d.num ∧ d.num < next ∧ De.good d) → De.chk farm L next = 22 := chk_loop hlt hd.out EP.out
        have BAD := Lib.hid bad
        clear bad
        by_cases x1 : d.num ≤ pv
        · have hc := Lib.hid (BAD.out (by omega))
          go_wp2
          go_ret
          exact ⟨by rw [hc.out]; rfl, balloc (Nat.le_refl _) BE.out _⟩
        by_cases x2 : next ≤ d.num
        · have hc := Lib.hid (BAD.out (by omega))
          go_wp2
          go_ret
          exact ⟨by rw [hc.out]; rfl, balloc (Nat.le_refl _) BE.out _⟩
        cases x3 : De.goodB d
        · have hc := Lib.hid (BAD.out (fun hh => by rw [De.goodB_iff.2 hh.2.2] at x3; cases x3))
          go_wp2_with (first | (go_at_call 68; refine (right_any d _).mono ?_; rintro e w1 ⟨rfl, hb1⟩))
          go_ret
          exact ⟨by rw [hc.out]; rfl, bstep (Nat.le_refl _) (balloc (Nat.le_refl _) BE.out _) hb1⟩
        · have NX := Lib.hid (ok_next HOK.out hd.out EP.out ⟨by omega, by omega, De.goodB_iff.1 x3⟩)
          have PS := Lib.hid (prv_succ hd.out)
          go_wp2_with (first | (go_at_call 68; refine (right_any d _).mono ?_; rintro e w1 ⟨rfl, hb1⟩; have d0 := (hb1.cell (p := ⟨wr.heap.size, 0, none⟩) (by simp)).trans (show _ = some (Value.int .i64 d.num) by go_simp)))
          go_roundw
          case rel => exact ⟨k + 1, by omega, by go_num, by rw [PS.out], NX.out, bnext (HB.out.alloc (by omega) _) (by simp; omega) hb1⟩
          case measure => simp [intOf]; omega
      · obtain rfl : k = L.length := by omega
        have ha := amt_of_ok HOK.out
        have AM := Lib.hid (fun W (hW : Debts W p L) => amounts_any p L cap W hW ha (by omega))
        clear ha
        by_cases ht : 68719476736 < De.total L
        · have hc := Lib.hid (show De.chk farm L next = 22 from De.chk_bad fun hR => by have := hR.tot; omega)
          go_wp2_with (first | (go_at_call 69; refine (AM.out _ HH.out).mono ?_; rintro e w1 ⟨rfl, hb1⟩))
          go_ret
          exact ⟨by rw [hc.out]; rfl, bstep (Nat.le_refl _) BE.out hb1⟩
        · have hc := Lib.hid (De.chk_ok (right_of ⟨f11, f12⟩ f2 ⟨f31, f32⟩ HOK.out (by omega)))
          go_wp2_with (first | (go_at_call 69; refine (AM.out _ HH.out).mono ?_; rintro e w1 ⟨rfl, hb1⟩))
          go_ret
          exact ⟨by rw [hc.out]; rfl, bstep (Nat.le_refl _) BE.out hb1⟩

end Go.Proofs.Ytdnddikchchdkaa
