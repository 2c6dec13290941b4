/-
  THE WALK over law12.awake.
-/
import Derived.Test.YtcghhagnibabeaaGreatDoorMF
import Derived.Test.YtcghhagnibabeaaGreatDoorMC
namespace Go.Proofs.YtcghhagnibabeaaGreatDoor
open Go.RowKit Cr

def awL : List Crp := [⟨⟨#[99, 108, 111, 118, 101, 114]⟩, 7, 20⟩, ⟨⟨#[119, 104, 101, 97, 116]⟩, 3, 0⟩]

set_option maxRecDepth 100000 in
theorem aw_parse : parse ⟨#[99, 114, 111, 112, 32, 119, 104, 101, 97, 116, 32, 51, 32, 45, 10, 99, 114, 111, 112, 32, 99, 108, 111, 118, 101, 114, 32, 55, 32, 99, 108, 10]⟩ = (awL, 0, 0) := by kernel_rfl
theorem aw_find : find awL ⟨#[119, 104, 101, 97, 116]⟩ = 1 := by kernel_rfl
theorem aw_has0 : hasB awL 0 4 = true := by kernel_rfl
theorem aw_has1 : hasB awL 1 4 = false := by kernel_rfl

set_option maxRecDepth 100000 in
set_option maxHeartbeats 4000000 in
theorem awake12_any (w : World) (hE : Env w) : Calls Tryz.prog 14 #[] w fun e w' => e = .returned (.bool true) ∧ Below w.heap.size w w' := by
  have PA := Lib.hid (parse12_any ⟨#[99, 114, 111, 112, 32, 119, 104, 101, 97, 116, 32, 51, 32, 45, 10, 99, 114, 111, 112, 32, 99, 108, 111, 118, 101, 114, 32, 55, 32, 99, 108, 10]⟩ w hE (by show 32 ≤ _; omega))
  rw [aw_parse] at PA
  unfold ParseGive at PA
  clear hE
  go_enter Tryz.func14, Tryz.ntmps14
  go_wp2_with fail
  (with_reducible refine Calls.mono PA.out ?_)
  rintro e w1 ⟨p, c, rfl, hC, hb1⟩
  have HC := Lib.hid hC
  have HB1 := Lib.hid hb1
  obtain ⟨b, off, x, rfl, hbl, ⟨c0, c1, c2⟩, hx⟩ := SC_at hC (k := 0) (by decide)
  have ex : x = ⟨⟨#[99, 108, 111, 118, 101, 114]⟩, 7, 20⟩ := hx.out.symm
  subst ex
  simp only [Nat.zero_mul, Nat.add_zero] at c0 c1 c2
  have FD := Lib.hid (fun (W : World) (h : Below w1.heap.size w1 W) => show Calls Tryz.prog 12 #[.slice (some ⟨b, off, none⟩) 2 c, .string ⟨#[119, 104, 101, 97, 116]⟩] W (fun e w' => e = .returned (.int .i64 1) ∧ Below W.heap.size W w') from aw_find ▸ find_any (some ⟨b, off, none⟩) awL c ⟨#[119, 104, 101, 97, 116]⟩ W (HC.out.below h))
  have H0 := Lib.hid (fun (W : World) (h : Below w1.heap.size w1 W) => show Calls Tryz.prog 13 #[.slice (some ⟨b, off, none⟩) 2 c, .int .i64 0, .int .i64 4] W (fun e w' => e = .returned (.bool true) ∧ W = w') from by
    have := (has_both (some ⟨b, off, none⟩) awL c 0 4 W (HC.out.below h)).1
    unfold HasGive at this
    rw [aw_has0] at this
    exact this)
  have H1 := Lib.hid (fun (W : World) (h : Below w1.heap.size w1 W) => show Calls Tryz.prog 13 #[.slice (some ⟨b, off, none⟩) 2 c, .int .i64 1, .int .i64 4] W (fun e w' => e = .returned (.bool false) ∧ W = w') from by
    have := (has_both (some ⟨b, off, none⟩) awL c 1 4 W (HC.out.below h)).1
    unfold HasGive at this
    rw [aw_has1] at this
    exact this)
  clear hC hb1 hx PA hbl
  rw [show (awL, (0 : Int), (0 : Int)).1.length = 2 from rfl]
  go_wp2_with (first
    | (go_at_call 12; (with_reducible refine Calls.mono (FD.out _ (Below.refl _ _)) ?_); rintro e w2 ⟨rfl, hb2⟩)
    | (go_at_call 13; (with_reducible refine Calls.mono (H0.out _ hb2) ?_); rintro e w3 ⟨rfl, rfl⟩)
    | (go_at_call 13; (with_reducible refine Calls.mono (H1.out _ hb2) ?_); rintro e w4 ⟨rfl, rfl⟩)
    | fail)
  go_ret
  exact ⟨rfl, bstep (Nat.le_refl _) HB1.out hb2⟩
end Go.Proofs.YtcghhagnibabeaaGreatDoor
