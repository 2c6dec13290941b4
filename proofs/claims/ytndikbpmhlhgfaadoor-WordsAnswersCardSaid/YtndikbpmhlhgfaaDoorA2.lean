/-
  law02's awake: the examples of the chapter.
-/
import Derived.Test.YtndikbpmhlhgfaaDoorA1
import Derived.Test.YtndikbpmhlhgfaaDoorW1
import Derived.Test.YtndikbpmhlhgfaaDoorW2
import Derived.Test.YtndikbpmhlhgfaaDoorW7
namespace Go.Proofs.YtndikbpmhlhgfaaDoor
open Go.RowKit

def SpA (w : World) (e : Ending) (w' : World) : Prop := ∃ p c, e = .returned (.tuple #[.slice p 2 c, .int .i64 0]) ∧ Hid (LinesAt w' p [[⟨#[97]⟩, ⟨#[98]⟩], []]) ∧ Below w.heap.size w w'

theorem awsplit_any (w : World) (hE : Env w) : Calls Tryd.prog 13 #[.string ⟨#[97, 32, 32, 98, 32, 35, 32, 99, 10, 10]⟩] w (SpA w) := by
  refine (split_any ⟨#[97, 32, 32, 98, 32, 35, 32, 99, 10, 10]⟩ w hE (by decide)).mono fun e w' ⟨p, c, h1, h2, _, h4⟩ => ?_
  rw [aw_lines] at h1 h2
  rw [show Wo.sErr (⟨#[97, 32, 32, 98, 32, 35, 32, 99, 10, 10]⟩ : ByteArray).data.toList = 0 from aw_err] at h1
  exact ⟨p, c, h1, Lib.hid h2, h4⟩

def NmA (w : World) (e : Ending) (w' : World) : Prop := ∃ v : Int, e = .returned (.tuple #[.int .i64 v, .bool false]) ∧ Below w.heap.size w w'
theorem awnum_any (w : World) (hE : Env w) : Calls Tryd.prog 18 #[.string ⟨#[48, 48, 55]⟩, .int .i64 0, .int .i64 9] w (NmA w) := by
  refine (number_any ⟨#[48, 48, 55]⟩ 0 9 w hE (by decide)).mono fun e w' ⟨h1, h2⟩ => ⟨Wo.numV (⟨#[48, 48, 55]⟩ : ByteArray).data.toList 0 9, ?_, h2⟩
  rw [h1, show Wo.numB (⟨#[48, 48, 55]⟩ : ByteArray).data.toList 0 9 = false from aw_num]

def JnA (w : World) (e : Ending) (w' : World) : Prop := e = .returned (.tuple #[.string ⟨#[120, 32, 55, 10]⟩, .int .i64 0]) ∧ Below w.heap.size w w'
theorem awjoin_any (p : Option Addr) (c : Nat) (w : World) (h : LinesAt w p [[⟨#[120]⟩, ⟨#[55]⟩]]) : Calls Tryd.prog 20 #[.slice p 1 c] w (JnA w) := by
  refine (join_any [[⟨#[120]⟩, ⟨#[55]⟩]] p c w h (by decide +kernel) (by decide)).mono fun e w' ⟨h1, h2⟩ => ⟨?_, h2⟩
  rw [h1, aw_jerr, aw_jout]

theorem awname_any (w : World) : Calls Tryd.prog 16 #[.string ⟨#[97, 55]⟩] w fun e w' => e = .returned (.bool true) ∧ w = w' :=
  (name_any ⟨#[97, 55]⟩ w (by decide)).mono fun e w' ⟨h1, h2⟩ => ⟨by rw [h1, show Wo.nameB (⟨#[97, 55]⟩ : ByteArray).data.toList = true from aw_name], h2⟩

theorem awdec_any (w : World) (hE : Env w) : Calls Tryd.prog 11 #[.int .i64 (-10)] w fun e w' => e = .returned (.string ⟨#[45, 49, 48]⟩) ∧ Below w.heap.size w w' :=
  (decimal_any (-10) w hE (by decide) (by decide)).mono fun e w' ⟨h1, h2⟩ => ⟨by rw [h1, aw_dec], h2⟩

theorem lit_one (W : World) (x y : ByteArray) : LinesAt ((W.alloc (.cells #[.string x, .string y] 9)).alloc (.cells #[.slice (some ⟨W.heap.size, 0, none⟩) 2 2] 25)) (some ⟨W.heap.size + 1, 0, none⟩) [[x, y]] := by
  have h1 := Recs.lit (S := SB) W 9 [x, y] (by unfold maxLen; simp)
  have h2 := Recs.lit (S := SH) (W.alloc (.cells #[.string x, .string y] 9)) 25 [⟨some ⟨W.heap.size, 0, none⟩, 2, 2⟩] (by unfold maxLen; simp)
  rw [World.size_alloc] at h2
  refine ⟨[⟨some ⟨W.heap.size, 0, none⟩, 2, 2⟩], rfl, h2, fun k hk hk' => ?_⟩
  obtain rfl : k = 0 := by simp at hk; omega
  exact ⟨rfl, h1.below ((Below.refl _ _).alloc (Nat.le_refl _) _), fun h => (by cases h), Nat.le_refl _⟩

theorem lit_two (W : World) (x y : ByteArray) : LinesAt (((W.alloc (.cells #[.string x, .string y] 9)).alloc (.cells #[] 9)).alloc (.cells #[.slice (some ⟨W.heap.size, 0, none⟩) 2 2, .slice (some ⟨W.heap.size + 1, 0, none⟩) 0 0] 25)) (some ⟨W.heap.size + 2, 0, none⟩) [[x, y], []] := by
  have h1 := Recs.lit (S := SB) W 9 [x, y] (by unfold maxLen; simp)
  have h2 := Recs.lit (S := SH) ((W.alloc (.cells #[.string x, .string y] 9)).alloc (.cells #[] 9)) 25 [⟨some ⟨W.heap.size, 0, none⟩, 2, 2⟩, ⟨some ⟨W.heap.size + 1, 0, none⟩, 0, 0⟩] (by unfold maxLen; simp)
  rw [World.size_alloc, World.size_alloc] at h2
  refine ⟨[⟨some ⟨W.heap.size, 0, none⟩, 2, 2⟩, ⟨some ⟨W.heap.size + 1, 0, none⟩, 0, 0⟩], rfl, h2, fun k hk hk' => ?_⟩
  rcases (show k = 0 ∨ k = 1 by simp at hk; omega) with rfl | rfl
  · exact ⟨rfl, (h1.below ((Below.refl _ _).alloc (Nat.le_refl _) _)).below ((Below.refl _ _).alloc (Nat.le_refl _) _), fun h => (by cases h), Nat.le_refl _⟩
  · exact ⟨rfl, Recs.nil _ _, fun h => (by cases h), Nat.le_refl _⟩

set_option maxRecDepth 100000 in
set_option maxHeartbeats 8000000 in
theorem awake02_any (w : World) (hE : Env w) : Calls Tryd.prog 7 #[] w (YesB w) := by
  have HE := Lib.hid hE
  have SP := Lib.hid (awsplit_any w hE)
  clear hE
  go_enter Tryd.func7, Tryd.ntmps7
  go_wp2_with (first
    | (go_at_call 13; refine Calls.mono SP.out ?_; rintro e w1 ⟨p, c, rfl, hL, hb1⟩; clear SP)
    | (go_at_call 18; refine Calls.mono (awnum_any w1 (HE.out.below hb1)) ?_; rintro e w2 ⟨v, rfl, hb2⟩)
    | (go_at_call 20; (with_reducible refine Calls.mono (awjoin_any _ _ _ (lit_one w2 _ _)) ?_); rintro e w3 ⟨rfl, hb3⟩; have hbA : Below w1.heap.size w1 w3 := hb2.trans (((((Below.refl _ _).alloc (Nat.le_refl _) _).alloc (by simp) _).trans (hb3.mono (by simp <;> omega))).mono hb2.size))
    | (go_at_call 15; refine Calls.mono (same02_any [[⟨#[97]⟩, ⟨#[98]⟩], []] p _ c 2 _ (hL.out.below (hbA.trans (((((Below.refl _ _).alloc (Nat.le_refl _) _).alloc (by simp) _).alloc (by simp <;> omega) _).mono hbA.size))) (lit_two w3 _ _)) ?_; rintro e w4 ⟨rfl, hb4⟩; have hbB : Below w3.heap.size w3 w4 := ((((Below.refl _ _).alloc (Nat.le_refl _) _).alloc (by simp) _).alloc (by simp <;> omega) _).trans (hb4.mono (by simp <;> omega)); have hbC : Below w.heap.size w w4 := hb1.trans ((hbA.trans (hbB.mono hbA.size)).mono hb1.size))
    | (go_at_call 16; refine Calls.mono (awname_any w4) ?_; rintro e w5 ⟨rfl, rfl⟩)
    | (go_at_call 11; refine Calls.mono (awdec_any w4 (HE.out.below hbC)) ?_; rintro e w6 ⟨rfl, hb6⟩))
  go_ret
  exact ⟨rfl, hbC.trans (hb6.mono hbC.size)⟩
end Go.Proofs.YtndikbpmhlhgfaaDoor
