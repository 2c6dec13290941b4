/-
  THE WALK over the reference's Same, of equal lines.
-/
import Derived.Test.YtndikbpmhlhgfaaDoorW6
import Derived.Deep.QuietTactic
import Derived.BigQuiet
namespace Go.Proofs.YtndikbpmhlhgfaaDoor
open Go.RowKit

def YesB (w : World) (e : Ending) (w' : World) : Prop := e = .returned (.bool true) ∧ Below w.heap.size w w'

theorem beq_self (a : ByteArray) : (a.toList == a.toList) = true := by simp

set_option maxRecDepth 100000 in
set_option maxHeartbeats 4000000 in
theorem same02_any (LL : List (List ByteArray)) (p1 p2 : Option Addr) (c1 c2 : Nat) (w : World) (h1 : LinesAt w p1 LL) (h2 : LinesAt w p2 LL) :
    Calls Tryd.prog 15 #[.slice p1 LL.length c1, .slice p2 LL.length c2] w (YesB w) := by
  have hlL : LL.length ≤ 9223372036854775807 := by obtain ⟨H, e, hr, -⟩ := h1; have := hr.len; omega
  have H1 := Lib.hid h1
  have H2 := Lib.hid h2
  have hne : ((LL.length : Int) != (LL.length : Int)) = false := by simp
  clear h1 h2
  go_enter Tryd.func15, Tryd.ntmps15
  go_wp2
  clear hne
  go_loopw [14] (fun i wr => ∃ k : Nat, k ≤ LL.length ∧ i = .int .i64 k ∧ Below w.heap.size w wr) (fun i _ => LL.length - (intOf i).toNat)
  case atStart => exact ⟨0, Nat.zero_le _, rfl, Below.refl _ _⟩
  case round =>
    obtain ⟨wo, rfl⟩ : ∃ wo : World, wo = wr := ⟨_, rfl⟩
    obtain ⟨k, hk, rfl, hb⟩ := hrel
    have hk0 : (0 : Int) ≤ (k : Int) := Int.natCast_nonneg _
    by_cases hlt : k < LL.length
    · have hk1 : (k : Int) < (LL.length : Int) := by omega
      obtain ⟨b1, o1, q1, n1, d1, rfl, hl1, hc1, rfl, hr1, hn1, -⟩ := (H1.out.below hb).at hlt
      obtain ⟨b2, o2, q2, n2, d2, rfl, hl2, hc2, rfl, hr2, hn2, -⟩ := (H2.out.below hb).at hlt
      obtain ⟨ws, ews⟩ : ∃ x, LL[k] = x := ⟨_, rfl⟩
      rw [ews] at hc1 hc2 hr1 hr2
      clear ews
      have hlw := hr1.len
      have HR1 := Lib.hid hr1
      have HR2 := Lib.hid hr2
      have HB := Lib.hid hb
      have hne : ((ws.length : Int) != (ws.length : Int)) = false := by simp
      clear hr1 hr2 hb hl1 hl2
      go_wp2_with fail
      go_quiet (fail)
      have hd : Below wo.heap.size wo (wo.drewN nq) := drewN_below _ _
      have HD := Lib.hid hd
      have e1 := hc1
      have e2 := hc2
      have C1 := Lib.hid e1
      have C2 := Lib.hid e2
      clear hd e1 e2
      go_wp2
      clear hc1 hc2
      have L1 := Lib.hid (World.block_lt_of_cell? _ _ C1.out)
      have L2 := Lib.hid (World.block_lt_of_cell? _ _ C2.out)
      go_loopw [33] (fun i wr => ∃ j : Nat, j ≤ ws.length ∧ i = .int .i64 j ∧ Below wo.heap.size wo wr) (fun i _ => ws.length - (intOf i).toNat)
      case atStart => exact ⟨0, Nat.zero_le _, rfl, HD.out⟩
      case round =>
        obtain ⟨wi, rfl⟩ : ∃ wi : World, wi = wr := ⟨_, rfl⟩
        obtain ⟨j, hj, rfl, hb2⟩ := hrel
        have hj0 : (0 : Int) ≤ (j : Int) := Int.natCast_nonneg _
        by_cases hlt2 : j < ws.length
        · have hj1 : (j : Int) < (ws.length : Int) := by omega
          obtain ⟨x1, y1, rfl, hx1, hw1⟩ := (HR1.out.below hb2).word hlt2
          obtain ⟨x2, y2, rfl, hx2, hw2⟩ := (HR2.out.below hb2).word hlt2
          obtain ⟨sw, esw⟩ : ∃ x, ws[j] = x := ⟨_, rfl⟩
          rw [esw] at hw1 hw2
          clear esw
          have g1 := (hb2.cell (p := ⟨b1, o1 + k, none⟩) L1.out).trans C1.out
          have g2 := (hb2.cell (p := ⟨b2, o2 + k, none⟩) L2.out).trans C2.out
          have hss := beq_self sw
          have HB2 := Lib.hid hb2
          clear hb2 hx1 hx2
          go_wp2_with fail
          go_quiet (fail)
          go_wp2
          go_roundw
          case rel => exact ⟨j + 1, by omega, by go_num, bst (Nat.le_refl _) HB2.out (drewN_below _ _)⟩
          case measure => simp [intOf]; omega
        · obtain rfl : j = ws.length := by omega
          go_wp2
          go_roundw
          case rel => exact ⟨k + 1, by omega, by go_num, HB.out.trans (hb2.mono HB.out.size)⟩
          case measure => simp [intOf]; omega
    · obtain rfl : k = LL.length := by omega
      go_wp2
      go_ret
      exact ⟨rfl, hb⟩

end Go.Proofs.YtndikbpmhlhgfaaDoor
