/-
  THE WALKS over ref39.Same (of equal accounts) and law39.find.
-/
import Derived.Test.YtdnddikchchdkaaD5
namespace Go.Proofs.Ytdnddikchchdkaa
open Go.RowKit

set_option maxRecDepth 100000 in
set_option maxHeartbeats 2000000 in
theorem same39_any (farm next : Int) (p p' : Option Addr) (L : List De.Dbt) (c c' : Nat) (w : World) (h : Debts w p L) (h' : Debts w p' L) :
    Calls Try.prog 33 #[accV farm p L.length c next, accV farm p' L.length c' next] w fun e w' => e = .returned (.bool true) ∧ Below w.heap.size w w' := by
  unfold accV
  have hn := h.len
  have hb1 : Below w.heap.size w ((w.alloc (Obj.cells #[.int .i64 farm, .slice p L.length c, .int .i64 next] 42)).alloc (Obj.cells #[.int .i64 farm, .slice p' L.length c', .int .i64 next] 42)) := ((Below.refl w.heap.size w).alloc (Nat.le_refl _) _).alloc (by simp) _
  have B1 := Lib.hid hb1
  have H := Lib.hid (h.below hb1)
  have H' := Lib.hid (h'.below hb1)
  have hbx : BoxA ((w.alloc (Obj.cells #[.int .i64 farm, .slice p L.length c, .int .i64 next] 42)).alloc (Obj.cells #[.int .i64 farm, .slice p' L.length c', .int .i64 next] 42)) w.heap.size farm p L.length c next := (BoxA.new w farm p L.length c next 42).below ((Below.refl _ _).alloc (Nat.le_refl _) _) (by simp)
  have hrx : BoxA ((w.alloc (Obj.cells #[.int .i64 farm, .slice p L.length c, .int .i64 next] 42)).alloc (Obj.cells #[.int .i64 farm, .slice p' L.length c', .int .i64 next] 42)) (w.heap.size + 1) farm p' L.length c' next := by
    have := BoxA.new (w.alloc (Obj.cells #[.int .i64 farm, .slice p L.length c, .int .i64 next] 42)) farm p' L.length c' next 42
    rw [World.size_alloc] at this
    exact this
  have BX := Lib.hid hbx
  have RX := Lib.hid hrx
  clear h h' hb1 hbx hrx
  go_enter Try.func33, Try.ntmps33
  go_wp2
  go_loopw [5] (fun i wr => ∃ (k n : Nat), k ≤ L.length ∧ i = .int .i64 k ∧ wr = (((w.alloc (Obj.cells #[.int .i64 farm, .slice p L.length c, .int .i64 next] 42)).alloc (Obj.cells #[.int .i64 farm, .slice p' L.length c', .int .i64 next] 42))).drewN n) (fun i _ => L.length - (intOf i).toNat)
  case atStart => exact ⟨0, 0, Nat.zero_le _, rfl, rfl⟩
  case round =>
    obtain ⟨k, n, hk, rfl, hw⟩ := hrel
    have HW := Lib.hid hw
    have hbw : Below (((w.alloc (Obj.cells #[.int .i64 farm, .slice p L.length c, .int .i64 next] 42)).alloc (Obj.cells #[.int .i64 farm, .slice p' L.length c', .int .i64 next] 42))).heap.size (((w.alloc (Obj.cells #[.int .i64 farm, .slice p L.length c, .int .i64 next] 42)).alloc (Obj.cells #[.int .i64 farm, .slice p' L.length c', .int .i64 next] 42))) wr := by rw [hw]; exact drewN_below _ _
    obtain ⟨a0, a1, a2, -, -, -, -⟩ := BX.out.below hbw BX.out.lt
    obtain ⟨r0, r1, r2, -, -, -, -⟩ := RX.out.below hbw RX.out.lt
    have HH := Lib.hid (H.out.below hbw)
    have HH' := Lib.hid (H'.out.below hbw)
    clear hw hbw
    by_cases hlt : k < L.length
    · obtain ⟨b, off, d, rfl, hbl, hD, hd⟩ := SD_at HH.out hlt
      obtain ⟨b', off', d', rfl, hbl', hD', hd'⟩ := SD_at HH'.out hlt
      obtain rfl : d = d' := by rw [← hd.out, hd'.out]
      obtain ⟨c0, c1, c2, c3, c4⟩ := hD
      obtain ⟨q0, q1, q2, q3, q4⟩ := hD'
      have hk0 : (0 : Int) ≤ (k : Int) := Int.natCast_nonneg _
      have hk1 : (k : Int) < (L.length : Int) := by omega
      clear hd hd'
      go_wp2_with fail
      go_quiet (fail)
      go_wp2
      go_roundw
      case rel => exact ⟨k + 1, _, by omega, by go_num, by rw [HW.out]; exact drewN_two _ _ _⟩
      case measure => simp [intOf]; omega
    · obtain rfl : k = L.length := by omega
      go_wp2
      go_ret
      exact ⟨rfl, by rw [HW.out]; exact bstep (Nat.le_refl _) B1.out (drewN_below _ _)⟩

theorem fnd_at {L : List De.Dbt} {n : Int} {k : Nat} (hk : k < L.length) (hall : ∀ j, j < k → (De.g L j).num ≠ n) (hn : (De.g L k).num = n) : De.fnd L n = (De.g L k).left := by
  induction L generalizing k with
  | nil => simp at hk
  | cons a L ih =>
    unfold De.fnd
    cases k with
    | zero =>
      have h0 : a.num = n := hn
      rw [if_pos h0]; rfl
    | succ k =>
      have h0 : a.num ≠ n := hall 0 (by omega)
      rw [if_neg h0]
      exact ih (k := k) (by simpa using hk) (fun j hj => hall (j + 1) (by omega)) hn

theorem fnd_no {L : List De.Dbt} {n : Int} (hall : ∀ j, j < L.length → (De.g L j).num ≠ n) : De.fnd L n = 0 := De.fnd_none fun d hd => by
  obtain ⟨i, hi, rfl⟩ := De.mem_g hd
  exact hall i hi

set_option maxRecDepth 100000 in
set_option maxHeartbeats 2000000 in
theorem find39_any (farm next : Int) (p : Option Addr) (L : List De.Dbt) (c : Nat) (num : Int) (w : World) (h : Debts w p L) :
    Calls Try.prog 34 #[accV farm p L.length c next, .int .i64 num] w fun e w' => e = .returned (.int .i64 (De.fnd L num)) ∧ Below w.heap.size w w' := by
  unfold accV
  have hn := h.len
  have hb0 : Below w.heap.size w (w.alloc (Obj.cells #[.int .i64 farm, .slice p L.length c, .int .i64 next] 42)) := (Below.refl w.heap.size w).alloc (Nat.le_refl _) _
  have H := Lib.hid (h.below hb0)
  have B0 := Lib.hid hb0
  clear h hb0
  go_enter Try.func34, Try.ntmps34
  go_wp2
  obtain ⟨wz, ez⟩ : ∃ wz : World, wz = (w.alloc (Obj.cells #[.int .i64 farm, .slice p L.length c, .int .i64 next] 42)) := ⟨_, rfl⟩
  rw [← ez] at H B0
  rw [← ez]
  clear ez
  go_loopw [10] (fun i wr => ∃ k : Nat, k ≤ L.length ∧ i = .int .i64 k ∧ (∀ j, j < k → (De.g L j).num ≠ num) ∧ Below wz.heap.size wz wr) (fun i _ => L.length - (intOf i).toNat)
  case atStart => exact ⟨0, Nat.zero_le _, rfl, fun j hj => absurd hj (Nat.not_lt_zero j), Below.refl _ _⟩
  case round =>
    obtain ⟨k, hk, rfl, hall, hb⟩ := hrel
    have HA := Lib.hid hall
    have HB := Lib.hid hb
    have hsz := hb.size
    by_cases hlt : k < L.length
    · obtain ⟨b, off, d, rfl, hbl, hD, hd⟩ := SD_at H.out hlt
      obtain ⟨c0, c1, c2, c3, c4⟩ := hD.below hb hbl
      have hk0 : (0 : Int) ≤ (k : Int) := Int.natCast_nonneg _
      have hk1 : (k : Int) < (L.length : Int) := by omega
      clear hall hb hD
      cases hz : (d.num == num)
      · have HN := Lib.hid (show (De.g L k).num ≠ num by rw [hd.out]; exact beq_eq_false_iff_ne.1 hz)
        go_wp2
        go_roundw
        case rel => exact ⟨k + 1, by omega, by go_num, fun j hj => by
          by_cases e : j = k
          · subst e; exact HN.out
          · exact HA.out j (by omega), HB.out.alloc hsz _⟩
        case measure => simp [intOf]; omega
      · have HN := Lib.hid (show De.fnd L num = d.left by rw [← hd.out]; exact fnd_at hlt HA.out (by rw [hd.out]; exact beq_iff_eq.1 hz))
        go_wp2
        go_ret
        exact ⟨by rw [HN.out]; rfl, bnext B0.out B0.out.size (HB.out.alloc hsz _)⟩
    · obtain rfl : k = L.length := by omega
      have HN := Lib.hid (fnd_no hall)
      clear hall hb
      go_wp2
      go_ret
      exact ⟨by rw [HN.out]; rfl, bnext B0.out B0.out.size HB.out⟩

end Go.Proofs.Ytdnddikchchdkaa
