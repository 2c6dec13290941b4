/-
  THE WALK over ref24.Ints; steps of worlds.
-/
import Derived.Test.YtmgdbbmheiligaaEs
namespace Go.Proofs.Ytmgdbbmheiligaa
open Go.RowKit

theorem bstep {B : Nat} {w w1 w2 : World} (hs : B ≤ w.heap.size) (h : Below B w w1) (h2 : Below w1.heap.size w1 w2) : Below B w w2 := bnext h (Nat.le_trans hs h.size) h2

theorem balloc {B : Nat} {w w1 : World} (hs : B ≤ w.heap.size) (h : Below B w w1) (o : Obj) : Below B w (w1.alloc o) := h.alloc (Nat.le_trans hs h.size) o

set_option maxHeartbeats 1000000 in
theorem refints24_any (p q : Option Addr) (xs ys : List Int) (c d : Nat) (w : World) (hx : Ints w p xs) (hy : Ints w q ys) :
    Calls Try.prog 42 #[.slice p xs.length c, .slice q ys.length d] w fun e w' => e = .returned (.bool (decide (xs = ys))) ∧ ∃ n, w' = w.drewN n := by
  have l1 := hx.len
  have l2 := hy.len
  by_cases hn : xs.length = ys.length
  · have hnB : ((xs.length : Int) != (ys.length : Int)) = false := by rw [hn]; simp
    have Hx := Lib.hid hx
    have Hy := Lib.hid hy
    have Hn := Lib.hid hn
    clear hx hy hn
    go_enter Try.func42, Try.ntmps42
    go_wp2
    go_loopw [5] (fun i wr => ∃ k : Nat, k ≤ xs.length ∧ i = .int .i64 k ∧ (∀ j, j < k → xs.getD j 0 = ys.getD j 0) ∧ ∃ n, wr = w.drewN n) (fun i _ => xs.length - (intOf i).toNat)
    case atStart => exact ⟨0, Nat.zero_le _, rfl, fun j hj => absurd hj (by omega), 0, rfl⟩
    case round =>
      obtain ⟨k, hk, rfl, hall, n, rfl⟩ := hrel
      have HA := Lib.hid hall
      clear hall
      by_cases hlt : k < xs.length
      · obtain ⟨b, off, x, rfl, hbl, hcx, hx'⟩ := Hx.out.get hlt
        obtain ⟨b', off', y, rfl, hbl', hcy, hy'⟩ := Hy.out.get (k := k) (by have := Hn.out; omega)
        have hk0 : (0 : Int) ≤ (k : Int) := Int.natCast_nonneg _
        have hk1 : (k : Int) < (xs.length : Int) := by omega
        have hk2 : (k : Int) < (ys.length : Int) := by have := Hn.out; omega
        by_cases he : x = y
        · have hb : (x != y) = false := by simp [he]
          have He := Lib.hid he
          clear he
          go_wp2_with fail
          go_quiet (fail)
          go_wp2
          go_roundw
          case rel => exact ⟨k + 1, by omega, by go_num, fun j hj => by
            by_cases e : j = k
            · subst e; rw [hx'.out, hy'.out, He.out]
            · exact HA.out j (by omega), _, rfl⟩
          case measure => simp [intOf]; omega
        · have hb : (x != y) = true := by simp [he]
          have hne : xs ≠ ys := fun e => he (by rw [← hx'.out, ← hy'.out, e])
          have HN := Lib.hid hne
          clear he hne
          go_wp2_with fail
          go_quiet (fail)
          go_wp2
          go_ret
          exact ⟨ret_bool (decide_eq_false HN.out).symm, _, drewN_two _ _ _⟩
      · obtain rfl : k = xs.length := by omega
        have he : xs = ys := by
          apply List.ext_getElem Hn.out
          intro j h1 h2
          have := HA.out j h1
          simpa [List.getD_eq_getElem?_getD, h1, h2] using this
        have HE := Lib.hid he
        clear he
        go_wp2
        go_ret
        exact ⟨ret_bool (decide_eq_true HE.out).symm, n, rfl⟩
  · have hnB : ((xs.length : Int) != (ys.length : Int)) = true := by simp; omega
    have HN := Lib.hid (show ¬ xs = ys from fun e => hn (by rw [e]))
    clear hx hy hn
    go_enter Try.func42, Try.ntmps42
    go_wp2
    go_ret
    exact ⟨ret_bool (decide_eq_false HN.out).symm, 0, rfl⟩


end Go.Proofs.Ytmgdbbmheiligaa
