/-
  MERGED (mergek.py): the texts K11, K12.
-/
import Derived.Test.YtcghhagnibabeaaGreatDoorMC
import Derived.Test.YtcghhagnibabeaaGreatDoorME
import Derived.Deep.QuietTactic
import Derived.Test.YtcghhagnibabeaaGreatDoorHi

namespace Go.Proofs.YtcghhagnibabeaaGreatDoor
open Go.RowKit Cr

set_option maxRecDepth 100000 in
set_option maxHeartbeats 2000000 in
theorem refsame12_any (L : List Crp) (p1 p2 : Option Addr) (c1 c2 : Nat) (w : World) (h1 : Crops w p1 L) (h2 : Crops w p2 L) :
    Calls Tryz.prog 17 #[.slice p1 L.length c1, .slice p2 L.length c2] w (fun e w' => e = .returned (.bool true) ∧ Below w.heap.size w w') := by
  have hn := h1.len
  have H1 := Lib.hid h1
  have H2 := Lib.hid h2
  have hne : ((L.length : Int) != (L.length : Int)) = false := by simp
  clear h1 h2
  go_enter Tryz.func17, Tryz.ntmps17
  go_wp2
  clear hne
  go_loopw [13] (fun i wr => ∃ k : Nat, k ≤ L.length ∧ i = .int .i64 k ∧ Below w.heap.size w wr) (fun i _ => L.length - (intOf i).toNat)
  case atStart => exact ⟨0, Nat.zero_le _, rfl, Below.refl _ _⟩
  case round =>
    obtain ⟨wo, rfl⟩ : ∃ wo : World, wo = wr := ⟨_, rfl⟩
    obtain ⟨k, hk, rfl, hb⟩ := hrel
    have HB := Lib.hid hb
    have hk0 : (0 : Int) ≤ (k : Int) := Int.natCast_nonneg _
    by_cases hlt : k < L.length
    · have hk1 : (k : Int) < (L.length : Int) := by omega
      obtain ⟨b1, o1, c, rfl, hl1, hC1, hcc1⟩ := SC_at (H1.out.below hb) hlt
      obtain ⟨b2, o2, d, rfl, hl2, hC2, hcc2⟩ := SC_at (H2.out.below hb) hlt
      obtain rfl : c = d := hcc1.out.symm.trans hcc2.out
      obtain ⟨a0, a1, a2⟩ := hC1
      obtain ⟨d0, d1, d2⟩ := hC2
      obtain ⟨cn, cf, cm⟩ := c
      simp only at a0 a1 a2 d0 d1 d2
      clear hb
      go_wp2_with fail
      go_quiet (fail)
      have hd : Below wo.heap.size wo (wo.drewN nq) := drewN_below _ _
      have HD := Lib.hid (HB.out.trans (hd.mono HB.out.size))
      clear hd
      go_wp2
      go_roundw
      case rel => exact ⟨k + 1, by omega, by go_num, HD.out⟩
      case measure => simp [intOf]; omega
    · obtain rfl : k = L.length := by omega
      clear hb
      go_wp2
      go_ret
      exact ⟨rfl, HB.out⟩

end Go.Proofs.YtcghhagnibabeaaGreatDoor

namespace Go.Proofs.YtcghhagnibabeaaGreatDoor
open Go.RowKit

set_option maxHeartbeats 1000000 in
theorem refints_any (p q : Option Addr) (xs ys : List Int) (c d : Nat) (w : World) (hx : Ints w p xs) (hy : Ints w q ys) :
    Calls Tryz.prog 28 #[.slice p xs.length c, .slice q ys.length d] w fun e w' => e = .returned (.bool (decide (xs = ys))) ∧ ∃ n, w' = w.drewN n := by
  have l1 := hx.len
  have l2 := hy.len
  by_cases hn : xs.length = ys.length
  · have hnB : ((xs.length : Int) != (ys.length : Int)) = false := by rw [hn]; simp
    have Hx := Lib.hid hx
    have Hy := Lib.hid hy
    have Hn := Lib.hid hn
    clear hx hy hn
    go_enter Tryz.func28, Tryz.ntmps28
    go_wp2
    go_loopw [13] (fun i wr => ∃ k : Nat, k ≤ xs.length ∧ i = .int .i64 k ∧ (∀ j, j < k → xs.getD j 0 = ys.getD j 0) ∧ ∃ n, wr = w.drewN n) (fun i _ => xs.length - (intOf i).toNat)
    case atStart => exact ⟨0, Nat.zero_le _, rfl, fun j hj => absurd hj (by omega), 0, rfl⟩
    case round =>
      obtain ⟨k, hk, rfl, hall, n, rfl⟩ := hrel
      have HA := Lib.hid hall
      clear hall
      by_cases hlt : k < xs.length
      · obtain ⟨b, off, x, rfl, hbl, hcx, hx'⟩ := Hx.out.get hlt
        obtain ⟨b', off', y, rfl, hbl', hcy, hy'⟩ := Hy.out.get (k := k) (by have := Hn.out; omega)
        have hk0 : (0 : Int) ≤ (k : Int) := Int.natCast_nonneg _
        have hk1 : (k : Int) < (xs.length : Int) := by omega
        have hk2 : (k : Int) < (ys.length : Int) := by have := Hn.out; omega
        by_cases he : x = y
        · have hb : (x != y) = false := by simp [he]
          have He := Lib.hid he
          clear he
          go_wp2_with fail
          go_quiet (fail)
          go_wp2
          go_roundw
          case rel => exact ⟨k + 1, by omega, by go_num, fun j hj => by
            by_cases e : j = k
            · subst e; rw [hx'.out, hy'.out, He.out]
            · exact HA.out j (by omega), _, rfl⟩
          case measure => simp [intOf]; omega
        · have hb : (x != y) = true := by simp [he]
          have hne : xs ≠ ys := fun e => he (by rw [← hx'.out, ← hy'.out, e])
          have HN := Lib.hid hne
          clear he hne
          go_wp2_with fail
          go_quiet (fail)
          go_wp2
          go_ret
          exact ⟨ret_bool (decide_eq_false HN.out).symm, _, drewN_two _ _ _⟩
      · obtain rfl : k = xs.length := by omega
        have he : xs = ys := by
          apply List.ext_getElem Hn.out
          intro j h1 h2
          have := HA.out j h1
          simpa [List.getD_eq_getElem?_getD, h1, h2] using this
        have HE := Lib.hid he
        clear he
        go_wp2
        go_ret
        exact ⟨ret_bool (decide_eq_true HE.out).symm, n, rfl⟩
  · have hnB : ((xs.length : Int) != (ys.length : Int)) = true := by simp; omega
    have HN := Lib.hid (show ¬ xs = ys from fun e => hn (by rw [e]))
    clear hx hy hn
    go_enter Tryz.func28, Tryz.ntmps28
    go_wp2
    go_ret
    exact ⟨ret_bool (decide_eq_false HN.out).symm, 0, rfl⟩

end Go.Proofs.YtcghhagnibabeaaGreatDoor
