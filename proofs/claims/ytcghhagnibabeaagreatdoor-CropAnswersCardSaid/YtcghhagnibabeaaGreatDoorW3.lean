/-
  THE WALK over the reference's Name.
-/
import Derived.Test.YtcghhagnibabeaaGreatDoorW2
import Derived.Deep.RegionHeld3
import Derived.Deep.QuietTactic
namespace Go.Proofs.YtcghhagnibabeaaGreatDoor
open Go.RowKit

theorem name_len {l : List UInt8} (h : l.length < 1 ∨ 12 < l.length) : Wo.nameB l = false := by
  unfold Wo.nameB
  have : (decide (1 ≤ l.length) && decide (l.length ≤ 12)) = false := by
    rw [Bool.and_eq_false_iff, decide_eq_false_iff_not, decide_eq_false_iff_not]; omega
  rw [this, Bool.and_false]

set_option maxHeartbeats 2000000 in
theorem refname_any (s : ByteArray) (w : World) (hs : s.size ≤ 9223372036854775807) :
    Calls Tryz.prog 48 #[.string s] w (NameGive s.data.toList w) := by
  have hlen : s.data.toList.length = s.size := by rw [Array.length_toList]; rfl
  by_cases h1 : s.size < 1
  · have HN := Lib.hid (name_len (l := s.data.toList) (.inl (by omega)))
    have h1' : (s.size : Int) < 1 := by omega
    clear h1 hlen
    go_enter Tryz.func48, Tryz.ntmps48
    go_wp2
    go_ret
    exact ⟨ret_b HN.out.symm, rfl⟩
  have g1 : ¬ (s.size : Int) < 1 := by omega
  by_cases h2 : 12 < s.size
  · have HN := Lib.hid (name_len (l := s.data.toList) (.inr (by omega)))
    have h2' : (12 : Int) < (s.size : Int) := by omega
    clear h1 h2 hlen
    go_enter Tryz.func48, Tryz.ntmps48
    go_wp2
    go_ret
    exact ⟨ret_b HN.out.symm, rfl⟩
  have g2 : ¬ (12 : Int) < (s.size : Int) := by omega
  have h0 : 0 < s.size := by omega
  have H1 := Lib.hid (show Wo.headB (s.data.toList.take 1) = Wo.letB s[0] by
    rw [Wo.take_snoc_bytes s 0 h0, Wo.headB_snoc]; simp [Wo.headB])
  have HN := Lib.hid (show Wo.headB s.data.toList = true → Wo.nameB s.data.toList = true by
    intro h
    unfold Wo.nameB
    rw [h, Bool.true_and, Bool.and_eq_true, decide_eq_true_eq, decide_eq_true_eq, hlen]; omega)
  have hlen' := Lib.hid hlen
  clear h1 h2 hlen
  cases hl : Wo.letB s[0]
  · have HF := Lib.hid (headB_false (l := s.data.toList) (k := 1) (by rw [H1.out, hl]))
    rcases byte_kinds s[0] with ⟨c1, l1, d1⟩ | ⟨c1, c2, l1, d1⟩ | ⟨c1, c2, l1, d1⟩ | ⟨c1, c2, l1, d1⟩ | ⟨c1, l1, d1⟩
    all_goals first | (rw [hl] at l1; cases l1; done) | skip
    all_goals
      clear l1 d1 hl
      go_enter Tryz.func48, Tryz.ntmps48
      go_wp2
      go_ret
      exact ⟨ret_b HF.out.symm, rfl⟩
  · have HL := Lib.hid hl
    have hh : 97 ≤ ((s[0]).toNat : Int) ∧ ((s[0]).toNat : Int) ≤ 122 := by
      simp only [Wo.letB, Bool.and_eq_true, decide_eq_true_eq] at hl; exact hl
    obtain ⟨c1, c2⟩ := hh
    clear hl
    go_enter Tryz.func48, Tryz.ntmps48
    go_wp2
    clear c1 c2
    go_loop [3] (fun i => ∃ k : Nat, k ≤ s.size ∧ i = .int .i64 k ∧ Wo.headB (s.data.toList.take k) = true) (fun i => s.size - (intOf i).toNat)
    case atStart => exact ⟨0, Nat.zero_le _, rfl, rfl⟩
    case round =>
      obtain ⟨k, hk, rfl, hh⟩ := hrel
      have HH := Lib.hid hh
      clear hh
      have hk0 : (0 : Int) ≤ (k : Int) := Int.natCast_nonneg _
      by_cases hlt : k < s.size
      · have HS := Lib.hid (show Wo.headB (s.data.toList.take (k + 1)) = (Wo.letB s[k] || Wo.digB s[k]) by
          rcases Nat.eq_zero_or_pos k with h0 | hpos
          · subst h0
            rw [H1.out, HL.out]; rfl
          · rw [Wo.take_snoc_bytes s k hlt, Wo.headB_snoc, HH.out, Bool.true_and]
            have : (s.data.toList.take k).isEmpty = false := by
              rw [List.isEmpty_eq_false_iff, ne_eq, List.take_eq_nil_iff, not_or]
              exact ⟨by omega, fun e => by have h9 : s.data.toList.length = 0 := (by rw [e]; rfl); rw [hlen'.out] at h9; omega⟩
            rw [this]; rfl)
        rcases byte_kinds s[k] with ⟨c1, l1, d1⟩ | ⟨c1, c2, l1, d1⟩ | ⟨c1, c2, l1, d1⟩ | ⟨c1, c2, l1, d1⟩ | ⟨c1, l1, d1⟩
        all_goals
          rw [l1, d1] at HS
          clear l1 d1
          go_wp2
          first
            | (go_round
               case rel => exact ⟨k + 1, by omega, by go_num, HS.out⟩
               case measure => simp [intOf]; omega)
            | (go_ret
               exact ⟨ret_b (headB_false HS.out).symm, rfl⟩)
      · obtain rfl : k = s.size := by omega
        have HE := Lib.hid (HN.out (by have h := HH.out; rwa [List.take_of_length_le (by rw [Array.length_toList]; exact Nat.le_refl _)] at h))
        go_wp2
        go_ret
        exact ⟨ret_b HE.out.symm, rfl⟩

end Go.Proofs.YtcghhagnibabeaaGreatDoor
