/-
  THE WALKS over words.Name and the reference's Name.
-/
import Derived.Test.YtflcdkibjakciaaGreatDoorM7
import Derived.Test.YtflcdkibjakciaaGreatDoorM1
namespace Go.Proofs.YtflcdkibjakciaaGreatDoor
open Go.RowKit

theorem headB_false {l : List UInt8} {k : Nat} (h : Wo.headB (l.take k) = false) : Wo.nameB l = false := by
  have : Wo.headB l = false := by
    cases e : Wo.headB l with
    | false => rfl
    | true =>
      rw [← List.take_append_drop k l] at e
      rw [Wo.headB_prefix e] at h
      cases h
  unfold Wo.nameB
  rw [this]; rfl

theorem ret_b {a b : Bool} (h : a = b) : Ending.returned (.bool a) = .returned (.bool b) := by rw [h]

/-- The five kinds of byte. -/
theorem byte_kinds (c : UInt8) : ((c.toNat : Int) < 48 ∧ Wo.letB c = false ∧ Wo.digB c = false) ∨ (48 ≤ (c.toNat : Int) ∧ (c.toNat : Int) ≤ 57 ∧ Wo.letB c = false ∧ Wo.digB c = true) ∨ (58 ≤ (c.toNat : Int) ∧ (c.toNat : Int) < 97 ∧ Wo.letB c = false ∧ Wo.digB c = false) ∨ (97 ≤ (c.toNat : Int) ∧ (c.toNat : Int) ≤ 122 ∧ Wo.letB c = true ∧ Wo.digB c = false) ∨ (122 < (c.toNat : Int) ∧ Wo.letB c = false ∧ Wo.digB c = false) := by
  simp only [Wo.letB, Wo.digB, Bool.and_eq_true, Bool.and_eq_false_iff, decide_eq_true_eq, decide_eq_false_iff_not]
  omega

def NameGive (l : List UInt8) (w : World) (e : Ending) (w' : World) : Prop := e = .returned (.bool (Wo.nameB l)) ∧ w = w'

set_option maxHeartbeats 2000000 in
theorem name_any (s : ByteArray) (w : World) (hs : s.size ≤ 9223372036854775807) :
    Calls Tryz.prog 59 #[.string s] w (NameGive s.data.toList w) := by
  go_enter Tryz.func59, Tryz.ntmps59
  go_wp2
  go_loop [8] (fun i => ∃ k : Nat, k ≤ s.size ∧ i = .int .i64 k ∧ Wo.headB (s.data.toList.take k) = true) (fun i => s.size - (intOf i).toNat)
  case atStart => exact ⟨0, Nat.zero_le _, rfl, rfl⟩
  case round =>
    obtain ⟨k, hk, rfl, hh⟩ := hrel
    have HH := Lib.hid hh
    clear hh
    have hk0 : (0 : Int) ≤ (k : Int) := Int.natCast_nonneg _
    by_cases hlt : k < s.size
    · have HS := Lib.hid (show Wo.headB (s.data.toList.take (k + 1)) = (Wo.letB s[k] || (decide (0 < k) && Wo.digB s[k])) by
        rw [Wo.take_snoc_bytes s k hlt, Wo.headB_snoc, HH.out, Bool.true_and]
        have : (!(s.data.toList.take k).isEmpty) = decide (0 < k) := by
          rw [Bool.eq_iff_iff]
          simp only [Bool.not_eq_true', List.isEmpty_eq_false_iff, ne_eq, List.take_eq_nil_iff, decide_eq_true_eq, not_or]
          have : s.data.toList ≠ [] := fun e => by have h9 := congrArg List.length e; rw [Array.length_toList] at h9; have : s.size = 0 := h9; omega
          constructor
          · intro h; omega
          · intro h; exact ⟨by omega, this⟩
        rw [this])
      rcases Nat.eq_zero_or_pos k with h0 | hpos
      · have e0 : ((k : Int) == 0) = true := by rw [h0]; rfl
        have HZ := Lib.hid h0
        clear h0
        rcases byte_kinds s[k] with ⟨c1, l1, d1⟩ | ⟨c1, c2, l1, d1⟩ | ⟨c1, c2, l1, d1⟩ | ⟨c1, c2, l1, d1⟩ | ⟨c1, l1, d1⟩
        all_goals
          rw [l1, d1, show decide (0 < k) = false by rw [HZ.out]; rfl] at HS
          clear l1 d1
          first
            | have b2 : decide ((s[k].toNat : Int) ≤ 57) = true := decide_eq_true (by omega)
            | have b2 : decide ((s[k].toNat : Int) ≤ 57) = false := decide_eq_false (by omega)
          first
            | have b3 : decide ((s[k].toNat : Int) ≤ 122) = true := decide_eq_true (by omega)
            | have b3 : decide ((s[k].toNat : Int) ≤ 122) = false := decide_eq_false (by omega)
          go_wp2
          first
            | (go_round
               case rel => exact ⟨k + 1, by omega, by go_num, HS.out⟩
               case measure => simp [intOf]; omega)
            | (go_ret
               exact ⟨ret_b (headB_false HS.out).symm, rfl⟩)
      · have e0 : ((k : Int) == 0) = false := by simp; omega
        have ez : decide (0 < k) = true := by simpa using hpos
        rcases byte_kinds s[k] with ⟨c1, l1, d1⟩ | ⟨c1, c2, l1, d1⟩ | ⟨c1, c2, l1, d1⟩ | ⟨c1, c2, l1, d1⟩ | ⟨c1, l1, d1⟩
        all_goals
          rw [l1, d1, ez] at HS
          clear l1 d1 ez
          first
            | have b2 : decide ((s[k].toNat : Int) ≤ 57) = true := decide_eq_true (by omega)
            | have b2 : decide ((s[k].toNat : Int) ≤ 57) = false := decide_eq_false (by omega)
          first
            | have b3 : decide ((s[k].toNat : Int) ≤ 122) = true := decide_eq_true (by omega)
            | have b3 : decide ((s[k].toNat : Int) ≤ 122) = false := decide_eq_false (by omega)
          go_wp2
          first
            | (go_round
               case rel => exact ⟨k + 1, by omega, by go_num, HS.out⟩
               case measure => simp [intOf]; omega)
            | (go_ret
               exact ⟨ret_b (headB_false HS.out).symm, rfl⟩)
    · obtain rfl : k = s.size := by omega
      have HN := Lib.hid (show Wo.nameB s.data.toList = (decide (1 ≤ s.size) && decide (s.size ≤ 12)) by
        unfold Wo.nameB
        have h := HH.out
        rw [List.take_of_length_le (by rw [Array.length_toList]; exact Nat.le_refl _)] at h
        rw [h, Bool.true_and, Array.length_toList]; rfl)
      by_cases h1 : (1 : Int) ≤ (s.size : Int)
      · by_cases h2 : (s.size : Int) ≤ 12
        all_goals
          go_wp2
          go_ret
          exact ⟨ret_b (by rw [HN.out]; simp <;> omega), rfl⟩
      · go_wp2
        go_ret
        exact ⟨ret_b (by rw [HN.out]; simp <;> omega), rfl⟩

end Go.Proofs.YtflcdkibjakciaaGreatDoor
