/-
  MERGED (mergek.py): the texts K7, K8, K9.
-/
import Derived.Test.YtcghhagnibabeaaGreatDoorMC
import Derived.Test.YtcghhagnibabeaaGreatDoorMA
import Derived.Test.YtcghhagnibabeaaGreatDoorW8
import Derived.Laws.RangeString
import Derived.Test.YtcghhagnibabeaaGreatDoorShelf

namespace Go.Proofs.YtcghhagnibabeaaGreatDoor
open Go.RowKit Cr

theorem bit0 : ∀ m, m < 32 → (bits .and .i64 ((m : Nat) : Int) 1 == 1) = decide (m / 2 ^ 0 % 2 = 1) := by decide +kernel
theorem bit1 : ∀ m, m < 32 → (bits .and .i64 (((m : Nat) : Int) / 2) 1 == 1) = decide (m / 2 ^ 1 % 2 = 1) := by decide +kernel
theorem bit2 : ∀ m, m < 32 → (bits .and .i64 (((m : Nat) : Int) / 4) 1 == 1) = decide (m / 2 ^ 2 % 2 = 1) := by decide +kernel
theorem bit3 : ∀ m, m < 32 → (bits .and .i64 (((m : Nat) : Int) / 8) 1 == 1) = decide (m / 2 ^ 3 % 2 = 1) := by decide +kernel
theorem bit4 : ∀ m, m < 32 → (bits .and .i64 (((m : Nat) : Int) / 16) 1 == 1) = decide (m / 2 ^ 4 % 2 = 1) := by decide +kernel
theorem enc112 : Utf8.encode 112 = ⟨#[112]⟩ := by decide +kernel
theorem enc103 : Utf8.encode 103 = ⟨#[103]⟩ := by decide +kernel
theorem enc99 : Utf8.encode 99 = ⟨#[99]⟩ := by decide +kernel
theorem enc102 : Utf8.encode 102 = ⟨#[102]⟩ := by decide +kernel
theorem enc108 : Utf8.encode 108 = ⟨#[108]⟩ := by decide +kernel

theorem mkTo_len (m : Nat) : ∀ k, (mkTo m k).length ≤ k
  | 0 => by simp [mkTo]
  | k + 1 => by
    have ih := mkTo_len m k
    rw [mkTo_succ, List.length_append]
    split <;> simp <;> omega

theorem Lib.mk_append (x y : List UInt8) : (⟨x.toArray⟩ : ByteArray) ++ ⟨y.toArray⟩ = ⟨(x ++ y).toArray⟩ := ByteArray.mk_append_mk x y

def OrGive (x y : ByteArray) (w : World) (e : Ending) (w' : World) : Prop := e = .returned (.string (if x.toList = [] then y else x)) ∧ w = w'

set_option maxHeartbeats 1000000 in
theorem orstr_any (x y : ByteArray) (b c : Nat) (w : World) (h0 : w.cell? ⟨b, 0, none⟩ = some (.string x)) (h1 : w.cell? ⟨b, 1, none⟩ = some (.string y)) (hy : ¬ y.toList = []) :
    Calls Tryz.prog 52 #[.slice (some ⟨b, 0, none⟩) 2 c] w (OrGive x y w) := by
  have hyb : (y.toList == []) = false := by simpa using hy
  have hye : y.toList.isEmpty = false := by cases h : y.toList with | nil => exact absurd h hy | cons a r => rfl
  by_cases hx : x.toList = []
  · have HF := Lib.hid (show OrGive x y w (.returned (.string y)) w from ⟨by rw [if_pos hx], rfl⟩)
    have hxe : x.toList.isEmpty = true := by rw [hx]; rfl
    go_enter Tryz.func52, Tryz.ntmps52
    go_wp2
    refine wp_loop_rounds 3 ?_
    rw [rounds_succ]
    go_wp2
    rw [rounds_succ]
    go_wp2
    go_ret
    exact HF.out
  · have HF := Lib.hid (show OrGive x y w (.returned (.string x)) w from ⟨by rw [if_neg hx], rfl⟩)
    have hxe : x.toList.isEmpty = false := by cases h : x.toList with | nil => exact absurd h hx | cons a r => rfl
    go_enter Tryz.func52, Tryz.ntmps52
    go_wp2
    refine wp_loop_rounds 3 ?_
    rw [rounds_succ]
    go_wp2
    go_ret
    exact HF.out

def StrGive (l : List UInt8) (w : World) (e : Ending) (w' : World) : Prop := e = .returned (.string ⟨l.toArray⟩) ∧ Below w.heap.size w w'

set_option maxRecDepth 100000 in
set_option maxHeartbeats 4000000 in
theorem marks_any (m : Nat) (hm : m < 32) (w : World) : Calls Tryz.prog 34 #[.int .i64 (m : Int)] w (StrGive (mword m) w) := by
  go_enter Tryz.func34, Tryz.ntmps34
  go_wp2
  go_loopw [3] (fun out wr => ∃ k : Nat, k ≤ 5 ∧ wr = w.iter ⟨#[112, 103, 99, 102, 108]⟩ k ∧ out = .string ⟨(mkTo m k).toArray⟩) (fun _ wr => 5 - wr.iterPos w.heap.size)
  case atStart => exact ⟨0, Nat.zero_le _, rfl, rfl⟩
  case round =>
    obtain ⟨k, hk, rfl, rfl⟩ := hrel
    obtain ⟨S, eS⟩ : ∃ S : ByteArray, (⟨#[112, 103, 99, 102, 108]⟩ : ByteArray) = S := ⟨_, rfl⟩
    obtain ⟨T, eT⟩ : ∃ T : ByteArray, (⟨(mkTo m k).toArray⟩ : ByteArray) = T := ⟨_, rfl⟩
    have hTz : T.size ≤ 5 := by rw [← size_len, ← eT]; exact Nat.le_trans (mkTo_len m k) hk
    rw [eT]
    by_cases hlt : k < 5
    · match k, hlt with
      | 0, _ =>
        have hnx : ∀ ty, (Instr.next (.pointer (some ⟨w.heap.size, 0, none⟩)) true ty).run Tryz.prog (w.iter S 0) = .ok (.tuple #[.bool true, .int .i64 0, .int .i32 112]) (w.iter S 1) := fun ty => eS ▸ run_next_ascii w ⟨#[112, 103, 99, 102, 108]⟩ 0 ty (by decide) (by decide)
        have hsn := mkTo_succ m 0
        have hbit := bit0 m hm
        have he := enc112
        have ES := Lib.hid eS
        cases hd : decide (m / 2 ^ 0 % 2 = 1) with
        | true =>
          have HR := Lib.hid (show (T ++ (⟨#[112]⟩ : ByteArray)) = (⟨(mkTo m 1).toArray⟩ : ByteArray) by
            rw [hsn, if_pos (by simpa using hd), ← eT, Lib.mk_append]; rfl)
          rw [hd] at hbit
          clear eT hsn hd
          rw [eS]
          clear eS
          go_wp2
          go_roundw
          case rel => exact ⟨1, by omega, by first | rfl | rw [ES.out], by rw [HR.out]⟩
          case measure => simp [World.iterPos_iter]
        | false =>
          have HR := Lib.hid (show T = (⟨(mkTo m 1).toArray⟩ : ByteArray) by
            rw [hsn, if_neg (by simpa using hd), ← eT, List.append_nil])
          rw [hd] at hbit
          clear eT hsn hd
          rw [eS]
          clear eS
          go_wp2
          go_roundw
          case rel => exact ⟨1, by omega, by first | rfl | rw [ES.out], by rw [HR.out]⟩
          case measure => simp [World.iterPos_iter]
      | 1, _ =>
        have hnx : ∀ ty, (Instr.next (.pointer (some ⟨w.heap.size, 0, none⟩)) true ty).run Tryz.prog (w.iter S 1) = .ok (.tuple #[.bool true, .int .i64 1, .int .i32 103]) (w.iter S 2) := fun ty => eS ▸ run_next_ascii w ⟨#[112, 103, 99, 102, 108]⟩ 1 ty (by decide) (by decide)
        have hsn := mkTo_succ m 1
        have hbit := bit1 m hm
        have he := enc103
        have ES := Lib.hid eS
        cases hd : decide (m / 2 ^ 1 % 2 = 1) with
        | true =>
          have HR := Lib.hid (show (T ++ (⟨#[103]⟩ : ByteArray)) = (⟨(mkTo m 2).toArray⟩ : ByteArray) by
            rw [hsn, if_pos (by simpa using hd), ← eT, Lib.mk_append]; rfl)
          rw [hd] at hbit
          clear eT hsn hd
          rw [eS]
          clear eS
          go_wp2
          go_roundw
          case rel => exact ⟨2, by omega, by first | rfl | rw [ES.out], by rw [HR.out]⟩
          case measure => simp [World.iterPos_iter]
        | false =>
          have HR := Lib.hid (show T = (⟨(mkTo m 2).toArray⟩ : ByteArray) by
            rw [hsn, if_neg (by simpa using hd), ← eT, List.append_nil])
          rw [hd] at hbit
          clear eT hsn hd
          rw [eS]
          clear eS
          go_wp2
          go_roundw
          case rel => exact ⟨2, by omega, by first | rfl | rw [ES.out], by rw [HR.out]⟩
          case measure => simp [World.iterPos_iter]
      | 2, _ =>
        have hnx : ∀ ty, (Instr.next (.pointer (some ⟨w.heap.size, 0, none⟩)) true ty).run Tryz.prog (w.iter S 2) = .ok (.tuple #[.bool true, .int .i64 2, .int .i32 99]) (w.iter S 3) := fun ty => eS ▸ run_next_ascii w ⟨#[112, 103, 99, 102, 108]⟩ 2 ty (by decide) (by decide)
        have hsn := mkTo_succ m 2
        have hbit := bit2 m hm
        have he := enc99
        have ES := Lib.hid eS
        cases hd : decide (m / 2 ^ 2 % 2 = 1) with
        | true =>
          have HR := Lib.hid (show (T ++ (⟨#[99]⟩ : ByteArray)) = (⟨(mkTo m 3).toArray⟩ : ByteArray) by
            rw [hsn, if_pos (by simpa using hd), ← eT, Lib.mk_append]; rfl)
          rw [hd] at hbit
          clear eT hsn hd
          rw [eS]
          clear eS
          go_wp2
          go_roundw
          case rel => exact ⟨3, by omega, by first | rfl | rw [ES.out], by rw [HR.out]⟩
          case measure => simp [World.iterPos_iter]
        | false =>
          have HR := Lib.hid (show T = (⟨(mkTo m 3).toArray⟩ : ByteArray) by
            rw [hsn, if_neg (by simpa using hd), ← eT, List.append_nil])
          rw [hd] at hbit
          clear eT hsn hd
          rw [eS]
          clear eS
          go_wp2
          go_roundw
          case rel => exact ⟨3, by omega, by first | rfl | rw [ES.out], by rw [HR.out]⟩
          case measure => simp [World.iterPos_iter]
      | 3, _ =>
        have hnx : ∀ ty, (Instr.next (.pointer (some ⟨w.heap.size, 0, none⟩)) true ty).run Tryz.prog (w.iter S 3) = .ok (.tuple #[.bool true, .int .i64 3, .int .i32 102]) (w.iter S 4) := fun ty => eS ▸ run_next_ascii w ⟨#[112, 103, 99, 102, 108]⟩ 3 ty (by decide) (by decide)
        have hsn := mkTo_succ m 3
        have hbit := bit3 m hm
        have he := enc102
        have ES := Lib.hid eS
        cases hd : decide (m / 2 ^ 3 % 2 = 1) with
        | true =>
          have HR := Lib.hid (show (T ++ (⟨#[102]⟩ : ByteArray)) = (⟨(mkTo m 4).toArray⟩ : ByteArray) by
            rw [hsn, if_pos (by simpa using hd), ← eT, Lib.mk_append]; rfl)
          rw [hd] at hbit
          clear eT hsn hd
          rw [eS]
          clear eS
          go_wp2
          go_roundw
          case rel => exact ⟨4, by omega, by first | rfl | rw [ES.out], by rw [HR.out]⟩
          case measure => simp [World.iterPos_iter]
        | false =>
          have HR := Lib.hid (show T = (⟨(mkTo m 4).toArray⟩ : ByteArray) by
            rw [hsn, if_neg (by simpa using hd), ← eT, List.append_nil])
          rw [hd] at hbit
          clear eT hsn hd
          rw [eS]
          clear eS
          go_wp2
          go_roundw
          case rel => exact ⟨4, by omega, by first | rfl | rw [ES.out], by rw [HR.out]⟩
          case measure => simp [World.iterPos_iter]
      | 4, _ =>
        have hnx : ∀ ty, (Instr.next (.pointer (some ⟨w.heap.size, 0, none⟩)) true ty).run Tryz.prog (w.iter S 4) = .ok (.tuple #[.bool true, .int .i64 4, .int .i32 108]) (w.iter S 5) := fun ty => eS ▸ run_next_ascii w ⟨#[112, 103, 99, 102, 108]⟩ 4 ty (by decide) (by decide)
        have hsn := mkTo_succ m 4
        have hbit := bit4 m hm
        have he := enc108
        have ES := Lib.hid eS
        cases hd : decide (m / 2 ^ 4 % 2 = 1) with
        | true =>
          have HR := Lib.hid (show (T ++ (⟨#[108]⟩ : ByteArray)) = (⟨(mkTo m 5).toArray⟩ : ByteArray) by
            rw [hsn, if_pos (by simpa using hd), ← eT, Lib.mk_append]; rfl)
          rw [hd] at hbit
          clear eT hsn hd
          rw [eS]
          clear eS
          go_wp2
          go_roundw
          case rel => exact ⟨5, by omega, by first | rfl | rw [ES.out], by rw [HR.out]⟩
          case measure => simp [World.iterPos_iter]
        | false =>
          have HR := Lib.hid (show T = (⟨(mkTo m 5).toArray⟩ : ByteArray) by
            rw [hsn, if_neg (by simpa using hd), ← eT, List.append_nil])
          rw [hd] at hbit
          clear eT hsn hd
          rw [eS]
          clear eS
          go_wp2
          go_roundw
          case rel => exact ⟨5, by omega, by first | rfl | rw [ES.out], by rw [HR.out]⟩
          case measure => simp [World.iterPos_iter]
      | k + 5, h => exact absurd h (by omega)
    · obtain rfl : k = 5 := by omega
      have hnx : ∀ ty, (Instr.next (.pointer (some ⟨w.heap.size, 0, none⟩)) true ty).run Tryz.prog (w.iter S 5) = .ok (.tuple #[.bool false]) (w.iter S 5) := fun ty => eS ▸ run_next_end w ⟨#[112, 103, 99, 102, 108]⟩ 5 ty (by decide)
      have HF := Lib.hid (show (if T.toList = [] then (⟨#[45]⟩ : ByteArray) else T) = ⟨(mword m).toArray⟩ by
        rw [ByteArray.toList_eq, ← eT]
        unfold mword
        by_cases h : mkTo m 5 = []
        · rw [if_pos h, if_pos h]
        · rw [if_neg h, if_neg h])
      have ES := Lib.hid eS
      have OC := Lib.hid (fun (W : World) => show Calls Tryz.prog 52 #[.slice (some ⟨W.heap.size, 0, none⟩) 2 2] (W.alloc (.cells #[.string T, .string ⟨#[45]⟩] 9)) (fun e w' => e = .returned (.string ⟨(mword m).toArray⟩) ∧ (W.alloc (.cells #[.string T, .string ⟨#[45]⟩] 9)) = w') by
        have := orstr_any T ⟨#[45]⟩ W.heap.size 2 (W.alloc (.cells #[.string T, .string ⟨#[45]⟩] 9)) (World.cell?_alloc_new W _ _ 0) (World.cell?_alloc_new W _ _ 1) (by rw [ByteArray.toList_eq]; simp)
        unfold OrGive at this
        rw [HF.out] at this
        exact this)
      have HBW := Lib.hid (show Below w.heap.size w ((w.iter S 5).alloc (.cells #[.string T, .string ⟨#[45]⟩] 9)) from ((Below.refl w.heap.size w).alloc (Nat.le_refl _) _).alloc (by simp) _)
      rw [eS]
      clear eS eT
      go_wp2_with fail
      (with_reducible refine Calls.mono (OC.out _) ?_)
      rintro e w1 ⟨rfl, rfl⟩
      go_wp2
      go_ret
      exact ⟨rfl, HBW.out⟩
end Go.Proofs.YtcghhagnibabeaaGreatDoor

namespace Go.Proofs.YtcghhagnibabeaaGreatDoor
open Go.RowKit Cr

theorem ext112 : (⟨#[112, 103, 99, 102, 108]⟩ : ByteArray).extract 0 1 = ⟨#[112]⟩ := by decide +kernel
theorem ext103 : (⟨#[112, 103, 99, 102, 108]⟩ : ByteArray).extract 1 2 = ⟨#[103]⟩ := by decide +kernel
theorem ext99 : (⟨#[112, 103, 99, 102, 108]⟩ : ByteArray).extract 2 3 = ⟨#[99]⟩ := by decide +kernel
theorem ext102 : (⟨#[112, 103, 99, 102, 108]⟩ : ByteArray).extract 3 4 = ⟨#[102]⟩ := by decide +kernel
theorem ext108 : (⟨#[112, 103, 99, 102, 108]⟩ : ByteArray).extract 4 5 = ⟨#[108]⟩ := by decide +kernel

set_option maxRecDepth 100000 in
set_option maxHeartbeats 4000000 in
theorem refmarks_any (m : Nat) (hm : m < 32) (w : World) : Calls Tryz.prog 43 #[.int .i64 (m : Int)] w (StrGive (mword m) w) := by
  go_enter Tryz.func43, Tryz.ntmps43
  go_wp2
  go_loop [3, 4] (fun out i => ∃ k : Nat, k ≤ 5 ∧ i = .int .i64 k ∧ out = .string ⟨(mkTo m k).toArray⟩) (fun _ i => 5 - (intOf i).toNat)
  case atStart => exact ⟨0, Nat.zero_le _, rfl, rfl⟩
  case round =>
    obtain ⟨k, hk, rfl, rfl⟩ := hrel
    obtain ⟨T, eT⟩ : ∃ T : ByteArray, (⟨(mkTo m k).toArray⟩ : ByteArray) = T := ⟨_, rfl⟩
    have hTz : T.size ≤ 5 := by rw [← size_len, ← eT]; exact Nat.le_trans (mkTo_len m k) hk
    rw [eT]
    match k, hk with
    | 0, _ =>
      have hsn := mkTo_succ m 0
      have hbit := bit0 m hm
      have he := ext112
      cases hd : decide (m / 2 ^ 0 % 2 = 1) with
      | true =>
        have HR := Lib.hid (show (T ++ (⟨#[112]⟩ : ByteArray)) = (⟨(mkTo m 1).toArray⟩ : ByteArray) by
          rw [hsn, if_pos (by simpa using hd), ← eT, Lib.mk_append]; rfl)
        rw [hd] at hbit
        clear eT hsn hd
        go_wp2
        go_round
        case rel => exact ⟨1, by omega, rfl, by rw [HR.out]⟩
        case measure => simp [intOf]
      | false =>
        have HR := Lib.hid (show T = (⟨(mkTo m 1).toArray⟩ : ByteArray) by
          rw [hsn, if_neg (by simpa using hd), ← eT, List.append_nil])
        rw [hd] at hbit
        clear eT hsn hd
        go_wp2
        go_round
        case rel => exact ⟨1, by omega, rfl, by rw [HR.out]⟩
        case measure => simp [intOf]
    | 1, _ =>
      have hsn := mkTo_succ m 1
      have hbit := bit1 m hm
      have he := ext103
      cases hd : decide (m / 2 ^ 1 % 2 = 1) with
      | true =>
        have HR := Lib.hid (show (T ++ (⟨#[103]⟩ : ByteArray)) = (⟨(mkTo m 2).toArray⟩ : ByteArray) by
          rw [hsn, if_pos (by simpa using hd), ← eT, Lib.mk_append]; rfl)
        rw [hd] at hbit
        clear eT hsn hd
        go_wp2
        go_round
        case rel => exact ⟨2, by omega, rfl, by rw [HR.out]⟩
        case measure => simp [intOf]
      | false =>
        have HR := Lib.hid (show T = (⟨(mkTo m 2).toArray⟩ : ByteArray) by
          rw [hsn, if_neg (by simpa using hd), ← eT, List.append_nil])
        rw [hd] at hbit
        clear eT hsn hd
        go_wp2
        go_round
        case rel => exact ⟨2, by omega, rfl, by rw [HR.out]⟩
        case measure => simp [intOf]
    | 2, _ =>
      have hsn := mkTo_succ m 2
      have hbit := bit2 m hm
      have he := ext99
      cases hd : decide (m / 2 ^ 2 % 2 = 1) with
      | true =>
        have HR := Lib.hid (show (T ++ (⟨#[99]⟩ : ByteArray)) = (⟨(mkTo m 3).toArray⟩ : ByteArray) by
          rw [hsn, if_pos (by simpa using hd), ← eT, Lib.mk_append]; rfl)
        rw [hd] at hbit
        clear eT hsn hd
        go_wp2
        go_round
        case rel => exact ⟨3, by omega, rfl, by rw [HR.out]⟩
        case measure => simp [intOf]
      | false =>
        have HR := Lib.hid (show T = (⟨(mkTo m 3).toArray⟩ : ByteArray) by
          rw [hsn, if_neg (by simpa using hd), ← eT, List.append_nil])
        rw [hd] at hbit
        clear eT hsn hd
        go_wp2
        go_round
        case rel => exact ⟨3, by omega, rfl, by rw [HR.out]⟩
        case measure => simp [intOf]
    | 3, _ =>
      have hsn := mkTo_succ m 3
      have hbit := bit3 m hm
      have he := ext102
      cases hd : decide (m / 2 ^ 3 % 2 = 1) with
      | true =>
        have HR := Lib.hid (show (T ++ (⟨#[102]⟩ : ByteArray)) = (⟨(mkTo m 4).toArray⟩ : ByteArray) by
          rw [hsn, if_pos (by simpa using hd), ← eT, Lib.mk_append]; rfl)
        rw [hd] at hbit
        clear eT hsn hd
        go_wp2
        go_round
        case rel => exact ⟨4, by omega, rfl, by rw [HR.out]⟩
        case measure => simp [intOf]
      | false =>
        have HR := Lib.hid (show T = (⟨(mkTo m 4).toArray⟩ : ByteArray) by
          rw [hsn, if_neg (by simpa using hd), ← eT, List.append_nil])
        rw [hd] at hbit
        clear eT hsn hd
        go_wp2
        go_round
        case rel => exact ⟨4, by omega, rfl, by rw [HR.out]⟩
        case measure => simp [intOf]
    | 4, _ =>
      have hsn := mkTo_succ m 4
      have hbit := bit4 m hm
      have he := ext108
      cases hd : decide (m / 2 ^ 4 % 2 = 1) with
      | true =>
        have HR := Lib.hid (show (T ++ (⟨#[108]⟩ : ByteArray)) = (⟨(mkTo m 5).toArray⟩ : ByteArray) by
          rw [hsn, if_pos (by simpa using hd), ← eT, Lib.mk_append]; rfl)
        rw [hd] at hbit
        clear eT hsn hd
        go_wp2
        go_round
        case rel => exact ⟨5, by omega, rfl, by rw [HR.out]⟩
        case measure => simp [intOf]
      | false =>
        have HR := Lib.hid (show T = (⟨(mkTo m 5).toArray⟩ : ByteArray) by
          rw [hsn, if_neg (by simpa using hd), ← eT, List.append_nil])
        rw [hd] at hbit
        clear eT hsn hd
        go_wp2
        go_round
        case rel => exact ⟨5, by omega, rfl, by rw [HR.out]⟩
        case measure => simp [intOf]
    | 5, _ =>
      by_cases h0 : mkTo m 5 = []
      · have hT : T.toList = [] := by rw [ByteArray.toList_eq, ← eT]; exact h0
        have hTe : T.toList.isEmpty = true := by rw [hT]; rfl
        have HF := Lib.hid (show (⟨#[45]⟩ : ByteArray) = ⟨(mword m).toArray⟩ by unfold mword; rw [if_pos h0])
        clear eT h0
        go_wp2
        go_ret
        exact ⟨by rw [← HF.out]; rfl, Below.refl _ _⟩
      · have hT : ¬ T.toList = [] := by rw [ByteArray.toList_eq, ← eT]; exact h0
        have hTe : T.toList.isEmpty = false := by cases h : T.toList with | nil => exact absurd h hT | cons a r => rfl
        have HF := Lib.hid (show T = ⟨(mword m).toArray⟩ by unfold mword; rw [if_neg h0, eT])
        clear eT h0
        go_wp2
        go_ret
        exact ⟨by rw [← HF.out]; rfl, Below.refl _ _⟩
    | k + 6, h => exact absurd h (by omega)

def unmV (s : List UInt8) : Int := match unm s with | some m => (m : Int) | none => 0
def UnmGive (s : List UInt8) (w : World) (e : Ending) (w' : World) : Prop := e = .returned (.tuple #[.int .i64 (unmV s), .bool (unm s).isSome]) ∧ Below w.heap.size w w'

theorem unm_at {s : List UInt8} {k : Nat} (hk : k < 32) (h : mword k = s) : unm s = some k := by rw [← h]; exact unm_mword hk
theorem unm_no {s : List UInt8} (h : ∀ j, j < 32 → mword j ≠ s) : unm s = none := by
  cases e : unm s with
  | none => rfl
  | some m => exact absurd (unm_some e).2 (h m (unm_some e).1)

set_option maxRecDepth 100000 in
set_option maxHeartbeats 4000000 in
theorem unmarks_any (s : ByteArray) (w : World) : Calls Tryz.prog 50 #[.string s] w (UnmGive s.data.toList w) := by
  go_enter Tryz.func50, Tryz.ntmps50
  go_wp2
  go_loopw [4] (fun i wr => ∃ k : Nat, k ≤ 32 ∧ i = .int .i64 k ∧ (∀ j, j < k → mword j ≠ s.data.toList) ∧ Below w.heap.size w wr) (fun i _ => 32 - (intOf i).toNat)
  case atStart => exact ⟨0, Nat.zero_le _, rfl, fun j hj => absurd hj (Nat.not_lt_zero j), Below.refl _ _⟩
  case round =>
    obtain ⟨k, hk, rfl, hall, hb⟩ := hrel
    have HA := Lib.hid hall
    have HB := Lib.hid hb
    have hk0 : (0 : Int) ≤ (k : Int) := Int.natCast_nonneg _
    clear hall hb
    by_cases hlt : k < 32
    · have hk1 : (k : Int) < 32 := by omega
      have MK := Lib.hid (fun (W : World) => refmarks_any k hlt W)
      unfold StrGive at MK
      by_cases he : mword k = s.data.toList
      · have hu := unm_at hlt he
        have HU := Lib.hid (show UnmGive s.data.toList w = fun e w' => e = .returned (.tuple #[.int .i64 (k : Int), .bool true]) ∧ Below w.heap.size w w' by unfold UnmGive unmV; rw [hu]; rfl)
        have eS : (⟨(mword k).toArray⟩ : ByteArray) = s := ba_ext (by rw [he])
        rw [eS] at MK
        clear eS hu he
        go_wp2_with (first | (go_at_call 43; (with_reducible refine Calls.mono (MK.out _) ?_); rintro e w1 ⟨rfl, hb1⟩))
        go_ret2
        rw [HU.out]
        exact ⟨rfl, HB.out.trans (hb1.mono HB.out.size)⟩
      · have HE := Lib.hid he
        have hne : ((⟨(mword k).toArray⟩ : ByteArray).toList == s.toList) = false := by rw [ByteArray.toList_eq, ByteArray.toList_eq]; simpa using he
        obtain ⟨T, eT⟩ : ∃ T : ByteArray, (⟨(mword k).toArray⟩ : ByteArray) = T := ⟨_, rfl⟩
        rw [eT] at hne MK
        clear eT he
        go_wp2_with (first | (go_at_call 43; (with_reducible refine Calls.mono (MK.out _) ?_); rintro e w1 ⟨rfl, hb1⟩))
        go_roundw
        case rel => exact ⟨k + 1, by omega, by go_num, fun j hj => by
          by_cases e : j = k
          · subst e; exact HE.out
          · exact HA.out j (by omega), HB.out.trans (hb1.mono HB.out.size)⟩
        case measure => simp [intOf]; omega
    · obtain rfl : k = 32 := by omega
      have hu := unm_no HA.out
      have HU := Lib.hid (show UnmGive s.data.toList w = fun e w' => e = .returned (.tuple #[.int .i64 0, .bool false]) ∧ Below w.heap.size w w' by unfold UnmGive unmV; rw [hu]; rfl)
      clear hu
      go_wp2
      go_ret2
      rw [HU.out]
      exact ⟨rfl, HB.out⟩
end Go.Proofs.YtcghhagnibabeaaGreatDoor

namespace Go.Proofs.YtcghhagnibabeaaGreatDoor
open Go.RowKit Cr

theorem ix112 : Lib.indexByte [112, 103, 99, 102, 108] 112 = 0 := by decide +kernel
theorem ix103 : Lib.indexByte [112, 103, 99, 102, 108] 103 = 1 := by decide +kernel
theorem ix99 : Lib.indexByte [112, 103, 99, 102, 108] 99 = 2 := by decide +kernel
theorem ix102 : Lib.indexByte [112, 103, 99, 102, 108] 102 = 3 := by decide +kernel
theorem ix108 : Lib.indexByte [112, 103, 99, 102, 108] 108 = 4 := by decide +kernel

theorem ix_none {c : UInt8} (h0 : ¬ c = 112) (h1 : ¬ c = 103) (h2 : ¬ c = 99) (h3 : ¬ c = 102) (h4 : ¬ c = 108) : Lib.indexByte [112, 103, 99, 102, 108] c = -1 := by
  have e : ∀ a : UInt8, ¬ c = a → (a == c) = false := fun a h => by simpa using fun e => h e.symm
  simp [Lib.indexByte, e 112 h0, e 103 h1, e 99 h2, e 102 h3, e 108 h4]

def MarkGive (c : UInt8) (w : World) (e : Ending) (w' : World) : Prop := e = .returned (.int .i64 (markOf c : Int)) ∧ w = w'

set_option maxHeartbeats 2000000 in
theorem mark_any (c : UInt8) (w : World) : Calls Tryz.prog 73 #[.string ⟨#[c]⟩] w (MarkGive c w) := by
  by_cases h0 : c = 112
  · subst h0
    have C := Lib.hid (show ∀ W, Calls Tryz.prog 94 #[.string ⟨#[112, 103, 99, 102, 108]⟩, .string ⟨#[112]⟩] W (fun e w' => e = .returned (.bool true) ∧ w' = W) from fun W => by
      have := Tryz.strings_Contains_one ⟨#[112, 103, 99, 102, 108]⟩ 112 W
      rw [show Lib.indexByte (⟨#[112, 103, 99, 102, 108]⟩ : ByteArray).data.toList 112 = 0 from ix112] at this
      exact this)
    have I := Lib.hid (show ∀ W, Calls Tryz.prog 78 #[.string ⟨#[112, 103, 99, 102, 108]⟩, .string ⟨#[112]⟩] W (fun e w' => e = .returned (.int .i64 0) ∧ w' = W) from fun W => by
      have := Tryz.strings_Index_one ⟨#[112, 103, 99, 102, 108]⟩ 112 W
      rw [show Lib.indexByte (⟨#[112, 103, 99, 102, 108]⟩ : ByteArray).data.toList 112 = 0 from ix112] at this
      exact this)
    go_enter Tryz.func73, Tryz.ntmps73
    go_wp2_with (first
      | (go_at_call 94; (with_reducible refine Calls.mono (C.out _) ?_); rintro e w1 ⟨rfl, hw⟩; obtain rfl := hw.symm)
      | (go_at_call 78; (with_reducible refine Calls.mono (I.out _) ?_); rintro e w1 ⟨rfl, hw⟩; obtain rfl := hw.symm))
    go_ret
    exact ⟨rfl, rfl⟩
  by_cases h1 : c = 103
  · subst h1
    have C := Lib.hid (show ∀ W, Calls Tryz.prog 94 #[.string ⟨#[112, 103, 99, 102, 108]⟩, .string ⟨#[103]⟩] W (fun e w' => e = .returned (.bool true) ∧ w' = W) from fun W => by
      have := Tryz.strings_Contains_one ⟨#[112, 103, 99, 102, 108]⟩ 103 W
      rw [show Lib.indexByte (⟨#[112, 103, 99, 102, 108]⟩ : ByteArray).data.toList 103 = 1 from ix103] at this
      exact this)
    have I := Lib.hid (show ∀ W, Calls Tryz.prog 78 #[.string ⟨#[112, 103, 99, 102, 108]⟩, .string ⟨#[103]⟩] W (fun e w' => e = .returned (.int .i64 1) ∧ w' = W) from fun W => by
      have := Tryz.strings_Index_one ⟨#[112, 103, 99, 102, 108]⟩ 103 W
      rw [show Lib.indexByte (⟨#[112, 103, 99, 102, 108]⟩ : ByteArray).data.toList 103 = 1 from ix103] at this
      exact this)
    go_enter Tryz.func73, Tryz.ntmps73
    go_wp2_with (first
      | (go_at_call 94; (with_reducible refine Calls.mono (C.out _) ?_); rintro e w1 ⟨rfl, hw⟩; obtain rfl := hw.symm)
      | (go_at_call 78; (with_reducible refine Calls.mono (I.out _) ?_); rintro e w1 ⟨rfl, hw⟩; obtain rfl := hw.symm))
    go_ret
    exact ⟨rfl, rfl⟩
  by_cases h2 : c = 99
  · subst h2
    have C := Lib.hid (show ∀ W, Calls Tryz.prog 94 #[.string ⟨#[112, 103, 99, 102, 108]⟩, .string ⟨#[99]⟩] W (fun e w' => e = .returned (.bool true) ∧ w' = W) from fun W => by
      have := Tryz.strings_Contains_one ⟨#[112, 103, 99, 102, 108]⟩ 99 W
      rw [show Lib.indexByte (⟨#[112, 103, 99, 102, 108]⟩ : ByteArray).data.toList 99 = 2 from ix99] at this
      exact this)
    have I := Lib.hid (show ∀ W, Calls Tryz.prog 78 #[.string ⟨#[112, 103, 99, 102, 108]⟩, .string ⟨#[99]⟩] W (fun e w' => e = .returned (.int .i64 2) ∧ w' = W) from fun W => by
      have := Tryz.strings_Index_one ⟨#[112, 103, 99, 102, 108]⟩ 99 W
      rw [show Lib.indexByte (⟨#[112, 103, 99, 102, 108]⟩ : ByteArray).data.toList 99 = 2 from ix99] at this
      exact this)
    go_enter Tryz.func73, Tryz.ntmps73
    go_wp2_with (first
      | (go_at_call 94; (with_reducible refine Calls.mono (C.out _) ?_); rintro e w1 ⟨rfl, hw⟩; obtain rfl := hw.symm)
      | (go_at_call 78; (with_reducible refine Calls.mono (I.out _) ?_); rintro e w1 ⟨rfl, hw⟩; obtain rfl := hw.symm))
    go_ret
    exact ⟨rfl, rfl⟩
  by_cases h3 : c = 102
  · subst h3
    have C := Lib.hid (show ∀ W, Calls Tryz.prog 94 #[.string ⟨#[112, 103, 99, 102, 108]⟩, .string ⟨#[102]⟩] W (fun e w' => e = .returned (.bool true) ∧ w' = W) from fun W => by
      have := Tryz.strings_Contains_one ⟨#[112, 103, 99, 102, 108]⟩ 102 W
      rw [show Lib.indexByte (⟨#[112, 103, 99, 102, 108]⟩ : ByteArray).data.toList 102 = 3 from ix102] at this
      exact this)
    have I := Lib.hid (show ∀ W, Calls Tryz.prog 78 #[.string ⟨#[112, 103, 99, 102, 108]⟩, .string ⟨#[102]⟩] W (fun e w' => e = .returned (.int .i64 3) ∧ w' = W) from fun W => by
      have := Tryz.strings_Index_one ⟨#[112, 103, 99, 102, 108]⟩ 102 W
      rw [show Lib.indexByte (⟨#[112, 103, 99, 102, 108]⟩ : ByteArray).data.toList 102 = 3 from ix102] at this
      exact this)
    go_enter Tryz.func73, Tryz.ntmps73
    go_wp2_with (first
      | (go_at_call 94; (with_reducible refine Calls.mono (C.out _) ?_); rintro e w1 ⟨rfl, hw⟩; obtain rfl := hw.symm)
      | (go_at_call 78; (with_reducible refine Calls.mono (I.out _) ?_); rintro e w1 ⟨rfl, hw⟩; obtain rfl := hw.symm))
    go_ret
    exact ⟨rfl, rfl⟩
  by_cases h4 : c = 108
  · subst h4
    have C := Lib.hid (show ∀ W, Calls Tryz.prog 94 #[.string ⟨#[112, 103, 99, 102, 108]⟩, .string ⟨#[108]⟩] W (fun e w' => e = .returned (.bool true) ∧ w' = W) from fun W => by
      have := Tryz.strings_Contains_one ⟨#[112, 103, 99, 102, 108]⟩ 108 W
      rw [show Lib.indexByte (⟨#[112, 103, 99, 102, 108]⟩ : ByteArray).data.toList 108 = 4 from ix108] at this
      exact this)
    have I := Lib.hid (show ∀ W, Calls Tryz.prog 78 #[.string ⟨#[112, 103, 99, 102, 108]⟩, .string ⟨#[108]⟩] W (fun e w' => e = .returned (.int .i64 4) ∧ w' = W) from fun W => by
      have := Tryz.strings_Index_one ⟨#[112, 103, 99, 102, 108]⟩ 108 W
      rw [show Lib.indexByte (⟨#[112, 103, 99, 102, 108]⟩ : ByteArray).data.toList 108 = 4 from ix108] at this
      exact this)
    go_enter Tryz.func73, Tryz.ntmps73
    go_wp2_with (first
      | (go_at_call 94; (with_reducible refine Calls.mono (C.out _) ?_); rintro e w1 ⟨rfl, hw⟩; obtain rfl := hw.symm)
      | (go_at_call 78; (with_reducible refine Calls.mono (I.out _) ?_); rintro e w1 ⟨rfl, hw⟩; obtain rfl := hw.symm))
    go_ret
    exact ⟨rfl, rfl⟩
  have C := Lib.hid (show ∀ W, Calls Tryz.prog 94 #[.string ⟨#[112, 103, 99, 102, 108]⟩, .string ⟨#[c]⟩] W (fun e w' => e = .returned (.bool false) ∧ w' = W) from fun W => by
    have := Tryz.strings_Contains_one ⟨#[112, 103, 99, 102, 108]⟩ c W
    rw [show Lib.indexByte (⟨#[112, 103, 99, 102, 108]⟩ : ByteArray).data.toList c = -1 from ix_none h0 h1 h2 h3 h4] at this
    exact this)
  have HM := Lib.hid (show markOf c = 0 by unfold markOf; rw [if_neg h0, if_neg h1, if_neg h2, if_neg h3, if_neg h4])
  clear h0 h1 h2 h3 h4
  go_enter Tryz.func73, Tryz.ntmps73
  go_wp2_with (first
    | (go_at_call 94; (with_reducible refine Calls.mono (C.out _) ?_); rintro e w1 ⟨rfl, hw⟩; obtain rfl := hw.symm))
  go_ret
  exact ⟨by rw [HM.out]; rfl, rfl⟩

theorem chars_at (s : ByteArray) (j : Nat) (h : j < s.size) : s.extract j (j + 1) = ⟨#[s[j]]⟩ := by
  refine ba_ext ?_
  rw [Lib.extract_data]
  have hl : j < s.data.toList.length := by rw [size_len]; exact h
  rw [List.drop_eq_getElem_cons hl, show j + 1 - j = 1 by omega]
  rfl
end Go.Proofs.YtcghhagnibabeaaGreatDoor
