/-
  words.Split, at whatever text.
-/
import Derived.Test.YtcghhagnibabeaaGreatDoorS6
namespace Go.Proofs.YtcghhagnibabeaaGreatDoor
open Go.RowKit Go.Shelf Go.Sort

set_option maxRecDepth 100000 in
set_option maxHeartbeats 8000000 in
theorem split_any (s : ByteArray) (w : World) (hE : Env w) (hs : s.size ≤ 9223372036854775807) : Calls Tryz.prog 36 #[.string s] w (SplitGive s w) := by
  have hlen := size_len s
  by_cases h1 : 16384 < s.size
  · have HF := Lib.hid (split_bad (sErr_long (l := s.data.toList) (.inl (by omega))) (by decide) w w (Below.refl _ _))
    have h1' : (16384 : Int) < (s.size : Int) := by omega
    clear h1 hlen hE
    go_enter Tryz.func36, Tryz.ntmps36
    go_wp2
    go_ret2
    exact HF.out
  have g1 : ¬ (16384 : Int) < (s.size : Int) := by omega
  have C1 := Lib.hid (fun (W : World) => Tryz.strings_Count_one s 10 W)
  obtain ⟨cn, ecn⟩ : ∃ n : Nat, Lib.countByte s.data.toList 10 = n := ⟨_, rfl⟩
  rw [ecn] at C1
  have ecn' : s.data.toList.count 10 = cn := ecn
  by_cases h2 : 400 < cn
  · have HF := Lib.hid (split_bad (sErr_long (l := s.data.toList) (.inr (by rw [ecn']; omega))) (by decide) w w (Below.refl _ _))
    have h2' : (400 : Int) < (cn : Int) := by omega
    clear h1 h2 hlen hE ecn ecn'
    go_enter Tryz.func36, Tryz.ntmps36
    go_wp2_with (first | (go_at_call 60; refine Calls.mono (C1.out _) ?_; rintro e w1 ⟨rfl, hw⟩; obtain rfl := hw.symm))
    go_ret2
    exact HF.out
  have g2 : ¬ (400 : Int) < (cn : Int) := by omega
  have hL := Lib.hid (show ¬ (16384 < s.data.toList.length ∨ 400 < s.data.toList.count 10) by rw [ecn']; omega)
  by_cases hse : s.toList = []
  · exact split_empty s w hE (by omega) (by rw [ecn']; exact h2) hse
  have h3 : s.toList.isEmpty = false := by cases h : s.toList with | nil => exact absurd h hse | cons a b => rfl
  have hd0 : s.data.toList ≠ [] := by rw [← ByteArray.toList_eq]; exact hse
  have C2 := Lib.hid (fun (W : World) => Tryz.strings_HasSuffix s ⟨#[10]⟩ W (by omega))
  have e2 : Lib.hasSuffix s.data.toList (⟨#[10]⟩ : ByteArray).data.toList = decide (s.data.toList.getLast? = some 10) := by
    show Lib.hasSuffix s.data.toList [10] = _
    unfold Lib.hasSuffix
    rw [Bool.eq_iff_iff, List.isSuffixOf_iff_suffix, decide_eq_true_eq, List.getLast?_eq_some_iff]
    constructor
    · rintro ⟨i, hi⟩; exact ⟨i, hi.symm⟩
    · rintro ⟨i, hi⟩; exact ⟨i, hi.symm⟩
  rw [e2] at C2
  by_cases hla : s.data.toList.getLast? = some 10
  · rw [decide_eq_true hla] at C2
    have C3 := Lib.hid (fun (W : World) => notplain_any s W)
    by_cases hpl : s.data.toList.all Wo.plainB = true
    · exact split_good s w hE (by omega) (by rw [ecn']; exact h2) hse hla hpl
    · have hpf : s.data.toList.all Wo.plainB = false := by simpa using hpl
      rw [hpf, Bool.not_false] at C3
      have HF := Lib.hid (fun (w' : World) (hb : Below w.heap.size w w') => split_bad (sErr_form hL.out (.inr hpf)) (by decide) w w' hb)
      clear hpl hpf hla e2 hd0 hlen h1 h2 ecn ecn' hE
      go_enter Tryz.func36, Tryz.ntmps36
      go_wp2_with (first | (go_at_call 60; refine Calls.mono (C1.out _) ?_; rintro e w1 ⟨rfl, hw⟩; obtain rfl := hw.symm) | (go_at_call 61; refine Calls.mono (C2.out _) ?_; rintro e w1 ⟨rfl, hw⟩; obtain rfl := hw.symm) | (go_at_call 62; refine Calls.mono (C3.out _) ?_; rintro e wB ⟨rfl, hb⟩))
      go_ret2
      exact HF.out _ hb
  · rw [decide_eq_false hla] at C2
    have HF := Lib.hid (fun (w' : World) (hb : Below w.heap.size w w') => split_bad (sErr_form hL.out (.inl ⟨hd0, hla⟩)) (by decide) w w' hb)
    clear hla e2 hd0 hlen h1 h2 ecn ecn' hE
    go_enter Tryz.func36, Tryz.ntmps36
    go_wp2_with (first | (go_at_call 60; refine Calls.mono (C1.out _) ?_; rintro e w1 ⟨rfl, hw⟩; obtain rfl := hw.symm) | (go_at_call 61; refine Calls.mono (C2.out _) ?_; rintro e w1 ⟨rfl, hw⟩; obtain rfl := hw.symm))
    go_ret2
    exact HF.out _ (Below.refl _ _)
end Go.Proofs.YtcghhagnibabeaaGreatDoor
