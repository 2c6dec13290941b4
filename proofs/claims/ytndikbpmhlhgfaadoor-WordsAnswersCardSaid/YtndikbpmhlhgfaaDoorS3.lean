/-
  words.Split: the tests of a text.
-/
import Derived.Test.YtndikbpmhlhgfaaDoorS2
namespace Go.Proofs.YtndikbpmhlhgfaaDoor
open Go.RowKit Go.Shelf Go.Sort

def plN (x : Nat) : Bool := decide (x = 10) || (decide (32 ≤ x) && decide (x ≤ 126))

theorem plN_high (x : Nat) (h : 128 ≤ x) : (!plN x) = true := by
  simp only [plN, Bool.not_eq_true', Bool.or_eq_false_iff, Bool.and_eq_false_iff, decide_eq_false_iff_not]; omega

theorem plN_plainB (c : UInt8) : plN c.toNat = Wo.plainB c := by
  rcases plain_kinds c with ⟨h, p⟩ | ⟨h, h2, p⟩ | ⟨h, h2, p⟩ | ⟨h, p⟩ <;> rw [p] <;> simp only [plN, Bool.or_eq_true, Bool.and_eq_true, decide_eq_true_eq, Bool.or_eq_false_iff, Bool.and_eq_false_iff, decide_eq_false_iff_not] <;> omega

set_option maxRecDepth 100000 in
theorem plain_any (x : Nat) (w : World) : Calls Tryd.prog 30 #[.int .i32 x] w fun e w' => e = .returned (.bool (plN x)) ∧ w' = w := by
  by_cases h1 : x = 10
  · have HN := Lib.hid (show plN x = true by simp only [plN, Bool.or_eq_true, Bool.and_eq_true, decide_eq_true_eq]; omega)
    have h1' : ((x : Int) == 10) = true := by rw [h1]; rfl
    clear h1
    go_enter Tryd.func30, Tryd.ntmps30
    go_wp2
    go_ret
    exact ⟨ret_b HN.out.symm, rfl⟩
  have h1' : ((x : Int) == 10) = false := beq_eq_false_iff_ne.2 (by omega)
  by_cases h2 : 32 ≤ x
  · have h2' : (32 : Int) ≤ (x : Int) := by omega
    by_cases h3 : x ≤ 126
    · have HN := Lib.hid (show plN x = true by simp only [plN, Bool.or_eq_true, Bool.and_eq_true, decide_eq_true_eq]; omega)
      have h3' : (x : Int) ≤ 126 := by omega
      clear h1 h2 h3
      go_enter Tryd.func30, Tryd.ntmps30
      go_wp2
      go_ret
      exact ⟨ret_b HN.out.symm, rfl⟩
    · have HN := Lib.hid (show plN x = false by simp only [plN, Bool.or_eq_false_iff, Bool.and_eq_false_iff, decide_eq_false_iff_not]; omega)
      have h3' : ¬ (x : Int) ≤ 126 := by omega
      clear h1 h2 h3
      go_enter Tryd.func30, Tryd.ntmps30
      go_wp2
      go_ret
      exact ⟨ret_b HN.out.symm, rfl⟩
  · have HN := Lib.hid (show plN x = false by simp only [plN, Bool.or_eq_false_iff, Bool.and_eq_false_iff, decide_eq_false_iff_not]; omega)
    have h2' : ¬ (32 : Int) ≤ (x : Int) := by omega
    clear h1 h2
    go_enter Tryd.func30, Tryd.ntmps30
    go_wp2
    go_ret
    exact ⟨ret_b HN.out.symm, rfl⟩

theorem nplain_any (x : Nat) (w : World) : Calls Tryd.prog 29 #[.int .i32 x] w fun e w' => e = .returned (.bool (!plN x)) ∧ w' = w := by
  have HP := Lib.hid (plain_any x w)
  generalize plN x = bb at *
  go_enter Tryd.func29, Tryd.ntmps29
  go_wp2_with (first | (go_at_call 30; refine Calls.mono HP.out ?_; rintro e w1 ⟨rfl, hw⟩; obtain rfl := hw.symm))
  go_ret
  exact ⟨rfl, rfl⟩

theorem enters_nplain : ∀ args w, (callFunc 29 args).run Tryd.prog w = .ok (.enter 29 args) w := enters_of Tryd.func29 (by kernel_rfl) rfl

theorem notplain_any (s : ByteArray) (w : World) : Calls Tryd.prog 28 #[.string s, .func (.func 29) #[] #[]] w fun e w' => e = .returned (.bool (!s.data.toList.all Wo.plainB)) ∧ Below w.heap.size w w' := by
  refine (Tryd.strings_ContainsFunc_runes 29 #[] enters_nplain (fun x => !plN x) s w (fun W x _ _ => (nplain_any x W).mono fun _ _ ⟨he, hw⟩ => ⟨he, 0, hw⟩)).mono fun e w' ⟨he, hb⟩ => ⟨?_, hb⟩
  rw [he, Wo.contains_any _ plN_high]
  congr 2
  rw [List.not_all_eq_any_not]
  congr 1
  funext c
  rw [plN_plainB]
end Go.Proofs.YtndikbpmhlhgfaaDoor
