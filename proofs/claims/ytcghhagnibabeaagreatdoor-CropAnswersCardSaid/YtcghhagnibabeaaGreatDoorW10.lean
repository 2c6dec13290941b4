/-
  THE WALKS over words.word and what it is asked with: whether a row of words holds one that is none.
-/
import Derived.Test.YtcghhagnibabeaaGreatDoorW9
import Derived.Test.YtcghhagnibabeaaGreatDoorWr
namespace Go.Proofs.YtcghhagnibabeaaGreatDoor
open Go.RowKit

/-- What can't stand in a word. -/
def noB (x : Nat) : Bool := decide (x < 33) || (decide (126 < x) || decide (x = 35))

theorem noB_high (x : Nat) (h : 128 ≤ x) : noB x = true := by
  simp only [noB, Bool.or_eq_true, decide_eq_true_eq]; omega

theorem noB_okB (c : UInt8) : noB c.toNat = !okB c := by
  have e : (c == 35) = decide (c.toNat = 35) := by
    rw [Bool.eq_iff_iff, beq_iff_eq, decide_eq_true_eq]
    constructor
    · rintro rfl; rfl
    · intro h; exact UInt8.toNat_inj.1 (by rw [h]; rfl)
  rw [Bool.eq_iff_iff]
  simp only [noB, okB, e, Bool.or_eq_true, Bool.not_eq_true', Bool.and_eq_false_iff, Bool.not_eq_false', decide_eq_true_eq, decide_eq_false_iff_not]
  omega

theorem word_eq (s : ByteArray) (h : ¬ s.toList = []) : (!(decide (0 ≤ Lib.idxFunc noB true s))) = Wo.wordB s.data.toList := by
  rw [Wo.contains_any noB noB_high s, wordB_eq]
  have e : (!s.data.toList.isEmpty) = true := by
    rw [ByteArray.toList_eq] at h
    cases h2 : s.data.toList with
    | nil => exact absurd h2 h
    | cons a b => rfl
  rw [e, Bool.true_and]
  have : (fun c : UInt8 => noB c.toNat) = fun c => !okB c := funext noB_okB
  rw [this, List.all_eq_not_any_not]

set_option maxHeartbeats 2000000 in
theorem word1_any (x : Nat) (W : World) : Calls Tryz.prog 83 #[.int .i32 (x : Int)] W fun e w' => e = .returned (.bool (noB x)) ∧ W = w' := by
  have hx0 : (0 : Int) ≤ (x : Int) := Int.natCast_nonneg _
  by_cases h1 : x < 33
  · have HN := Lib.hid (show noB x = true by simp only [noB, Bool.or_eq_true, decide_eq_true_eq]; omega)
    have h1' : (x : Int) < 33 := by omega
    clear h1
    go_enter Tryz.func83, Tryz.ntmps83
    go_wp2
    go_ret
    exact ⟨ret_b HN.out.symm, rfl⟩
  have g1 : ¬ (x : Int) < 33 := by omega
  by_cases h2 : 126 < x
  · have HN := Lib.hid (show noB x = true by simp only [noB, Bool.or_eq_true, decide_eq_true_eq]; omega)
    have h2' : (126 : Int) < (x : Int) := by omega
    clear h1 h2
    go_enter Tryz.func83, Tryz.ntmps83
    go_wp2
    go_ret
    exact ⟨ret_b HN.out.symm, rfl⟩
  have g2 : ¬ (126 : Int) < (x : Int) := by omega
  by_cases h3 : x = 35
  · have HN := Lib.hid (show noB x = true by simp only [noB, Bool.or_eq_true, decide_eq_true_eq]; omega)
    have h3' : ((x : Int) == 35) = true := by rw [h3]; rfl
    clear h1 h2 h3
    go_enter Tryz.func83, Tryz.ntmps83
    go_wp2
    go_ret
    exact ⟨ret_b HN.out.symm, rfl⟩
  · have HN := Lib.hid (show noB x = false by simp only [noB, Bool.or_eq_false_iff, decide_eq_false_iff_not]; omega)
    have h3' : ((x : Int) == 35) = false := beq_eq_false_iff_ne.2 (by omega)
    clear h1 h2 h3
    go_enter Tryz.func83, Tryz.ntmps83
    go_wp2
    go_ret
    exact ⟨ret_b HN.out.symm, rfl⟩

def WdGive (b : Bool) (w : World) (e : Ending) (w' : World) : Prop := e = .returned (.bool b) ∧ Below w.heap.size w w'

theorem enters_word1 : ∀ args w, (callFunc 83 args).run Tryz.prog w = .ok (.enter 83 args) w := enters_of Tryz.func83 (by kernel_rfl) rfl

set_option maxHeartbeats 2000000 in
theorem word_any (s : ByteArray) (w : World) : Calls Tryz.prog 55 #[.string s] w (WdGive (Wo.wordB s.data.toList) w) := by
  have CF := Lib.hid (Tryz.strings_ContainsFunc_runes 83 #[] enters_word1 noB s w (fun W x _ _ => (word1_any x W).mono fun _ _ ⟨he, hw⟩ => ⟨he, 0, hw.symm⟩))
  by_cases h : s.toList = []
  · have HN := Lib.hid (show Wo.wordB s.data.toList = false by rw [wordB_eq]; rw [ByteArray.toList_eq] at h; rw [h]; rfl)
    go_enter Tryz.func55, Tryz.ntmps55
    go_wp2
    go_ret
    exact ⟨ret_b HN.out.symm, Below.refl _ _⟩
  · have h2 : s.toList.isEmpty = false := by cases h3 : s.toList with | nil => exact absurd h3 h | cons a b => rfl
    have HN := Lib.hid (word_eq s h)
    generalize decide (0 ≤ Lib.idxFunc noB true s) = bb at *
    go_enter Tryz.func55, Tryz.ntmps55
    go_wp2_with (first | (go_at_call 62; refine Calls.mono CF.out ?_; rintro e w1 ⟨rfl, hb⟩))
    go_ret
    exact ⟨ret_b HN.out, hb⟩

set_option maxHeartbeats 2000000 in
theorem notword_any (s : ByteArray) (w : World) : Calls Tryz.prog 54 #[.string s] w (WdGive (!Wo.wordB s.data.toList) w) := by
  have HW := Lib.hid (word_any s w)
  generalize Wo.wordB s.data.toList = bb at *
  go_enter Tryz.func54, Tryz.ntmps54
  go_wp2_with (first | (go_at_call 55; refine Calls.mono HW.out ?_; rintro e w1 ⟨rfl, hb⟩))
  go_ret
  exact ⟨rfl, hb⟩

def badB (y : ByteArray) : Bool := !Wo.wordB y.data.toList

def IxGive (ws : List ByteArray) (w : World) (e : Ending) (w' : World) : Prop := ∃ r : Int, e = .returned (.int .i64 r) ∧ decide (0 ≤ r) = ws.any badB ∧ -1 ≤ r ∧ Below w.heap.size w w'

theorem enters_bad : ∀ args w, (callFunc 54 args).run Tryz.prog w = .ok (.enter 54 args) w := enters_of Tryz.func54 (by kernel_rfl) rfl

set_option maxHeartbeats 2000000 in
theorem indexbad_any (q : Option Addr) (ws : List ByteArray) (c : Nat) (w : World) (h : Recs SB w q ws) :
    Calls Tryz.prog 82 #[.slice q ws.length c, .func (.func 54) #[] #[]] w (IxGive ws w) := by
  have hl := h.len
  have HR := Lib.hid h
  have en := enters_bad
  clear h
  go_enter Tryz.func82, Tryz.ntmps82
  go_wp2
  go_loopw [8] (fun i wr => ∃ k : Nat, k ≤ ws.length ∧ i = .int .i64 k ∧ (ws.take k).any badB = false ∧ Below w.heap.size w wr) (fun i _ => ws.length - (intOf i).toNat)
  case atStart => exact ⟨0, Nat.zero_le _, rfl, rfl, Below.refl _ _⟩
  case round =>
    obtain ⟨wo, rfl⟩ : ∃ wo : World, wo = wr := ⟨_, rfl⟩
    obtain ⟨k, hk, rfl, ha, hb⟩ := hrel
    have HA := Lib.hid ha
    have HB := Lib.hid hb
    have hk0 : (0 : Int) ≤ (k : Int) := Int.natCast_nonneg _
    by_cases hlt : k < ws.length
    · have hk1 : (k : Int) < (ws.length : Int) := by omega
      obtain ⟨b1, o1, rfl, -, hc1⟩ := (HR.out.below hb).word hlt
      have HS := Lib.hid (show (ws.take (k + 1)).any badB = badB ws[k] by
        rw [List.take_succ_eq_append_getElem hlt, List.any_append, HA.out, Bool.false_or]; simp)
      have HM := Lib.hid (show badB ws[k] = true → ws.any badB = true from fun e => List.any_eq_true.2 ⟨ws[k], List.getElem_mem hlt, e⟩)
      obtain ⟨y, ey⟩ : ∃ y, ws[k] = y := ⟨_, rfl⟩
      simp only [ey] at hc1 HS HM
      clear ey ha hb
      have CN := Lib.hid (notword_any y wo)
      obtain ⟨bb, ebb⟩ : ∃ x, badB y = x := ⟨_, rfl⟩
      have CN2 := Lib.hid (show Calls Tryz.prog 54 #[.string y] wo (WdGive bb wo) by rw [← ebb]; exact CN.out)
      rw [ebb] at HS HM
      clear CN ebb
      cases bb
      · go_wp2_with (first | (go_at_call 54; refine Calls.mono CN2.out ?_; rintro e w1 ⟨rfl, hb1⟩))
        go_roundw
        case rel => exact ⟨k + 1, by omega, by go_num, HS.out, HB.out.trans (hb1.mono HB.out.size)⟩
        case measure => simp [intOf]; omega
      · go_wp2_with (first | (go_at_call 54; refine Calls.mono CN2.out ?_; rintro e w1 ⟨rfl, hb1⟩))
        go_ret
        exact ⟨(k : Int), rfl, by rw [HM.out trivial]; exact decide_eq_true hk0, by omega, HB.out.trans (hb1.mono HB.out.size)⟩
    · obtain rfl : k = ws.length := by omega
      rw [List.take_of_length_le (Nat.le_refl _)] at ha
      have HA2 := Lib.hid ha
      clear ha
      go_wp2
      go_ret
      exact ⟨-1, rfl, by rw [HA2.out]; rfl, by omega, HB.out⟩

set_option maxHeartbeats 2000000 in
theorem containsbad_any (q : Option Addr) (ws : List ByteArray) (c : Nat) (w : World) (h : Recs SB w q ws) :
    Calls Tryz.prog 53 #[.slice q ws.length c, .func (.func 54) #[] #[]] w (WdGive (ws.any badB) w) := by
  have CI := Lib.hid (indexbad_any q ws c w h)
  clear h
  go_enter Tryz.func53, Tryz.ntmps53
  go_wp2_with (first | (go_at_call 82; refine Calls.mono CI.out ?_; rintro e w1 ⟨r, rfl, hr, hr1, hb⟩; have HR := Lib.hid hr; clear hr))
  go_ret
  exact ⟨ret_b HR.out, hb⟩

end Go.Proofs.YtcghhagnibabeaaGreatDoor
