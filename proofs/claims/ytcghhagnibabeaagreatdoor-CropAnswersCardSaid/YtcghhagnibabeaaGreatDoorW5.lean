/-
  THE WALK over the reference's Number.
-/
import Derived.Test.YtcghhagnibabeaaGreatDoorW4
namespace Go.Proofs.YtcghhagnibabeaaGreatDoor
open Go.RowKit

theorem w64_eq (x : Int) : IntKind.i64.wrap x = Wo.w64 x := by rw [IntKind.wrap_i64]; rfl

theorem wrap64_i (x : Int) : IntKind.i64.wrap x = wrap64 x := by rw [IntKind.wrap_i64]; unfold wrap64; rfl

theorem drop_take_self (l : List UInt8) (k : Nat) : (l.take k).drop k = [] := List.drop_of_length_le (List.length_take_le _ _)

theorem take_drop_snoc (s : ByteArray) (j k : Nat) (hk : k ≤ j) (h : j < s.size) : (s.data.toList.take (j + 1)).drop k = (s.data.toList.take j).drop k ++ [s[j]] := by
  have hl : s.data.toList.length = s.size := by rw [Array.length_toList]; rfl
  rw [Wo.take_snoc_bytes s j h, List.drop_append_of_le_length (by rw [List.length_take, hl]; omega)]

theorem bad_digit (s : ByteArray) (j k : Nat) (hk : k ≤ j) (h : j < s.size) (hd : Wo.digB s[j] = false) : (s.data.toList.drop k).all Wo.digB = false := by
  have hl : s.data.toList.length = s.size := by rw [Array.length_toList]; rfl
  rw [Bool.eq_false_iff]
  intro ha
  rw [List.all_eq_true] at ha
  have hm : s[j] ∈ s.data.toList.drop k := by
    rw [List.mem_drop_iff_getElem]
    exact ⟨j - k, by omega, by simp only [Nat.add_sub_cancel' hk]; rfl⟩
  rw [ha _ hm] at hd
  cases hd

theorem tail_neg (s : ByteArray) (h0 : 0 < s.size) (h : ((s[0]).toNat : Int) = 45) : Wo.tailN s.data.toList = s.data.toList.drop 1 ∧ Wo.negN s.data.toList = true := by
  have e : s.data.toList = s[0] :: s.data.toList.drop 1 := by
    have hl : s.data.toList.length = s.size := by rw [Array.length_toList]; rfl
    have := List.drop_eq_getElem_cons (l := s.data.toList) (i := 0) (by omega)
    rw [List.drop_zero] at this
    exact this
  have h' : (s[0]).toNat = 45 := by omega
  rw [e]
  simp only [Wo.tailN, Wo.negN, h', if_true, decide_true]
  exact ⟨rfl, trivial⟩

theorem tail_pos (s : ByteArray) (h0 : 0 < s.size) (h : ((s[0]).toNat : Int) ≠ 45) : Wo.tailN s.data.toList = s.data.toList.drop 0 ∧ Wo.negN s.data.toList = false := by
  have e : s.data.toList = s[0] :: s.data.toList.drop 1 := by
    have hl : s.data.toList.length = s.size := by rw [Array.length_toList]; rfl
    have := List.drop_eq_getElem_cons (l := s.data.toList) (i := 0) (by omega)
    rw [List.drop_zero] at this
    exact this
  have h' : ¬ (s[0]).toNat = 45 := by omega
  rw [e]
  simp only [Wo.tailN, Wo.negN, if_neg h', decide_eq_false h']
  exact ⟨rfl, trivial⟩

set_option maxHeartbeats 4000000 in
theorem refnumber_any (s : ByteArray) (least most : Int) (w : World) (hs : s.size ≤ 9223372036854775807) :
    Calls Tryz.prog 49 #[.string s, .int .i64 least, .int .i64 most] w (NumGive s.data.toList least most w) := by
  have hlen : s.data.toList.length = s.size := by rw [Array.length_toList]; rfl
  by_cases h1 : s.size = 0
  · have HN := Lib.hid (num_none (Wo.numO_long (l := s.data.toList) (.inl (by omega))) least most)
    have h1' : ((s.size : Int) == 0) = true := by rw [h1]; rfl
    clear h1 hlen
    go_enter Tryz.func49, Tryz.ntmps49
    go_wp2
    go_ret2
    exact ⟨ret_vb HN.out.1.symm HN.out.2.symm, Below.refl _ _⟩
  have g1 : ((s.size : Int) == 0) = false := by rw [beq_eq_false_iff_ne]; omega
  by_cases h2 : 20 < s.size
  · have HN := Lib.hid (num_none (Wo.numO_long (l := s.data.toList) (.inr (by omega))) least most)
    have h2' : (20 : Int) < (s.size : Int) := by omega
    clear h1 h2 hlen
    go_enter Tryz.func49, Tryz.ntmps49
    go_wp2
    go_ret2
    exact ⟨ret_vb HN.out.1.symm HN.out.2.symm, Below.refl _ _⟩
  have g2 : ¬ (20 : Int) < (s.size : Int) := by omega
  have h0 : 0 < s.size := by omega
  by_cases h45 : ((s[0]).toNat : Int) = 45
  · obtain ⟨ht, hm⟩ := tail_neg s h0 h45
    have HT := Lib.hid ht
    have HM := Lib.hid hm
    have b45 : (((s[0]).toNat : Int) == 45) = true := by rw [h45]; rfl
    clear ht hm h45 hlen h1 h2
    go_enter Tryz.func49, Tryz.ntmps49
    go_wp2
    clear b45
    go_loop [8, 10] (fun n i => ∃ j : Nat, 1 ≤ j ∧ j ≤ s.size ∧ i = .int .i64 j ∧ n = .int .i64 (Wo.foldN true ((s.data.toList.take j).drop 1)) ∧ ((s.data.toList.take j).drop 1).all Wo.digB = true) (fun _ i => s.size - (intOf i).toNat)
    case atStart => exact ⟨1, Nat.le_refl _, by omega, rfl, by rw [drop_take_self]; rfl, by rw [drop_take_self]; rfl⟩
    case round =>
      obtain ⟨j, hj0, hj, rfl, rfl, hall⟩ := hrel
      have HA := Lib.hid hall
      have hjI : (0 : Int) ≤ (j : Int) := Int.natCast_nonneg _
      obtain ⟨v, ev⟩ : ∃ x, Wo.foldN true ((s.data.toList.take j).drop 1) = x := ⟨_, rfl⟩
      have hv := Wo.foldN_bd true ((s.data.toList.take j).drop 1)
      rw [ev] at hv
      obtain ⟨v0, v1⟩ := hv
      rw [ev]
      have EV := Lib.hid ev
      clear ev hall
      by_cases hlt : j < s.size
      · have hsn := take_drop_snoc s j 1 hj0 hlt
        have HS := Lib.hid hsn
        clear hsn
        by_cases c1 : 48 ≤ ((s[j]).toNat : Int) ∧ ((s[j]).toNat : Int) ≤ 57
        · obtain ⟨c1, c2⟩ := c1
          have hd : Wo.digB s[j] = true := by simp only [Wo.digB, Bool.and_eq_true, decide_eq_true_eq]; exact ⟨c1, c2⟩
          have hu : IntKind.u8.wrap (((s[j]).toNat : Int) - 48) = ((s[j]).toNat : Int) - 48 := by rw [IntWalk.u8_in]; omega
          have HF := Lib.hid (show Wo.foldN true ((s.data.toList.take (j + 1)).drop 1) = IntKind.i64.wrap (IntKind.i64.wrap (10 * v) - (((s[j]).toNat : Int) - 48)) by
            rw [HS.out, Wo.foldN_snoc, EV.out, w64_eq, w64_eq]; rfl)
          have HG := Lib.hid (show ((s.data.toList.take (j + 1)).drop 1).all Wo.digB = true by rw [HS.out, List.all_append, HA.out, Bool.true_and]; simp [hd])
          clear hd
          go_wp2
          go_round
          case rel => exact ⟨j + 1, by omega, by omega, by go_num, by rw [HF.out, wrap64_i, wrap64_i], HG.out⟩
          case measure => simp [intOf]; omega
        · have HB := Lib.hid (show Wo.numO s.data.toList = none from Wo.numO_bad (by
            rw [HT.out]
            have hd : Wo.digB s[j] = false := by simp only [Wo.digB, Bool.and_eq_false_iff, decide_eq_false_iff_not]; omega
            exact bad_digit s j 1 hj0 hlt hd))
          have c1' : ((s[j]).toNat : Int) < 48 ∨ 57 < ((s[j]).toNat : Int) := by omega
          clear c1
          rcases c1' with c1 | c1
          all_goals
            go_wp2
            go_ret2
            exact ⟨ret_vb (num_none HB.out _ _).1.symm (num_none HB.out _ _).2.symm, Below.refl _ _⟩
      · obtain rfl : j = s.size := by omega
        have HV := Lib.hid (show Wo.foldN (Wo.negN s.data.toList) (Wo.tailN s.data.toList) = v by
          rw [HT.out, HM.out, ← EV.out, List.take_of_length_le (by rw [Array.length_toList]; exact Nat.le_refl _)])
        have HI := Lib.hid (fun (W : World) => refdecimal_any (v.natAbs + 1) v W (by omega) v0 v1)
        have hf := Wo.numO_fold s.data.toList
        rw [HV.out] at hf
        by_cases he : Lib.itoa v = s.data.toList
        · rw [if_pos he] at hf
          have es : (⟨(Lib.itoa v).toArray⟩ : ByteArray) = s := by rw [he]
          have ES := Lib.hid es
          have HF := Lib.hid hf
          clear hf he es
          by_cases ho : v < least ∨ most < v
          · have HN := Lib.hid (num_out HF.out ho)
            rcases ho with ho | ho
            all_goals
              go_wp2_with (first | (go_at_call 42; refine Calls.mono (HI.out _) ?_; rintro e w2 ⟨rfl, hb2⟩; rw [ES.out]))
              all_goals
                go_ret2
                exact ⟨ret_vb HN.out.1.symm HN.out.2.symm, hb2⟩
          · have HN := Lib.hid (num_in HF.out ho)
            have ho1 : ¬ v < least := fun h => ho (.inl h)
            have ho2 : ¬ most < v := fun h => ho (.inr h)
            clear ho
            go_wp2_with (first | (go_at_call 42; refine Calls.mono (HI.out _) ?_; rintro e w2 ⟨rfl, hb2⟩; rw [ES.out]))
            go_ret2
            exact ⟨ret_vb HN.out.1.symm HN.out.2.symm, hb2⟩
        · rw [if_neg he] at hf
          have HN := Lib.hid (num_none hf least most)
          have es : ((⟨(Lib.itoa v).toArray⟩ : ByteArray).toList == s.toList) = false := sneq (by exact he)
          clear hf he
          obtain ⟨sv, esv⟩ : ∃ x : ByteArray, (⟨(Lib.itoa v).toArray⟩ : ByteArray) = x := ⟨_, rfl⟩
          rw [esv] at es
          have ES := Lib.hid esv
          clear esv
          go_wp2_with (first | (go_at_call 42; refine Calls.mono (HI.out _) ?_; rintro e w2 ⟨rfl, hb2⟩; rw [ES.out]))
          go_ret2
          exact ⟨ret_vb HN.out.1.symm HN.out.2.symm, hb2⟩
  · obtain ⟨ht, hm⟩ := tail_pos s h0 h45
    have HT := Lib.hid ht
    have HM := Lib.hid hm
    have b45 : (((s[0]).toNat : Int) == 45) = false := beq_eq_false_iff_ne.2 h45
    clear ht hm h45 hlen h1 h2
    go_enter Tryz.func49, Tryz.ntmps49
    go_wp2
    clear b45
    go_loop [8, 10] (fun n i => ∃ j : Nat, 0 ≤ j ∧ j ≤ s.size ∧ i = .int .i64 j ∧ n = .int .i64 (Wo.foldN false ((s.data.toList.take j).drop 0)) ∧ ((s.data.toList.take j).drop 0).all Wo.digB = true) (fun _ i => s.size - (intOf i).toNat)
    case atStart => exact ⟨0, Nat.le_refl _, by omega, rfl, by rw [drop_take_self]; rfl, by rw [drop_take_self]; rfl⟩
    case round =>
      obtain ⟨j, hj0, hj, rfl, rfl, hall⟩ := hrel
      have HA := Lib.hid hall
      have hjI : (0 : Int) ≤ (j : Int) := Int.natCast_nonneg _
      obtain ⟨v, ev⟩ : ∃ x, Wo.foldN false ((s.data.toList.take j).drop 0) = x := ⟨_, rfl⟩
      have hv := Wo.foldN_bd false ((s.data.toList.take j).drop 0)
      rw [ev] at hv
      obtain ⟨v0, v1⟩ := hv
      rw [ev]
      have EV := Lib.hid ev
      clear ev hall
      by_cases hlt : j < s.size
      · have hsn := take_drop_snoc s j 0 hj0 hlt
        have HS := Lib.hid hsn
        clear hsn
        by_cases c1 : 48 ≤ ((s[j]).toNat : Int) ∧ ((s[j]).toNat : Int) ≤ 57
        · obtain ⟨c1, c2⟩ := c1
          have hd : Wo.digB s[j] = true := by simp only [Wo.digB, Bool.and_eq_true, decide_eq_true_eq]; exact ⟨c1, c2⟩
          have hu : IntKind.u8.wrap (((s[j]).toNat : Int) - 48) = ((s[j]).toNat : Int) - 48 := by rw [IntWalk.u8_in]; omega
          have HF := Lib.hid (show Wo.foldN false ((s.data.toList.take (j + 1)).drop 0) = IntKind.i64.wrap (IntKind.i64.wrap (10 * v) + (((s[j]).toNat : Int) - 48)) by
            rw [HS.out, Wo.foldN_snoc, EV.out, w64_eq, w64_eq]; rfl)
          have HG := Lib.hid (show ((s.data.toList.take (j + 1)).drop 0).all Wo.digB = true by rw [HS.out, List.all_append, HA.out, Bool.true_and]; simp [hd])
          clear hd
          go_wp2
          go_round
          case rel => exact ⟨j + 1, by omega, by omega, by go_num, by rw [HF.out, wrap64_i, wrap64_i], HG.out⟩
          case measure => simp [intOf]; omega
        · have HB := Lib.hid (show Wo.numO s.data.toList = none from Wo.numO_bad (by
            rw [HT.out]
            have hd : Wo.digB s[j] = false := by simp only [Wo.digB, Bool.and_eq_false_iff, decide_eq_false_iff_not]; omega
            exact bad_digit s j 0 hj0 hlt hd))
          have c1' : ((s[j]).toNat : Int) < 48 ∨ 57 < ((s[j]).toNat : Int) := by omega
          clear c1
          rcases c1' with c1 | c1
          all_goals
            go_wp2
            go_ret2
            exact ⟨ret_vb (num_none HB.out _ _).1.symm (num_none HB.out _ _).2.symm, Below.refl _ _⟩
      · obtain rfl : j = s.size := by omega
        have HV := Lib.hid (show Wo.foldN (Wo.negN s.data.toList) (Wo.tailN s.data.toList) = v by
          rw [HT.out, HM.out, ← EV.out, List.take_of_length_le (by rw [Array.length_toList]; exact Nat.le_refl _)])
        have HI := Lib.hid (fun (W : World) => refdecimal_any (v.natAbs + 1) v W (by omega) v0 v1)
        have hf := Wo.numO_fold s.data.toList
        rw [HV.out] at hf
        by_cases he : Lib.itoa v = s.data.toList
        · rw [if_pos he] at hf
          have es : (⟨(Lib.itoa v).toArray⟩ : ByteArray) = s := by rw [he]
          have ES := Lib.hid es
          have HF := Lib.hid hf
          clear hf he es
          by_cases ho : v < least ∨ most < v
          · have HN := Lib.hid (num_out HF.out ho)
            rcases ho with ho | ho
            all_goals
              go_wp2_with (first | (go_at_call 42; refine Calls.mono (HI.out _) ?_; rintro e w2 ⟨rfl, hb2⟩; rw [ES.out]))
              all_goals
                go_ret2
                exact ⟨ret_vb HN.out.1.symm HN.out.2.symm, hb2⟩
          · have HN := Lib.hid (num_in HF.out ho)
            have ho1 : ¬ v < least := fun h => ho (.inl h)
            have ho2 : ¬ most < v := fun h => ho (.inr h)
            clear ho
            go_wp2_with (first | (go_at_call 42; refine Calls.mono (HI.out _) ?_; rintro e w2 ⟨rfl, hb2⟩; rw [ES.out]))
            go_ret2
            exact ⟨ret_vb HN.out.1.symm HN.out.2.symm, hb2⟩
        · rw [if_neg he] at hf
          have HN := Lib.hid (num_none hf least most)
          have es : ((⟨(Lib.itoa v).toArray⟩ : ByteArray).toList == s.toList) = false := sneq (by exact he)
          clear hf he
          obtain ⟨sv, esv⟩ : ∃ x : ByteArray, (⟨(Lib.itoa v).toArray⟩ : ByteArray) = x := ⟨_, rfl⟩
          rw [esv] at es
          have ES := Lib.hid esv
          clear esv
          go_wp2_with (first | (go_at_call 42; refine Calls.mono (HI.out _) ?_; rintro e w2 ⟨rfl, hb2⟩; rw [ES.out]))
          go_ret2
          exact ⟨ret_vb HN.out.1.symm HN.out.2.symm, hb2⟩

end Go.Proofs.YtcghhagnibabeaaGreatDoor
