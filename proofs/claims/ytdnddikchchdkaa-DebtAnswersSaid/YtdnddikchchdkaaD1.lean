/-
  THE WALKS over debt.day, decision, right, amounts, paid, New; ref39.New, sum.
-/
import Derived.Test.YtdnddikchchdkaaDs
import Derived.Test.YtdnddikchchdkaaPf
namespace Go.Proofs.Ytdnddikchchdkaa
open Go.RowKit

theorem day39_any (n : Int) (w : World) : Calls Try.prog 63 #[.int .i64 n] w fun e w' => e = .returned (.bool (De.dayB n)) ∧ w = w' := by
  by_cases h : 0 ≤ n
  · by_cases h2 : n ≤ 36864
    · rw [De.dayB_iff.2 ⟨h, h2⟩]
      go_enter Try.func63, Try.ntmps63
      go_wp2
      go_ret
      exact ⟨rfl, rfl⟩
    · rw [De.dayB_not.2 (.inr (by omega))]
      go_enter Try.func63, Try.ntmps63
      go_wp2
      go_ret
      exact ⟨rfl, rfl⟩
  · rw [De.dayB_not.2 (.inl (by omega))]
    go_enter Try.func63, Try.ntmps63
    go_wp2
    go_ret
    exact ⟨rfl, rfl⟩

theorem dec39_any (n : Int) (w : World) : Calls Try.prog 70 #[.int .i64 n] w fun e w' => e = .returned (.bool (De.decB n)) ∧ w = w' := by
  by_cases h : 1 ≤ n
  · by_cases h2 : n ≤ 1125899906842624
    · rw [De.decB_iff.2 ⟨h, h2⟩]
      go_enter Try.func70, Try.ntmps70
      go_wp2
      go_ret
      exact ⟨rfl, rfl⟩
    · rw [De.decB_not.2 (.inr (by omega))]
      go_enter Try.func70, Try.ntmps70
      go_wp2
      go_ret
      exact ⟨rfl, rfl⟩
  · rw [De.decB_not.2 (.inl (by omega))]
    go_enter Try.func70, Try.ntmps70
    go_wp2
    go_ret
    exact ⟨rfl, rfl⟩

theorem good_ways (dec due amt left num : Int) : (De.decB dec = false ∧ De.goodB ⟨num, dec, due, amt, left⟩ = false) ∨ (De.decB dec = true ∧ De.dayB due = false ∧ De.goodB ⟨num, dec, due, amt, left⟩ = false) ∨
    (De.decB dec = true ∧ De.dayB due = true ∧ amt < 1 ∧ De.goodB ⟨num, dec, due, amt, left⟩ = false) ∨ (De.decB dec = true ∧ De.dayB due = true ∧ 1 ≤ amt ∧ 68719476736 < amt ∧ De.goodB ⟨num, dec, due, amt, left⟩ = false) ∨
    (De.decB dec = true ∧ De.dayB due = true ∧ 1 ≤ amt ∧ amt ≤ 68719476736 ∧ left < 1 ∧ De.goodB ⟨num, dec, due, amt, left⟩ = false) ∨
    (De.decB dec = true ∧ De.dayB due = true ∧ 1 ≤ amt ∧ amt ≤ 68719476736 ∧ 1 ≤ left ∧ decide (left ≤ amt) = false ∧ De.goodB ⟨num, dec, due, amt, left⟩ = false) ∨
    (De.decB dec = true ∧ De.dayB due = true ∧ 1 ≤ amt ∧ amt ≤ 68719476736 ∧ 1 ≤ left ∧ decide (left ≤ amt) = true ∧ De.goodB ⟨num, dec, due, amt, left⟩ = true) := by
  unfold De.goodB
  simp only
  cases De.decB dec
  · exact .inl ⟨rfl, by simp⟩
  cases De.dayB due
  · exact .inr (.inl ⟨rfl, rfl, by simp⟩)
  by_cases h3 : amt < 1
  · exact .inr (.inr (.inl ⟨rfl, rfl, h3, by simp; omega⟩))
  by_cases h4 : 68719476736 < amt
  · exact .inr (.inr (.inr (.inl ⟨rfl, rfl, by omega, h4, by simp; omega⟩)))
  by_cases h5 : left < 1
  · exact .inr (.inr (.inr (.inr (.inl ⟨rfl, rfl, by omega, by omega, h5, by simp; omega⟩))))
  by_cases h6 : amt < left
  · exact .inr (.inr (.inr (.inr (.inr (.inl ⟨rfl, rfl, by omega, by omega, by omega, decide_eq_false (by omega), by simp; omega⟩)))))
  · exact .inr (.inr (.inr (.inr (.inr (.inr ⟨rfl, rfl, by omega, by omega, by omega, decide_eq_true (by omega), by simp; omega⟩)))))

set_option maxHeartbeats 1000000 in
theorem right_any (d : De.Dbt) (w : World) : Calls Try.prog 68 #[.agg #[.int .i64 d.num, .int .i64 d.dec, .int .i64 d.due, .int .i64 d.amt, .int .i64 d.left]] w fun e w' => e = .returned (.bool (De.goodB d)) ∧ Below w.heap.size w w' := by
  obtain ⟨num, dec, due, amt, left⟩ := d
  simp only
  rcases good_ways dec due amt left num with ⟨h1, e⟩ | ⟨h1, h2, e⟩ | ⟨h1, h2, h3, e⟩ | ⟨h1, h2, h3, h4, e⟩ | ⟨h1, h2, h3, h4, h5, e⟩ | ⟨h1, h2, h3, h4, h5, h6, e⟩ | ⟨h1, h2, h3, h4, h5, h6, e⟩
  all_goals
    rw [e]
    clear e
    go_enter Try.func68, Try.ntmps68
    go_wp2_with (first | (go_at_call 70; refine (dec39_any _ _).mono ?_; rintro e w' ⟨rfl, rfl⟩) | (go_at_call 63; refine (day39_any _ _).mono ?_; rintro e w' ⟨rfl, rfl⟩))
    go_ret
    exact ⟨rfl, (Below.refl _ _).alloc (Nat.le_refl _) _⟩

theorem amt_bd {L : List De.Dbt} (h : ∀ d ∈ L, 0 ≤ d.amt ∧ d.amt ≤ 68719476736) (hl : L.length ≤ 64) (k : Nat) : 0 ≤ De.total (L.take k) ∧ De.total (L.take k) ≤ 4398046511104 := by
  have := De.total_bd (L := L.take k) (c := 68719476736) fun d hd => h d (List.mem_of_mem_take hd)
  rw [List.length_take] at this
  omega

set_option maxHeartbeats 1000000 in
theorem amounts_any (p : Option Addr) (L : List De.Dbt) (cap : Nat) (w : World) (h : Debts w p L) (ha : ∀ d ∈ L, 0 ≤ d.amt ∧ d.amt ≤ 68719476736) (h64 : L.length ≤ 64) :
    Calls Try.prog 69 #[.slice p L.length cap] w fun e w' => e = .returned (.int .i64 (De.total L)) ∧ Below w.heap.size w w' := by
  have hn := h.len
  have H := Lib.hid h
  have HA := Lib.hid ha
  have HB := Lib.hid (amt_bd ha h64)
  clear h ha
  go_enter Try.func69, Try.ntmps69
  go_wp2
  go_loopw [3, 8] (fun s i wr => ∃ k : Nat, k ≤ L.length ∧ i = .int .i64 k ∧ s = .int .i64 (De.total (L.take k)) ∧ Below w.heap.size w wr) (fun _ i _ => L.length - (intOf i).toNat)
  case atStart => exact ⟨0, Nat.zero_le _, rfl, rfl, Below.refl _ _⟩
  case round =>
    obtain ⟨k, hk, rfl, rfl, hb⟩ := hrel
    have HBW := Lib.hid hb
    have hsz := hb.size
    obtain ⟨t0, t1⟩ := HB.out k
    by_cases hlt : k < L.length
    · obtain ⟨b, off, d, rfl, hbl, hD, hd⟩ := SD_at H.out hlt
      obtain ⟨c0, c1, c2, c3, c4⟩ := hD.below hb hbl
      have ha := HA.out _ (De.g_mem hlt)
      rw [hd.out] at ha
      have hst := Lib.hid (De.total_take hlt)
      have hk0 : (0 : Int) ≤ (k : Int) := Int.natCast_nonneg _
      have hk1 : (k : Int) < (L.length : Int) := by omega
      clear hb hD
      go_wp2
      go_roundw
      case rel => exact ⟨k + 1, by omega, by go_num, by rw [hst.out, hd.out], HBW.out.alloc hsz _⟩
      case measure => simp [intOf]; omega
    · obtain rfl : k = L.length := by omega
      clear hb
      go_wp2
      go_ret
      exact ⟨by rw [List.take_length]; rfl, HBW.out⟩

theorem paid_any (d : De.Dbt) (w : World) : Calls Try.prog 67 #[.agg #[.int .i64 d.num, .int .i64 d.dec, .int .i64 d.due, .int .i64 d.amt, .int .i64 d.left]] w fun e w' => e = .returned (.bool (d.left == 0)) ∧ Below w.heap.size w w' := by
  obtain ⟨num, dec, due, amt, left⟩ := d
  simp only
  go_enter Try.func67, Try.ntmps67
  go_wp2
  go_ret
  exact ⟨rfl, (Below.refl _ _).alloc (Nat.le_refl _) _⟩

/-- What New returns. -/
def newErr (f : Int) : Int := if f < 1 ∨ 60 < f then 74 else 0
def newFarm (f : Int) : Int := if f < 1 ∨ 60 < f then 0 else f
def newNext (f : Int) : Int := if f < 1 ∨ 60 < f then 0 else 1

set_option maxHeartbeats 400000 in
theorem new39_any (f : Int) (w : World) : Calls Try.prog 44 #[.int .i64 f] w fun e w' => e = .returned (.tuple #[accV (newFarm f) none 0 0 (newNext f), .int .i64 (newErr f)]) ∧ Below w.heap.size w w' := by
  unfold newErr newFarm newNext accV
  by_cases h1 : f < 1
  · simp only [if_pos (Or.inl h1 : f < 1 ∨ 60 < f)]
    go_enter Try.func44, Try.ntmps44
    go_wp2
    exact bodyPost_ret (v := .tuple #[.agg #[.int .i64 0, .slice none 0 0, .int .i64 0], .int .i64 74]) (by simp [results, Try.results44, go_sem]) rfl ⟨rfl, (Below.refl _ _).alloc (Nat.le_refl _) _⟩
  · by_cases h2 : 60 < f
    · simp only [if_pos (Or.inr h2 : f < 1 ∨ 60 < f)]
      go_enter Try.func44, Try.ntmps44
      go_wp2
      exact bodyPost_ret (v := .tuple #[.agg #[.int .i64 0, .slice none 0 0, .int .i64 0], .int .i64 74]) (by simp [results, Try.results44, go_sem]) rfl ⟨rfl, (Below.refl _ _).alloc (Nat.le_refl _) _⟩
    · simp only [if_neg (show ¬ (f < 1 ∨ 60 < f) by omega)]
      go_enter Try.func44, Try.ntmps44
      go_wp2
      exact bodyPost_ret (v := .tuple #[.agg #[.int .i64 f, .slice none 0 0, .int .i64 1], .int .i64 0]) (by simp [results, Try.results44, go_sem]) rfl ⟨rfl, (Below.refl _ _).alloc (Nat.le_refl _) _⟩

set_option maxHeartbeats 400000 in
theorem refnew39_any (f : Int) (w : World) : Calls Try.prog 45 #[.int .i64 f] w fun e w' => e = .returned (.tuple #[accV (newFarm f) none 0 0 (newNext f), .int .i64 (newErr f)]) ∧ Below w.heap.size w w' := by
  unfold newErr newFarm newNext accV
  by_cases h1 : f < 1
  · simp only [if_pos (Or.inl h1 : f < 1 ∨ 60 < f)]
    go_enter Try.func45, Try.ntmps45
    go_wp2
    exact bodyPost_ret (v := .tuple #[.agg #[.int .i64 0, .slice none 0 0, .int .i64 0], .int .i64 74]) (by simp [results, Try.results45, go_sem]) rfl ⟨rfl, (Below.refl _ _).alloc (Nat.le_refl _) _⟩
  · by_cases h2 : 60 < f
    · simp only [if_pos (Or.inr h2 : f < 1 ∨ 60 < f)]
      go_enter Try.func45, Try.ntmps45
      go_wp2
      exact bodyPost_ret (v := .tuple #[.agg #[.int .i64 0, .slice none 0 0, .int .i64 0], .int .i64 74]) (by simp [results, Try.results45, go_sem]) rfl ⟨rfl, (Below.refl _ _).alloc (Nat.le_refl _) _⟩
    · simp only [if_neg (show ¬ (f < 1 ∨ 60 < f) by omega)]
      go_enter Try.func45, Try.ntmps45
      go_wp2
      exact bodyPost_ret (v := .tuple #[.agg #[.int .i64 f, .slice none 0 0, .int .i64 1], .int .i64 0]) (by simp [results, Try.results45, go_sem]) rfl ⟨rfl, (Below.refl _ _).alloc (Nat.le_refl _) _⟩

end Go.Proofs.Ytdnddikchchdkaa
