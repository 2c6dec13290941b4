/-
  PLAIN: names, decimal texts and numbers of words (no program in sight).
-/
import Derived.Lib.AtoiAllCases
import Derived.Lib.ItoaLen
namespace Go.Proofs.YtcghhagnibabeaaGreatDoor
namespace Wo
open Go.Lib

/-! ### names -/
def letB (c : UInt8) : Bool := decide (97 ≤ (c.toNat : Int)) && decide ((c.toNat : Int) ≤ 122)
def digB (c : UInt8) : Bool := decide (48 ≤ (c.toNat : Int)) && decide ((c.toNat : Int) ≤ 57)

/-- A letter, then letters and digits. -/
def headB : List UInt8 → Bool
  | [] => true
  | c :: r => letB c && r.all fun c => letB c || digB c

def nameB (l : List UInt8) : Bool := headB l && (decide (1 ≤ l.length) && decide (l.length ≤ 12))

theorem headB_snoc (l : List UInt8) (c : UInt8) : headB (l ++ [c]) = (headB l && (letB c || (!l.isEmpty && digB c))) := by
  cases l with
  | nil => simp [headB]
  | cons a l => simp [headB, Bool.and_assoc]

theorem headB_prefix {l m : List UInt8} (h : headB (l ++ m) = true) : headB l = true := by
  cases l with
  | nil => rfl
  | cons a l =>
    simp only [List.cons_append, headB, Bool.and_eq_true, List.all_append] at h ⊢
    exact ⟨h.1, h.2.1⟩

theorem take_snoc_bytes (s : ByteArray) (k : Nat) (h : k < s.size) : s.data.toList.take (k + 1) = s.data.toList.take k ++ [s[k]] := by
  rw [List.take_succ_eq_append_getElem (by simpa using h)]; rfl

/-! ### decimal texts -/
theorem dig_toNat (d : Nat) (h : d < 10) : (UInt8.ofNat (48 + d)).toNat = 48 + d := by
  have : (48 + d) % 256 = 48 + d := Nat.mod_eq_of_lt (by omega)
  simpa using this

/-- The letter of a digit. -/
def dch (d : Nat) : UInt8 := UInt8.ofNat (48 + d)

theorem parseUint10_snoc (l : List UInt8) (c : UInt8) : ∀ acc, parseUint10 acc (l ++ [c]) = match parseUint10 acc l with
    | .ok u => parseUint10 u [c]
    | e => e := by
  induction l with
  | nil => intro acc; simp [parseUint10]
  | cons a l ih =>
    intro acc
    simp only [List.cons_append, parseUint10]
    split
    · split
      · rfl
      · split
        · rfl
        · exact ih _
    · rfl

theorem decDigits_ne (u : Nat) : decDigits u ≠ [] := by
  intro e
  have := decDigits_length u
  rw [e] at this
  have := nDigits_pos u
  simp at *
  omega

theorem parse_dec (u : Nat) (h : u < 18446744073709551616) : parseUint10 0 (decDigits u) = .ok u := by
  induction u using Nat.strongRecOn with
  | _ u ih =>
    by_cases h1 : u < 10
    · rw [decDigits, dif_pos h1]
      simp only [parseUint10, dig_toNat u h1]
      rw [if_pos (by omega), if_neg (by omega), if_neg (by omega)]
      congr 1; omega
    · rw [decDigits, dif_neg h1, parseUint10_snoc, ih (u / 10) (by omega) (by omega)]
      simp only [parseUint10, dig_toNat (u % 10) (by omega)]
      rw [if_pos (by omega), if_neg (by omega), if_neg (by omega)]
      congr 1; omega

theorem decDigits_first (u : Nat) : ∃ c r, decDigits u = c :: r ∧ 48 ≤ c.toNat ∧ c.toNat ≤ 57 := by
  induction u using Nat.strongRecOn with
  | _ u ih =>
    by_cases h1 : u < 10
    · rw [decDigits, dif_pos h1]
      exact ⟨_, _, rfl, by rw [dig_toNat u h1]; omega, by rw [dig_toNat u h1]; omega⟩
    · rw [decDigits, dif_neg h1]
      obtain ⟨c, r, e, h2, h3⟩ := ih (u / 10) (by omega)
      exact ⟨c, _, by rw [e]; rfl, h2, h3⟩

theorem atoi_itoa (n : Int) (h0 : -9223372036854775808 ≤ n) (h1 : n ≤ 9223372036854775807) : atoiAll (itoa n) = .ok n := by
  unfold itoa
  split
  · rw [atoiAll_minus, parseMag, if_neg (decDigits_ne _), parse_dec _ (by omega)]
    simp only [signed]
    rw [if_neg (by omega)]
    congr 1; omega
  · obtain ⟨c, r, e, h2, h3⟩ := decDigits_first n.toNat
    have hp := parse_dec n.toNat (by omega)
    rw [e] at hp ⊢
    rw [atoiAll_plain c r (by omega) (by omega), parseMag, if_neg (by simp), hp]
    simp only [signless]
    rw [if_neg (by omega)]
    congr 1; omega

/-- The number of which l is the decimal text. -/
def numO (l : List UInt8) : Option Int :=
  match atoiAll l with
  | .ok v => if itoa v = l then some v else none
  | _ => none

theorem numO_itoa (n : Int) (h0 : -9223372036854775808 ≤ n) (h1 : n ≤ 9223372036854775807) : numO (itoa n) = some n := by
  unfold numO; rw [atoi_itoa n h0 h1]; simp

theorem numO_some {l : List UInt8} {v : Int} (h : numO l = some v) : itoa v = l ∧ -9223372036854775808 ≤ v ∧ v ≤ 9223372036854775807 := by
  unfold numO at h
  split at h
  · next w hw =>
    split at h
    · cases h
      exact ⟨by assumption, atoiAll_bounds hw⟩
    · cases h
  · cases h

/-- What is handed back of a text, within limits. -/
def numV (l : List UInt8) (least most : Int) : Int := match numO l with | some v => if v < least ∨ most < v then 0 else v | none => 0
def numB (l : List UInt8) (least most : Int) : Bool := match numO l with | some v => if v < least ∨ most < v then false else true | none => false

/-! ### the same by steps -/
def w64 (x : Int) : Int := (x + 9223372036854775808) % 18446744073709551616 - 9223372036854775808

theorem w64_id {x : Int} (h : -9223372036854775808 ≤ x ∧ x ≤ 9223372036854775807) : w64 x = x := by unfold w64; omega
theorem w64_bd (x : Int) : -9223372036854775808 ≤ w64 x ∧ w64 x ≤ 9223372036854775807 := by unfold w64; omega

def stepN (neg : Bool) (n : Int) (c : UInt8) : Int := if neg then w64 (w64 (10 * n) - ((c.toNat : Int) - 48)) else w64 (w64 (10 * n) + ((c.toNat : Int) - 48))
def foldN (neg : Bool) (l : List UInt8) : Int := l.foldl (stepN neg) 0

theorem foldN_snoc (neg : Bool) (l : List UInt8) (c : UInt8) : foldN neg (l ++ [c]) = stepN neg (foldN neg l) c := by simp [foldN]

theorem foldN_bd (neg : Bool) (l : List UInt8) : -9223372036854775808 ≤ foldN neg l ∧ foldN neg l ≤ 9223372036854775807 := by
  rcases List.eq_nil_or_concat l with rfl | ⟨m, c, rfl⟩
  · simp [foldN]
  · rw [List.concat_eq_append, foldN_snoc]
    unfold stepN
    split <;> exact w64_bd _

theorem foldN_dec (u : Nat) : (u < 9223372036854775808 → foldN false (decDigits u) = u) ∧ (u ≤ 9223372036854775808 → foldN true (decDigits u) = -(u : Int)) := by
  induction u using Nat.strongRecOn with
  | _ u ih =>
    by_cases h1 : u < 10
    · rw [decDigits, dif_pos h1]
      simp only [foldN, List.foldl_cons, List.foldl_nil, stepN, dig_toNat u h1]
      constructor
      · intro h; simp only [Bool.false_eq_true, if_false]; rw [w64_id (x := 10 * 0) (by omega), w64_id (by omega)]; omega
      · intro h; simp only [if_true]; rw [w64_id (x := 10 * 0) (by omega), w64_id (by omega)]; omega
    · rw [decDigits, dif_neg h1, foldN_snoc, foldN_snoc]
      obtain ⟨i1, i2⟩ := ih (u / 10) (by omega)
      simp only [stepN, dig_toNat (u % 10) (by omega)]
      constructor
      · intro h; rw [i1 (by omega)]; simp only [Bool.false_eq_true, if_false]; rw [w64_id (x := 10 * _) (by omega), w64_id (by omega)]; omega
      · intro h; rw [i2 (by omega)]; simp only [if_true]; rw [w64_id (x := 10 * _) (by omega), w64_id (by omega)]; omega

theorem decDigits_digs (u : Nat) : (decDigits u).all digB = true := by
  induction u using Nat.strongRecOn with
  | _ u ih =>
    by_cases h1 : u < 10
    · rw [decDigits, dif_pos h1]
      simp only [List.all_cons, List.all_nil, Bool.and_true, digB, dig_toNat u h1, Bool.and_eq_true, decide_eq_true_eq]
      omega
    · rw [decDigits, dif_neg h1, List.all_append, ih _ (by omega)]
      simp only [List.all_cons, List.all_nil, Bool.and_true, Bool.true_and, digB, dig_toNat (u % 10) (by omega), Bool.and_eq_true, decide_eq_true_eq]
      omega

/-- The text behind its sign. -/
def tailN (l : List UInt8) : List UInt8 := match l with | [] => [] | c :: r => if c.toNat = 45 then r else c :: r
def negN (l : List UInt8) : Bool := match l with | [] => false | c :: _ => decide (c.toNat = 45)

theorem itoa_tail (n : Int) (h0 : -9223372036854775808 ≤ n) (h1 : n ≤ 9223372036854775807) : (tailN (itoa n)).all digB = true ∧ foldN (negN (itoa n)) (tailN (itoa n)) = n := by
  unfold itoa
  split
  · have e : (45 : UInt8).toNat = 45 := rfl
    simp only [tailN, negN, e, if_true, decide_true]
    exact ⟨decDigits_digs _, by rw [(foldN_dec _).2 (by omega)]; omega⟩
  · obtain ⟨c, r, e, h2, h3⟩ := decDigits_first n.toNat
    have hd := decDigits_digs n.toNat
    have hf := (foldN_dec n.toNat).1 (by omega)
    rw [e] at hd hf ⊢
    have hc : ¬ c.toNat = 45 := by omega
    simp only [tailN, negN, if_neg hc, decide_eq_false hc]
    exact ⟨hd, by rw [hf]; omega⟩

theorem numO_bad {l : List UInt8} (h : (tailN l).all digB = false) : numO l = none := by
  cases hn : numO l with
  | none => rfl
  | some v =>
    obtain ⟨e, h0, h1⟩ := numO_some hn
    have := (itoa_tail v h0 h1).1
    rw [e, h] at this
    cases this

theorem numO_fold (l : List UInt8) : numO l = if itoa (foldN (negN l) (tailN l)) = l then some (foldN (negN l) (tailN l)) else none := by
  split
  · next h =>
    have := numO_itoa _ (foldN_bd (negN l) (tailN l)).1 (foldN_bd (negN l) (tailN l)).2
    rw [h] at this
    exact this
  · next h =>
    cases hn : numO l with
    | none => rfl
    | some v =>
      obtain ⟨e, h0, h1⟩ := numO_some hn
      have := (itoa_tail v h0 h1).2
      rw [e] at this
      rw [this] at h
      exact absurd e h

theorem nDigits_le19 (u : Nat) (h : u < 10000000000000000000) : nDigits u ≤ 19 := by
  apply Nat.le_of_not_lt
  intro hk
  have : ∀ (k u : Nat), k + 1 < nDigits u → 10 ^ (k + 1) ≤ u := by
    intro k
    induction k with
    | zero =>
      intro u hu
      by_cases h1 : u < 10
      · rw [nDigits_small h1] at hu; omega
      · omega
    | succ k ih =>
      intro u hu
      by_cases h1 : u < 10
      · rw [nDigits_small h1] at hu; omega
      · rw [nDigits_big h1] at hu
        have := ih (u / 10) (by omega)
        rw [Nat.pow_succ]
        omega
  have := this 18 u hk
  omega

theorem itoa_len20 (n : Int) (h0 : -9223372036854775808 ≤ n) (h1 : n ≤ 9223372036854775807) : 1 ≤ (itoa n).length ∧ (itoa n).length ≤ 20 := by
  unfold itoa
  split
  · rw [List.length_cons, decDigits_length]
    have := nDigits_le19 n.natAbs (by omega)
    omega
  · rw [decDigits_length]
    have := nDigits_le19 n.toNat (by omega)
    have := nDigits_pos n.toNat
    omega

theorem numO_long {l : List UInt8} (h : l.length = 0 ∨ 20 < l.length) : numO l = none := by
  cases hn : numO l with
  | none => rfl
  | some v =>
    obtain ⟨e, h0, h1⟩ := numO_some hn
    have := itoa_len20 v h0 h1
    rw [e] at this
    omega

end Wo
end Go.Proofs.YtcghhagnibabeaaGreatDoor
