/-
  MERGED (mergek.py): the texts Wn, Cm, Wl.
-/
import Derived.Lib.AtoiAllCases
import Derived.Lib.ItoaLen
import Derived.Lib.Split
import Derived.Lib.Join

namespace Go.Proofs.YtflcdkibjakciaaGreatDoor
namespace Wo
open Go.Lib

/-! ### names -/
def letB (c : UInt8) : Bool := decide (97 ≤ (c.toNat : Int)) && decide ((c.toNat : Int) ≤ 122)
def digB (c : UInt8) : Bool := decide (48 ≤ (c.toNat : Int)) && decide ((c.toNat : Int) ≤ 57)

/-- A letter, then letters and digits. -/
def headB : List UInt8 → Bool
  | [] => true
  | c :: r => letB c && r.all fun c => letB c || digB c

def nameB (l : List UInt8) : Bool := headB l && (decide (1 ≤ l.length) && decide (l.length ≤ 12))

theorem headB_snoc (l : List UInt8) (c : UInt8) : headB (l ++ [c]) = (headB l && (letB c || (!l.isEmpty && digB c))) := by
  cases l with
  | nil => simp [headB]
  | cons a l => simp [headB, Bool.and_assoc]

theorem headB_prefix {l m : List UInt8} (h : headB (l ++ m) = true) : headB l = true := by
  cases l with
  | nil => rfl
  | cons a l =>
    simp only [List.cons_append, headB, Bool.and_eq_true, List.all_append] at h ⊢
    exact ⟨h.1, h.2.1⟩

theorem take_snoc_bytes (s : ByteArray) (k : Nat) (h : k < s.size) : s.data.toList.take (k + 1) = s.data.toList.take k ++ [s[k]] := by
  rw [List.take_succ_eq_append_getElem (by simpa using h)]; rfl

/-! ### decimal texts -/
theorem dig_toNat (d : Nat) (h : d < 10) : (UInt8.ofNat (48 + d)).toNat = 48 + d := by
  have : (48 + d) % 256 = 48 + d := Nat.mod_eq_of_lt (by omega)
  simpa using this

/-- The letter of a digit. -/
def dch (d : Nat) : UInt8 := UInt8.ofNat (48 + d)

theorem parseUint10_snoc (l : List UInt8) (c : UInt8) : ∀ acc, parseUint10 acc (l ++ [c]) = match parseUint10 acc l with
    | .ok u => parseUint10 u [c]
    | e => e := by
  induction l with
  | nil => intro acc; simp [parseUint10]
  | cons a l ih =>
    intro acc
    simp only [List.cons_append, parseUint10]
    split
    · split
      · rfl
      · split
        · rfl
        · exact ih _
    · rfl

theorem decDigits_ne (u : Nat) : decDigits u ≠ [] := by
  intro e
  have := decDigits_length u
  rw [e] at this
  have := nDigits_pos u
  simp at *
  omega

theorem parse_dec (u : Nat) (h : u < 18446744073709551616) : parseUint10 0 (decDigits u) = .ok u := by
  induction u using Nat.strongRecOn with
  | _ u ih =>
    by_cases h1 : u < 10
    · rw [decDigits, dif_pos h1]
      simp only [parseUint10, dig_toNat u h1]
      rw [if_pos (by omega), if_neg (by omega), if_neg (by omega)]
      congr 1; omega
    · rw [decDigits, dif_neg h1, parseUint10_snoc, ih (u / 10) (by omega) (by omega)]
      simp only [parseUint10, dig_toNat (u % 10) (by omega)]
      rw [if_pos (by omega), if_neg (by omega), if_neg (by omega)]
      congr 1; omega

theorem decDigits_first (u : Nat) : ∃ c r, decDigits u = c :: r ∧ 48 ≤ c.toNat ∧ c.toNat ≤ 57 := by
  induction u using Nat.strongRecOn with
  | _ u ih =>
    by_cases h1 : u < 10
    · rw [decDigits, dif_pos h1]
      exact ⟨_, _, rfl, by rw [dig_toNat u h1]; omega, by rw [dig_toNat u h1]; omega⟩
    · rw [decDigits, dif_neg h1]
      obtain ⟨c, r, e, h2, h3⟩ := ih (u / 10) (by omega)
      exact ⟨c, _, by rw [e]; rfl, h2, h3⟩

theorem atoi_itoa (n : Int) (h0 : -9223372036854775808 ≤ n) (h1 : n ≤ 9223372036854775807) : atoiAll (itoa n) = .ok n := by
  unfold itoa
  split
  · rw [atoiAll_minus, parseMag, if_neg (decDigits_ne _), parse_dec _ (by omega)]
    simp only [signed]
    rw [if_neg (by omega)]
    congr 1; omega
  · obtain ⟨c, r, e, h2, h3⟩ := decDigits_first n.toNat
    have hp := parse_dec n.toNat (by omega)
    rw [e] at hp ⊢
    rw [atoiAll_plain c r (by omega) (by omega), parseMag, if_neg (by simp), hp]
    simp only [signless]
    rw [if_neg (by omega)]
    congr 1; omega

/-- The number of which l is the decimal text. -/
def numO (l : List UInt8) : Option Int :=
  match atoiAll l with
  | .ok v => if itoa v = l then some v else none
  | _ => none

theorem numO_itoa (n : Int) (h0 : -9223372036854775808 ≤ n) (h1 : n ≤ 9223372036854775807) : numO (itoa n) = some n := by
  unfold numO; rw [atoi_itoa n h0 h1]; simp

theorem numO_some {l : List UInt8} {v : Int} (h : numO l = some v) : itoa v = l ∧ -9223372036854775808 ≤ v ∧ v ≤ 9223372036854775807 := by
  unfold numO at h
  split at h
  · next w hw =>
    split at h
    · cases h
      exact ⟨by assumption, atoiAll_bounds hw⟩
    · cases h
  · cases h

/-- What is handed back of a text, within limits. -/
def numV (l : List UInt8) (least most : Int) : Int := match numO l with | some v => if v < least ∨ most < v then 0 else v | none => 0
def numB (l : List UInt8) (least most : Int) : Bool := match numO l with | some v => if v < least ∨ most < v then false else true | none => false

/-! ### the same by steps -/
def w64 (x : Int) : Int := (x + 9223372036854775808) % 18446744073709551616 - 9223372036854775808

theorem w64_id {x : Int} (h : -9223372036854775808 ≤ x ∧ x ≤ 9223372036854775807) : w64 x = x := by unfold w64; omega
theorem w64_bd (x : Int) : -9223372036854775808 ≤ w64 x ∧ w64 x ≤ 9223372036854775807 := by unfold w64; omega

def stepN (neg : Bool) (n : Int) (c : UInt8) : Int := if neg then w64 (w64 (10 * n) - ((c.toNat : Int) - 48)) else w64 (w64 (10 * n) + ((c.toNat : Int) - 48))
def foldN (neg : Bool) (l : List UInt8) : Int := l.foldl (stepN neg) 0

theorem foldN_snoc (neg : Bool) (l : List UInt8) (c : UInt8) : foldN neg (l ++ [c]) = stepN neg (foldN neg l) c := by simp [foldN]

theorem foldN_bd (neg : Bool) (l : List UInt8) : -9223372036854775808 ≤ foldN neg l ∧ foldN neg l ≤ 9223372036854775807 := by
  rcases List.eq_nil_or_concat l with rfl | ⟨m, c, rfl⟩
  · simp [foldN]
  · rw [List.concat_eq_append, foldN_snoc]
    unfold stepN
    split <;> exact w64_bd _

theorem foldN_dec (u : Nat) : (u < 9223372036854775808 → foldN false (decDigits u) = u) ∧ (u ≤ 9223372036854775808 → foldN true (decDigits u) = -(u : Int)) := by
  induction u using Nat.strongRecOn with
  | _ u ih =>
    by_cases h1 : u < 10
    · rw [decDigits, dif_pos h1]
      simp only [foldN, List.foldl_cons, List.foldl_nil, stepN, dig_toNat u h1]
      constructor
      · intro h; simp only [Bool.false_eq_true, if_false]; rw [w64_id (x := 10 * 0) (by omega), w64_id (by omega)]; omega
      · intro h; simp only [if_true]; rw [w64_id (x := 10 * 0) (by omega), w64_id (by omega)]; omega
    · rw [decDigits, dif_neg h1, foldN_snoc, foldN_snoc]
      obtain ⟨i1, i2⟩ := ih (u / 10) (by omega)
      simp only [stepN, dig_toNat (u % 10) (by omega)]
      constructor
      · intro h; rw [i1 (by omega)]; simp only [Bool.false_eq_true, if_false]; rw [w64_id (x := 10 * _) (by omega), w64_id (by omega)]; omega
      · intro h; rw [i2 (by omega)]; simp only [if_true]; rw [w64_id (x := 10 * _) (by omega), w64_id (by omega)]; omega

theorem decDigits_digs (u : Nat) : (decDigits u).all digB = true := by
  induction u using Nat.strongRecOn with
  | _ u ih =>
    by_cases h1 : u < 10
    · rw [decDigits, dif_pos h1]
      simp only [List.all_cons, List.all_nil, Bool.and_true, digB, dig_toNat u h1, Bool.and_eq_true, decide_eq_true_eq]
      omega
    · rw [decDigits, dif_neg h1, List.all_append, ih _ (by omega)]
      simp only [List.all_cons, List.all_nil, Bool.and_true, Bool.true_and, digB, dig_toNat (u % 10) (by omega), Bool.and_eq_true, decide_eq_true_eq]
      omega

/-- The text behind its sign. -/
def tailN (l : List UInt8) : List UInt8 := match l with | [] => [] | c :: r => if c.toNat = 45 then r else c :: r
def negN (l : List UInt8) : Bool := match l with | [] => false | c :: _ => decide (c.toNat = 45)

theorem itoa_tail (n : Int) (h0 : -9223372036854775808 ≤ n) (h1 : n ≤ 9223372036854775807) : (tailN (itoa n)).all digB = true ∧ foldN (negN (itoa n)) (tailN (itoa n)) = n := by
  unfold itoa
  split
  · have e : (45 : UInt8).toNat = 45 := rfl
    simp only [tailN, negN, e, if_true, decide_true]
    exact ⟨decDigits_digs _, by rw [(foldN_dec _).2 (by omega)]; omega⟩
  · obtain ⟨c, r, e, h2, h3⟩ := decDigits_first n.toNat
    have hd := decDigits_digs n.toNat
    have hf := (foldN_dec n.toNat).1 (by omega)
    rw [e] at hd hf ⊢
    have hc : ¬ c.toNat = 45 := by omega
    simp only [tailN, negN, if_neg hc, decide_eq_false hc]
    exact ⟨hd, by rw [hf]; omega⟩

theorem numO_bad {l : List UInt8} (h : (tailN l).all digB = false) : numO l = none := by
  cases hn : numO l with
  | none => rfl
  | some v =>
    obtain ⟨e, h0, h1⟩ := numO_some hn
    have := (itoa_tail v h0 h1).1
    rw [e, h] at this
    cases this

theorem numO_fold (l : List UInt8) : numO l = if itoa (foldN (negN l) (tailN l)) = l then some (foldN (negN l) (tailN l)) else none := by
  split
  · next h =>
    have := numO_itoa _ (foldN_bd (negN l) (tailN l)).1 (foldN_bd (negN l) (tailN l)).2
    rw [h] at this
    exact this
  · next h =>
    cases hn : numO l with
    | none => rfl
    | some v =>
      obtain ⟨e, h0, h1⟩ := numO_some hn
      have := (itoa_tail v h0 h1).2
      rw [e] at this
      rw [this] at h
      exact absurd e h

theorem nDigits_le19 (u : Nat) (h : u < 10000000000000000000) : nDigits u ≤ 19 := by
  apply Nat.le_of_not_lt
  intro hk
  have : ∀ (k u : Nat), k + 1 < nDigits u → 10 ^ (k + 1) ≤ u := by
    intro k
    induction k with
    | zero =>
      intro u hu
      by_cases h1 : u < 10
      · rw [nDigits_small h1] at hu; omega
      · omega
    | succ k ih =>
      intro u hu
      by_cases h1 : u < 10
      · rw [nDigits_small h1] at hu; omega
      · rw [nDigits_big h1] at hu
        have := ih (u / 10) (by omega)
        rw [Nat.pow_succ]
        omega
  have := this 18 u hk
  omega

theorem itoa_len20 (n : Int) (h0 : -9223372036854775808 ≤ n) (h1 : n ≤ 9223372036854775807) : 1 ≤ (itoa n).length ∧ (itoa n).length ≤ 20 := by
  unfold itoa
  split
  · rw [List.length_cons, decDigits_length]
    have := nDigits_le19 n.natAbs (by omega)
    omega
  · rw [decDigits_length]
    have := nDigits_le19 n.toNat (by omega)
    have := nDigits_pos n.toNat
    omega

theorem numO_long {l : List UInt8} (h : l.length = 0 ∨ 20 < l.length) : numO l = none := by
  cases hn : numO l with
  | none => rfl
  | some v =>
    obtain ⟨e, h0, h1⟩ := numO_some hn
    have := itoa_len20 v h0 h1
    rw [e] at this
    omega

end Wo
end Go.Proofs.YtflcdkibjakciaaGreatDoor

namespace Go.Proofs.YtflcdkibjakciaaGreatDoor
namespace Cr
open Go.Lib

/-- The letter of mark i. -/
def letL : List UInt8 := [112, 103, 99, 102, 108]
/-- The letters of marks, up to the first k. -/
def mkTo (m k : Nat) : List UInt8 := (List.range k).flatMap fun i => if m / 2 ^ i % 2 = 1 then [letL.getD i 0] else []
def mword (m : Nat) : List UInt8 := if mkTo m 5 = [] then [45] else mkTo m 5

theorem mkTo_succ (m k : Nat) : mkTo m (k + 1) = mkTo m k ++ if m / 2 ^ k % 2 = 1 then [letL.getD k 0] else [] := by
  unfold mkTo
  rw [List.range_succ, List.flatMap_append]
  simp

/-- What mark a byte is. -/
def markOf (c : UInt8) : Nat := if c = 112 then 1 else if c = 103 then 2 else if c = 99 then 4 else if c = 102 then 8 else if c = 108 then 16 else 0

/-- The marks of letters. -/
def fold (l : List UInt8) : Nat := l.foldl (fun n c => n ||| markOf c) 0
/-- A word without its dash. -/
def undash (l : List UInt8) : List UInt8 := match l with | [] => [] | c :: r => if c = 45 then r else c :: r

/-- The marks of a word, if it is one. -/
def unm (s : List UInt8) : Option Nat := (List.range 32).find? fun m => mword m == s

theorem mword_inj : ∀ m, m < 32 → ∀ k, k < 32 → mword m = mword k → m = k := by decide +kernel
theorem fold_mword : ∀ m, m < 32 → fold (undash (mword m)) = m := by decide +kernel
theorem mword_word : ∀ m, m < 32 → (mword m).length ≤ 5 ∧ (mword m).length ≠ 0 ∧ ∀ c ∈ mword m, 33 ≤ c.toNat ∧ c.toNat ≤ 126 ∧ c ≠ 35 := by decide +kernel

theorem markOf_lt (c : UInt8) : markOf c < 32 := by
  unfold markOf
  repeat' split
  all_goals decide

theorem fold_lt (l : List UInt8) : fold l < 32 := by
  unfold fold
  have : ∀ (l : List UInt8) (n : Nat), n < 32 → l.foldl (fun n c => n ||| markOf c) n < 32 := by
    intro l
    induction l with
    | nil => intro n h; exact h
    | cons c r ih => intro n h; exact ih _ (Nat.or_lt_two_pow (n := 5) h (markOf_lt c))
  exact this l 0 (by decide)

theorem fold_snoc (l : List UInt8) (c : UInt8) : fold (l ++ [c]) = fold l ||| markOf c := by unfold fold; rw [List.foldl_append]; rfl

theorem unm_some {s : List UInt8} {m : Nat} (h : unm s = some m) : m < 32 ∧ mword m = s := by
  unfold unm at h
  have h1 := List.mem_of_find?_eq_some h
  have h2 := List.find?_some h
  exact ⟨List.mem_range.1 h1, by simpa using h2⟩

theorem unm_mword {m : Nat} (h : m < 32) : unm (mword m) = some m := by
  cases e : unm (mword m) with
  | some k =>
    obtain ⟨h1, h2⟩ := unm_some e
    rw [mword_inj k h1 m h h2]
  | none =>
    unfold unm at e
    have := List.find?_eq_none.1 e m (List.mem_range.2 h)
    simp at this

/-- Both ways to read marks are one. -/
theorem unm_fold (s : List UInt8) : unm s = if mword (fold (undash s)) = s then some (fold (undash s)) else none := by
  by_cases h : mword (fold (undash s)) = s
  · rw [if_pos h]
    have := unm_mword (fold_lt (undash s))
    rw [h] at this
    exact this
  · rw [if_neg h]
    cases e : unm s with
    | none => rfl
    | some m =>
      obtain ⟨h1, h2⟩ := unm_some e
      exfalso
      apply h
      rw [← h2, fold_mword m h1]
end Cr
end Go.Proofs.YtflcdkibjakciaaGreatDoor

namespace Go.Proofs.YtflcdkibjakciaaGreatDoor
namespace Wo
open Go.Lib

/-! ### lines and words, byte by byte -/
def lnsA : List UInt8 → List UInt8 → List (List UInt8)
  | cur, [] => if cur = [] then [] else [cur]
  | cur, c :: r => if c = 10 then cur :: lnsA [] r else lnsA (cur ++ [c]) r
/-- The lines of a text, without their ends. -/
def lns (l : List UInt8) : List (List UInt8) := lnsA [] l

def pcs (s : UInt8) : List UInt8 → List UInt8 → List (List UInt8)
  | cur, [] => [cur]
  | cur, c :: r => if c = s then cur :: pcs s [] r else pcs s (cur ++ [c]) r

/-- The words of a line: what stands between blanks, in front of a '#'. -/
def wds (l : List UInt8) : List (List UInt8) := (pcs 32 [] (l.takeWhile (· != 35))).filter (· ≠ [])

def plainB (c : UInt8) : Bool := c == 10 || (decide (32 ≤ (c.toNat : Int)) && decide ((c.toNat : Int) ≤ 126))

def sErr (l : List UInt8) : Int :=
  if 16384 < l.length ∨ 400 < l.count 10 then 1 else if (l ≠ [] ∧ l.getLast? ≠ some 10) ∨ l.all plainB = false then 4 else 0
def sList (l : List UInt8) : List (List (List UInt8)) := if sErr l = 0 then (lns l).map wds else []

/-! ### by the first end of a line -/
theorem lnsA_none : ∀ (l cur : List UInt8), (∀ c ∈ l, c ≠ 10) → lnsA cur l = if cur ++ l = [] then [] else [cur ++ l]
  | [], cur, _ => by simp [lnsA]
  | c :: r, cur, h => by
    have hc : c ≠ 10 := h c List.mem_cons_self
    rw [lnsA, if_neg hc, lnsA_none r _ (fun x hx => h x (List.mem_cons_of_mem _ hx))]
    simp

theorem lnsA_hit : ∀ (a r cur : List UInt8), (∀ c ∈ a, c ≠ 10) → lnsA cur (a ++ 10 :: r) = (cur ++ a) :: lns r
  | [], r, cur, _ => by simp [lnsA, lns]
  | c :: a, r, cur, h => by
    have hc : c ≠ 10 := h c List.mem_cons_self
    rw [List.cons_append, lnsA, if_neg hc, lnsA_hit a r _ (fun x hx => h x (List.mem_cons_of_mem _ hx))]
    simp

theorem lns_hit {a r : List UInt8} (h : ∀ c ∈ a, c ≠ 10) : lns (a ++ 10 :: r) = a :: lns r := by unfold lns; rw [lnsA_hit a r [] h]; rfl
theorem lns_nil : lns [] = [] := rfl

theorem pcs_none (s : UInt8) : ∀ (l cur : List UInt8), (∀ c ∈ l, c ≠ s) → pcs s cur l = [cur ++ l]
  | [], cur, _ => by simp [pcs]
  | c :: r, cur, h => by
    have hc : c ≠ s := h c List.mem_cons_self
    rw [pcs, if_neg hc, pcs_none s r _ (fun x hx => h x (List.mem_cons_of_mem _ hx))]
    simp

theorem pcs_hit (s : UInt8) : ∀ (a r cur : List UInt8), (∀ c ∈ a, c ≠ s) → pcs s cur (a ++ s :: r) = (cur ++ a) :: pcs s [] r
  | [], r, cur, _ => by simp [pcs]
  | c :: a, r, cur, h => by
    have hc : c ≠ s := h c List.mem_cons_self
    rw [List.cons_append, pcs, if_neg hc, pcs_hit s a r _ (fun x hx => h x (List.mem_cons_of_mem _ hx))]
    simp

theorem cut_at {l : List UInt8} {c : UInt8} {o : Nat} (h1 : l[o]? = some c) (h2 : ∀ k, k < o → l[k]? ≠ some c) : l = l.take o ++ c :: l.drop (o + 1) ∧ ∀ x ∈ l.take o, x ≠ c := by
  obtain ⟨ho, he⟩ := List.getElem?_eq_some_iff.1 h1
  refine ⟨?_, fun x hx e => ?_⟩
  · conv => lhs; rw [← List.take_append_drop o l]
    rw [List.drop_eq_getElem_cons ho, he]
  · obtain ⟨k, hk, hkx⟩ := List.mem_iff_getElem.1 hx
    rw [List.length_take] at hk
    exact h2 k (by omega) (by rw [List.getElem?_eq_getElem (by omega)]; rw [List.getElem_take] at hkx; rw [hkx, e])

theorem none_of {l : List UInt8} {c : UInt8} (h : ∀ k : Nat, l[k]? ≠ some c) : ∀ x ∈ l, x ≠ c := fun x hx e => by
  obtain ⟨k, hk, hkx⟩ := List.mem_iff_getElem.1 hx
  exact h k (by rw [List.getElem?_eq_getElem hk, hkx, e])

/-- IndexByte's answer. -/
theorem lns_ix {l : List UInt8} {o : Nat} (h : indexByte l 10 = (o : Int)) : lns l = l.take o :: lns (l.drop (o + 1)) := by
  obtain ⟨h1, h2⟩ := indexByte_some h
  obtain ⟨e, hn⟩ := cut_at h1 h2
  conv => lhs; rw [e]
  exact lns_hit hn

theorem takeWhile_ix {l : List UInt8} {c : UInt8} {o : Nat} (h : indexByte l c = (o : Int)) : l.takeWhile (· != c) = l.take o := by
  obtain ⟨h1, h2⟩ := indexByte_some h
  obtain ⟨e, hn⟩ := cut_at h1 h2
  conv => lhs; rw [e]
  rw [List.takeWhile_append_of_pos (fun x hx => by simpa using hn x hx)]
  simp

theorem takeWhile_none {l : List UInt8} {c : UInt8} (h : indexByte l c = -1) : l.takeWhile (· != c) = l := by
  have hn := none_of (indexByte_none h)
  have := List.takeWhile_append_of_pos (p := (· != c)) (l₁ := l) (l₂ := []) (fun x hx => by simpa using hn x hx)
  simpa using this

theorem pcs_ix {l : List UInt8} {c : UInt8} {o : Nat} (h : indexByte l c = (o : Int)) : pcs c [] l = l.take o :: pcs c [] (l.drop (o + 1)) := by
  obtain ⟨h1, h2⟩ := indexByte_some h
  obtain ⟨e, hn⟩ := cut_at h1 h2
  conv => lhs; rw [e]
  rw [pcs_hit c _ _ _ hn]; rfl

theorem pcs_no {l : List UInt8} {c : UInt8} (h : indexByte l c = -1) : pcs c [] l = [l] := by
  rw [pcs_none c _ _ (none_of (indexByte_none h))]; rfl

/-! ### the library's own words -/
theorem index_one (c : UInt8) : ∀ l : List UInt8, index l [c] = indexByte l c
  | [] => by simp [index, indexByte]
  | a :: l => by
    have ih := index_one c l
    have e : ([c].isPrefixOf (a :: l)) = (a == c) := by
      simp only [List.isPrefixOf, Bool.and_true]
      exact BEq.comm
    rw [index, indexByte, ih, e]

theorem splitK_pcs (c : UInt8) : ∀ (n : Nat) (l : List UInt8), l.length < n → splitK [c] 0 (count l [c]) l = pcs c [] l
  | 0, _, h => by omega
  | n + 1, l, h => by
    rcases Int.lt_or_le (index l [c]) 0 with hx | hx
    · have hi : index l [c] = -1 := by have := index_ge l [c]; omega
      rw [count_miss hi, pcs_no (by rw [← index_one]; exact hi)]
      rfl
    · obtain ⟨o, ho⟩ : ∃ o : Nat, index l [c] = (o : Int) := ⟨(index l [c]).toNat, by omega⟩
      have hb : indexByte l c = (o : Int) := by rw [← index_one]; exact ho
      have hlt : o < l.length := (List.getElem?_eq_some_iff.1 (indexByte_some hb).1).1
      rw [count_hit (by simp) ho, Nat.add_comm, splitK, if_neg (by rw [ho, beq_iff_eq]; omega), ho, pcs_ix hb]
      show l.take (o + 0) :: splitK [c] 0 _ (l.drop (o + 1)) = _
      rw [show o + [c].length = o + 1 from rfl, splitK_pcs c n _ (by rw [List.length_drop]; omega)]
      simp

/-- What strings.Split gives at a single byte. -/
theorem split_pcs (c : UInt8) (s : ByteArray) : (splitB ⟨#[c]⟩ 0 (countB s ⟨#[c]⟩) s).map (·.data.toList) = pcs c [] s.data.toList := by
  rw [splitB_data]
  exact splitK_pcs c _ _ (Nat.lt_succ_self _)

/-- What strings.Cut gives at a single byte. -/
theorem cut_one (l : List UInt8) (c : UInt8) : (cut l [c]).1 = l.takeWhile (· != c) := by
  unfold cut
  rw [index_one]
  split
  · next h =>
    obtain ⟨o, ho⟩ : ∃ o : Nat, indexByte l c = (o : Int) := ⟨(indexByte l c).toNat, by omega⟩
    rw [takeWhile_ix ho, ho]; rfl
  · next h =>
    have := index_ge l [c]
    rw [index_one] at this
    rw [takeWhile_none (by omega)]

theorem trim_end (l : List UInt8) (c : UInt8) : trimSuffix (l ++ [c]) [c] = l := by
  unfold trimSuffix hasSuffix
  rw [if_pos (by rw [List.isSuffixOf_iff_suffix]; exact ⟨l, rfl⟩)]
  simp

theorem suffix_one (l : List UInt8) (c : UInt8) : hasSuffix l [c] = decide (l.getLast? = some c) := by
  unfold hasSuffix
  rw [Bool.eq_iff_iff, List.isSuffixOf_iff_suffix, decide_eq_true_eq]
  constructor
  · rintro ⟨t, rfl⟩; simp
  · intro h
    obtain ⟨t, rfl⟩ := List.getLast?_eq_some_iff.1 h
    exact ⟨t, rfl⟩

theorem lnsA_len : ∀ (l cur : List UInt8), (lnsA cur l).length ≤ l.length + (if cur = [] then 0 else 1)
  | [], cur => by
    rw [lnsA]
    split <;> simp
  | c :: r, cur => by
    rw [lnsA]
    split
    · have := lnsA_len r []
      simp only [if_true] at this
      simp only [List.length_cons]
      split <;> omega
    · have := lnsA_len r (cur ++ [c])
      simp only [List.append_eq_nil_iff, List.cons_ne_self, and_false, if_false] at this
      simp only [List.length_cons]
      split <;> omega

theorem lns_len (l : List UInt8) : (lns l).length ≤ l.length := by
  have := lnsA_len l []
  simpa [lns] using this

theorem pcs_len : ∀ (s : UInt8) (l cur : List UInt8), (pcs s cur l).length ≤ l.length + 1
  | s, [], cur => by simp [pcs]
  | s, c :: r, cur => by
    rw [pcs]
    split
    · have := pcs_len s r []
      simp only [List.length_cons]; omega
    · have := pcs_len s r (cur ++ [c])
      simp only [List.length_cons]; omega

/-- An end of a line is there. -/
theorem ix_of_last {l : List UInt8} (h : l.getLast? = some 10) : ∃ o : Nat, indexByte l 10 = (o : Int) ∧ o < l.length := by
  rcases Int.lt_or_le (indexByte l 10) 0 with hx | hx
  · exfalso
    have hi : indexByte l 10 = -1 := by have := index_ge l [10]; rw [index_one] at this; omega
    obtain ⟨t, rfl⟩ := List.getLast?_eq_some_iff.1 h
    exact none_of (indexByte_none hi) 10 (by simp) rfl
  · refine ⟨(indexByte l 10).toNat, by omega, ?_⟩
    have := (indexByte_some (o := (indexByte l 10).toNat) (show indexByte l 10 = _ by omega)).1
    exact (List.getElem?_eq_some_iff.1 this).1

/-- What is left behind it ends so, too. -/
theorem last_drop {l : List UInt8} (h : l.getLast? = some 10) (k : Nat) : l.drop k = [] ∨ (l.drop k).getLast? = some 10 := by
  by_cases hk : k < l.length
  · right
    rw [List.getLast?_drop, if_neg (by omega)]
    exact h
  · exact .inl (List.drop_of_length_le (by omega))

/-! ### lines that are written -/
def wordB (w : List UInt8) : Bool := !w.isEmpty && w.all fun c => decide (33 ≤ (c.toNat : Int)) && decide ((c.toNat : Int) ≤ 126) && !(c == 35)

def lineT (ws : List (List UInt8)) : List UInt8 := join ws [32] ++ [10]
def jText (LL : List (List (List UInt8))) : List UInt8 := LL.flatMap lineT
def jErr (LL : List (List (List UInt8))) : Int := if 400 < LL.length then 1 else if (LL.all fun ws => ws.all wordB) = false then 4 else if 16384 < (jText LL).length then 1 else 0
def jOut (LL : List (List (List UInt8))) : List UInt8 := if jErr LL = 0 then jText LL else []

theorem jText_snoc (LL : List (List (List UInt8))) (ws : List (List UInt8)) : jText (LL ++ [ws]) = jText LL ++ (join ws [32] ++ [10]) := by simp [jText, lineT]

end Wo
end Go.Proofs.YtflcdkibjakciaaGreatDoor
