/-
  MERGED (mergek.py): the texts Te, Sc, Hp, Pm.
-/
import Derived.Test.YtflcdkibjakciaaGreatDoorM1
import Derived.Test.YtflcdkibjakciaaGreatDoorRows
import Derived.WalkKit
import Derived.WalkSpells
import Derived.WalkLawsBesides
import Derived.Lib.Hide
import Derived.Handy
import Derived.StillTailTactics
import Derived.Deep.QuietTactic
import Derived.BigQuiet
import Derived.Shelf.SlSortCmp.NoneTotal

namespace Go.Proofs.YtflcdkibjakciaaGreatDoor
namespace Te
open Go.Lib

inductive Tm where
  | mk (op num more : Int) (kids : List Tm)

def Tm.op : Tm → Int | .mk o _ _ _ => o
def Tm.num : Tm → Int | .mk _ n _ _ => n
def Tm.more : Tm → Int | .mk _ _ m _ => m
def Tm.kids : Tm → List Tm | .mk _ _ _ K => K

mutual
/-- How many terms there are in a term. -/
def count : Tm → Nat
  | .mk _ _ _ K => 1 + countL K
def countL : List Tm → Nat
  | [] => 0
  | k :: r => count k + countL r
end

mutual
/-- How deep a term is. -/
def depth : Tm → Nat
  | .mk _ _ _ K => depthL K + 1
def depthL : List Tm → Nat
  | [] => 0
  | k :: r => max (depth k) (depthL r)
end

def single (n : Int) : Bool := n == 1 || n == 2 || n == 4 || n == 8 || n == 16

/-- The fields of one term. -/
def selfB (o n m : Int) (k : Nat) : Bool :=
  if o = 1 then n == 0 && m == 0 && k == 0
  else if o = 2 then decide (0 ≤ n) && decide (n ≤ 39) && m == 0 && k == 0
  else if o = 3 then decide (0 ≤ n) && decide (n ≤ 40) && m == 0 && k == 0
  else if o = 4 then single n && m == 0 && k == 0
  else if o = 5 then decide (0 ≤ n) && decide (n ≤ 15) && m == 0 && k == 0
  else if o = 6 then decide (2 ≤ n) && decide (n ≤ 10) && m == 0 && k == 0
  else if o = 7 then decide (1 ≤ n) && decide (n ≤ 10) && single m && k == 0
  else if o = 8 then decide (1 ≤ n) && decide (n ≤ 10) && m == 0 && k == 0
  else if o = 9 ∨ o = 10 then n == 0 && m == 0 && decide (1 ≤ k)
  else if o = 11 then n == 0 && m == 0 && k == 1
  else false

mutual
def form : Tm → Bool
  | .mk o n m K => selfB o n m K.length && formL K
def formL : List Tm → Bool
  | [] => true
  | k :: r => form k && formL r
end

/-- Right, at most so deep, as the program asks. -/
def rightB : Nat → Tm → Bool
  | 0, _ => false
  | d + 1, .mk o n m K => selfB o n m K.length && decide (K.length ≤ 40) && K.all (rightB d)

/-- Why a term is not right. -/
def chkT (t : Tm) : Int := if 40 < count t then 1 else if 8 < depth t ∨ form t = false then 16 else 0

theorem countL_len (K : List Tm) : K.length ≤ countL K := by
  induction K with
  | nil => simp [countL]
  | cons k r ih =>
    rw [List.length_cons, countL]
    have : 1 ≤ count k := by cases k; rw [count]; omega
    omega

theorem count_pos (t : Tm) : 1 ≤ count t := by cases t; rw [count]; omega

theorem countL_mem {K : List Tm} {k : Tm} (h : k ∈ K) : count k ≤ countL K := by
  induction K with
  | nil => cases h
  | cons a r ih =>
    rw [countL]
    rcases List.mem_cons.1 h with rfl | h
    · omega
    · have := ih h; omega

theorem depthL_le {K : List Tm} {d : Nat} : depthL K ≤ d ↔ ∀ k ∈ K, depth k ≤ d := by
  induction K with
  | nil => simp [depthL]
  | cons a r ih => rw [depthL, Nat.max_le, ih]; simp

theorem formL_iff {K : List Tm} : formL K = true ↔ ∀ k ∈ K, form k = true := by
  induction K with
  | nil => simp [formL]
  | cons a r ih => rw [formL, Bool.and_eq_true, ih]; simp

theorem rightB_eq : ∀ (d : Nat) (t : Tm), count t ≤ 40 → rightB d t = (decide (depth t ≤ d) && form t)
  | 0, .mk o n m K, _ => by
    rw [rightB, depth]
    simp
  | d + 1, .mk o n m K, h => by
    rw [rightB, depth, form]
    rw [count] at h
    have hl := countL_len K
    have e : decide (K.length ≤ 40) = true := decide_eq_true (by omega)
    rw [e, Bool.and_true]
    have hK : ∀ k ∈ K, rightB d k = (decide (depth k ≤ d) && form k) := fun k hk => rightB_eq d k (by have := countL_mem hk; omega)
    have e2 : K.all (rightB d) = (decide (depthL K ≤ d) && formL K) := by
      rw [Bool.eq_iff_iff, List.all_eq_true, Bool.and_eq_true, decide_eq_true_eq, depthL_le, formL_iff]
      constructor
      · intro h2
        refine ⟨fun k hk => ?_, fun k hk => ?_⟩
        · have := h2 k hk; rw [hK k hk, Bool.and_eq_true, decide_eq_true_eq] at this; exact this.1
        · have := h2 k hk; rw [hK k hk, Bool.and_eq_true] at this; exact this.2
      · rintro ⟨h2, h3⟩ k hk
        rw [hK k hk, Bool.and_eq_true, decide_eq_true_eq]
        exact ⟨h2 k hk, h3 k hk⟩
    rw [e2]
    have e3 : decide (depthL K + 1 ≤ d + 1) = decide (depthL K ≤ d) := by rw [decide_eq_decide]; omega
    rw [e3]
    cases selfB o n m K.length <;> cases decide (depthL K ≤ d) <;> simp

theorem chkT_right (t : Tm) : chkT t = if 40 < count t then 1 else if rightB 8 t = false then 16 else 0 := by
  unfold chkT
  by_cases h : 40 < count t
  · rw [if_pos h, if_pos h]
  · rw [if_neg h, if_neg h, rightB_eq 8 t (by omega)]
    by_cases h8 : 8 < depth t
    · rw [if_pos (.inl h8), if_pos]
      have : decide (depth t ≤ 8) = false := decide_eq_false (by omega)
      rw [this]; rfl
    · have : decide (depth t ≤ 8) = true := decide_eq_true (by omega)
      rw [this, Bool.true_and]
      by_cases hf : form t = false
      · rw [if_pos (.inr hf), if_pos hf]
      · rw [if_neg (by rintro (h | h); exact h8 h; exact hf h), if_neg hf]

/-! ### words -/
/-- The word of an operation. -/
def opW (o : Int) : List UInt8 :=
  if o = 1 then [116, 114, 117, 101]
  else if o = 2 then [99, 114, 111, 112]
  else if o = 3 then [102, 97, 109, 105, 108, 121]
  else if o = 4 then [109, 97, 114, 107]
  else if o = 5 then [122, 111, 110, 101]
  else if o = 6 then [115, 97, 109, 101]
  else if o = 7 then [98, 101, 102, 111, 114, 101]
  else if o = 8 then [107, 110, 111, 119, 110]
  else if o = 9 then [97, 110, 100]
  else if o = 10 then [111, 114]
  else if o = 11 then [110, 111, 116]
  else []

/-- Which operation a word is; 0: none. -/
def opOf (w : List UInt8) : Int :=
  if w = opW 1 then 1 else if w = opW 2 then 2 else if w = opW 3 then 3 else if w = opW 4 then 4 else if w = opW 5 then 5 else if w = opW 6 then 6
  else if w = opW 7 then 7 else if w = opW 8 then 8 else if w = opW 9 then 9 else if w = opW 10 then 10 else if w = opW 11 then 11 else 0

mutual
/-- The words of a right term. -/
def textW : Tm → List (List UInt8)
  | .mk o n m K => opW o ::
    (if o = 1 then []
    else if o = 4 then [Cr.mword n.toNat]
    else if o = 7 then [itoa n, Cr.mword m.toNat]
    else if o = 11 then textL K
    else if o = 9 ∨ o = 10 then [40] :: (textL K ++ [[41]])
    else [itoa n])
def textL : List Tm → List (List UInt8)
  | [] => []
  | k :: r => textW k ++ textL r
end

/-- The mark that a letter is. -/
def letter (s : List UInt8) : Option Int :=
  match s with
  | [c] => if Cr.markOf c = 0 then none else some (Cr.markOf c : Int)
  | _ => none

def numM (s : List UInt8) : Option Int :=
  match Wo.numO s with
  | some v => if v < -1125899906842624 ∨ 1125899906842624 < v then none else some v
  | none => none

/-- A term is read from the beginning of words, by what reads a term and a list behind its first word. -/
def stepT (rt : List (List UInt8) → Option (Tm × List (List UInt8))) (rl : List (List UInt8) → Option (List Tm × List (List UInt8))) : List (List UInt8) → Option (Tm × List (List UInt8))
  | [] => none
  | x :: r =>
    if opOf x = 0 then none
    else if opOf x = 1 then some (.mk 1 0 0 [], r)
    else if opOf x = 11 then
      match rt r with
      | some (k, r1) => some (.mk 11 0 0 [k], r1)
      | none => none
    else if opOf x = 9 ∨ opOf x = 10 then
      match r with
      | [] => none
      | y :: r1 =>
        if y = [40] then
          match rl r1 with
          | some (K, r2) => some (.mk (opOf x) 0 0 K, r2)
          | none => none
        else none
    else if opOf x = 4 then
      match r with
      | [] => none
      | y :: r1 =>
        match letter y with
        | some m => some (.mk 4 m 0 [], r1)
        | none => none
    else
      match r with
      | [] => none
      | y :: r1 =>
        match numM y with
        | none => none
        | some v =>
          if opOf x = 7 then
            match r1 with
            | [] => none
            | z :: r2 =>
              match letter z with
              | some m => some (.mk 7 v m [], r2)
              | none => none
          else some (.mk (opOf x) v 0 [], r1)
/-- Terms up to a parenthesis. -/
def stepL (rt : List (List UInt8) → Option (Tm × List (List UInt8))) (rl : List (List UInt8) → Option (List Tm × List (List UInt8))) : List (List UInt8) → Option (List Tm × List (List UInt8))
  | [] => none
  | y :: r =>
    if y = [41] then some ([], r)
    else
      match rt (y :: r) with
      | none => none
      | some (k, r1) =>
        match rl r1 with
        | none => none
        | some (K, r2) => some (k :: K, r2)

mutual
def readT : Nat → List (List UInt8) → Option (Tm × List (List UInt8))
  | 0, _ => none
  | f + 1, w => stepT (readT f) (readL f) w
def readL : Nat → List (List UInt8) → Option (List Tm × List (List UInt8))
  | 0, _ => none
  | f + 1, w => stepL (readT f) (readL f) w
end

theorem opOf_bd (w : List UInt8) : 0 ≤ opOf w ∧ opOf w ≤ 11 := by
  unfold opOf
  repeat' split
  all_goals omega

/-- What is read is shorter than what was there. -/
theorem read_len : ∀ f : Nat, (∀ w t r, readT f w = some (t, r) → r.length < w.length) ∧ (∀ w K r, readL f w = some (K, r) → r.length < w.length)
  | 0 => ⟨fun w t r h => by rw [readT] at h; (try cases h), fun w K r h => by rw [readL] at h; (try cases h)⟩
  | f + 1 => by
    obtain ⟨i1, i2⟩ := read_len f
    refine ⟨fun w t r h => ?_, fun w K r h => ?_⟩
    · cases w with
      | nil => rw [readT, stepT] at h; cases h
      | cons x w =>
        rw [readT, stepT.eq_def] at h
        dsimp only at h
        split at h
        · cases h
        split at h
        · cases h; simp
        split at h
        · split at h
          · next e => cases h; have := i1 _ _ _ e; rw [List.length_cons]; omega
          · cases h
        split at h
        · cases w with
          | nil => cases h
          | cons y w =>
            simp only at h
            split at h
            · split at h
              · next e => cases h; have := i2 _ _ _ e; simp only [List.length_cons]; omega
              · cases h
            · cases h
        split at h
        · cases w with
          | nil => cases h
          | cons y w =>
            simp only at h
            split at h
            · cases h; simp only [List.length_cons]; omega
            · cases h
        · cases w with
          | nil => cases h
          | cons y w =>
            simp only at h
            split at h
            · cases h
            split at h
            · cases w with
              | nil => cases h
              | cons z w =>
                simp only at h
                split at h
                · cases h; simp only [List.length_cons]; omega
                · cases h
            · cases h; simp only [List.length_cons]; omega
    · cases w with
      | nil => rw [readL, stepL] at h; cases h
      | cons y w =>
        rw [readL, stepL] at h
        split at h
        · cases h; simp
        · split at h
          · cases h
          · next e =>
            split at h
            · cases h
            · next e2 => cases h; have := i1 _ _ _ e; have := i2 _ _ _ e2; simp only [List.length_cons] at *; omega

/-! ### what was written is read -/
theorem letter_mword {m : Int} (h : single m = true) : letter (Cr.mword m.toNat) = some m := by
  simp only [single, Bool.or_eq_true, beq_iff_eq] at h
  rcases h with (((rfl | rfl) | rfl) | rfl) | rfl <;> decide +kernel

theorem numM_itoa {v : Int} (h : -1125899906842624 ≤ v) (h2 : v ≤ 1125899906842624) : numM (itoa v) = some v := by
  unfold numM
  rw [Wo.numO_itoa v (by omega) (by omega)]
  simp only
  rw [if_neg (by omega)]

theorem opOf_opW : ∀ o : Int, 1 ≤ o → o ≤ 11 → opOf (opW o) = o := by
  intro o h1 h2
  have : o = 1 ∨ o = 2 ∨ o = 3 ∨ o = 4 ∨ o = 5 ∨ o = 6 ∨ o = 7 ∨ o = 8 ∨ o = 9 ∨ o = 10 ∨ o = 11 := by omega
  rcases this with rfl | rfl | rfl | rfl | rfl | rfl | rfl | rfl | rfl | rfl | rfl <;> decide +kernel

theorem form_op {o n m : Int} {K : List Tm} (h : form (.mk o n m K) = true) : 1 ≤ o ∧ o ≤ 11 := by
  rw [form, Bool.and_eq_true] at h
  have h := h.1
  unfold selfB at h
  repeat' split at h
  all_goals first | omega | cases h

theorem opW_close : ∀ o : Int, 1 ≤ o → o ≤ 11 → opW o ≠ [41] := by
  intro o h1 h2
  have : o = 1 ∨ o = 2 ∨ o = 3 ∨ o = 4 ∨ o = 5 ∨ o = 6 ∨ o = 7 ∨ o = 8 ∨ o = 9 ∨ o = 10 ∨ o = 11 := by omega
  rcases this with rfl | rfl | rfl | rfl | rfl | rfl | rfl | rfl | rfl | rfl | rfl <;> decide +kernel

theorem back : ∀ f : Nat, (∀ t rest, form t = true → 2 * (textW t).length ≤ f → readT f (textW t ++ rest) = some (t, rest)) ∧ (∀ K rest, formL K = true → 2 * (textL K).length + 1 ≤ f → readL f (textL K ++ [41] :: rest) = some (K, rest))
  | 0 => ⟨fun t rest h hl => by cases t; rw [textW, List.length_cons] at hl; omega, fun K rest h hl => by omega⟩
  | f + 1 => by
    obtain ⟨i1, i2⟩ := back f
    refine ⟨fun t rest h hl => ?_, fun K rest h hl => ?_⟩
    · obtain ⟨o, n, m, K⟩ := t
      obtain ⟨o1, o2⟩ := form_op h
      have ho := opOf_opW o o1 o2
      rw [form, Bool.and_eq_true] at h
      obtain ⟨hs, hK⟩ := h
      rw [textW, List.cons_append, readT, stepT.eq_def]
      dsimp only
      rw [ho, if_neg (by omega)]
      rw [textW, List.length_cons] at hl
      by_cases h1 : o = 1
      · subst h1
        simp [selfB] at hs
        obtain ⟨⟨rfl, rfl⟩, rfl⟩ := hs
        simp
      rw [if_neg h1] at hl ⊢
      rw [if_neg h1]
      by_cases h11 : o = 11
      · subst h11
        simp [selfB] at hs
        obtain ⟨⟨rfl, rfl⟩, hk⟩ := hs
        match K, hk with
        | [k], _ =>
          simp only [textL, List.append_nil] at hl ⊢
          simp only [formL, Bool.and_true] at hK
          simp at hl ⊢
          rw [i1 k rest hK (by omega)]
      rw [if_neg h11]
      by_cases h9 : o = 9 ∨ o = 10
      · have e : (if o = 4 then [Cr.mword n.toNat] else if o = 7 then [itoa n, Cr.mword m.toNat] else if o = 11 then textL K else if o = 9 ∨ o = 10 then [40] :: (textL K ++ [[41]]) else [itoa n]) = [40] :: (textL K ++ [[41]]) := by
          rw [if_neg (by omega), if_neg (by omega), if_neg h11, if_pos h9]
        rw [e] at hl ⊢
        rw [if_pos h9]
        simp only [List.cons_append, List.append_assoc, List.nil_append, if_pos]
        rw [i2 K rest hK (by simp at hl; omega)]
        have e2 : n = 0 ∧ m = 0 := by
          unfold selfB at hs
          rw [if_neg h1, if_neg (by omega), if_neg (by omega), if_neg (by omega), if_neg (by omega), if_neg (by omega), if_neg (by omega), if_neg (by omega), if_pos h9] at hs
          simp at hs
          exact hs.1
        obtain ⟨rfl, rfl⟩ := e2
        rfl
      rw [if_neg h9]
      by_cases h4 : o = 4
      · subst h4
        simp [selfB] at hs
        obtain ⟨⟨hs1, rfl⟩, rfl⟩ := hs
        simp only [if_true, List.cons_append, List.nil_append]
        rw [letter_mword hs1]
      rw [if_neg h4, if_neg h4]
      by_cases h7 : o = 7
      · subst h7
        simp [selfB] at hs
        obtain ⟨⟨⟨a1, a2⟩, a3⟩, rfl⟩ := hs
        simp only [if_true, List.cons_append, List.nil_append]
        rw [numM_itoa (by omega) (by omega)]
        simp only
        rw [letter_mword a3]
      rw [if_neg h7, if_neg h11, if_neg h9]
      simp only [List.cons_append, List.nil_append]
      have hb : (0 ≤ n ∧ n ≤ 40) ∧ m = 0 ∧ K = [] := by
        unfold selfB at hs
        repeat' split at hs
        all_goals first | omega | (simp at hs) | (cases hs)
        all_goals first | (exact ⟨⟨by omega, by omega⟩, by simp_all, by simp_all⟩) | omega
      obtain ⟨⟨b1, b2⟩, rfl, rfl⟩ := hb
      rw [numM_itoa (by omega) (by omega)]
      simp only
      rw [if_neg h7]
    · cases K with
      | nil => rw [textL, List.nil_append, readL, stepL, if_pos rfl]
      | cons k K =>
        rw [formL, Bool.and_eq_true] at h
        rw [textL, List.append_assoc]
        rw [textL, List.length_append] at hl
        obtain ⟨o, n, m, KK⟩ := k
        obtain ⟨o1, o2⟩ := form_op h.1
        have e : ∃ r, textW (.mk o n m KK) = opW o :: r := ⟨_, by rw [textW]⟩
        obtain ⟨r, e⟩ := e
        have hlen : 1 ≤ (textW (.mk o n m KK)).length := by rw [e]; simp
        have := i1 (.mk o n m KK) (textL K ++ [41] :: rest) h.1 (by omega)
        rw [e, List.cons_append] at this ⊢
        rw [readL, stepL, if_neg (opW_close o o1 o2), this]
        simp only
        rw [i2 K rest h.2 (by omega)]

end Te
end Go.Proofs.YtflcdkibjakciaaGreatDoor

namespace Go.Proofs.YtflcdkibjakciaaGreatDoor
namespace Sc
open Go.Lib Te

structure Brk where
  up : Int
  rate : Int

structure Sch where
  num : Int
  nm : ByteArray
  cond : Tm
  br : List Brk
  least : Int
  ex : Int
  needs : Bool

/-- Bit n of a number. -/
def bitB (x n : Int) : Bool := decide (x / 2 ^ n.toNat % 2 = 1)

/-- The Up of the bracket ahead. -/
def upB (l : List Brk) (k : Nat) : Int := if k = 0 then 0 else match l[k - 1]? with | some b => b.up | none => 0
/-- Bracket k is right. -/
def brAt (l : List Brk) (k : Nat) : Bool := match l[k]? with | some b => decide (upB l k < b.up) && (decide (b.up ≤ 268435456) && (decide (0 ≤ b.rate) && decide (b.rate ≤ 1048576))) | none => true
def brAll (l : List Brk) (n : Nat) : Bool := (List.range n).all (brAt l)
def brB (l : List Brk) : Bool := brAll l l.length && (decide (1 ≤ l.length) && decide (l.length ≤ 6))

theorem brAll_succ (l : List Brk) (n : Nat) : brAll l (n + 1) = (brAll l n && brAt l n) := by unfold brAll; rw [List.range_succ, List.all_append]; simp

theorem brAll_mono {l : List Brk} {m n : Nat} (h : m ≤ n) (h2 : brAll l n = true) : brAll l m = true := by
  unfold brAll at *
  rw [List.all_eq_true] at *
  intro i hi
  exact h2 i (List.mem_range.2 (Nat.lt_of_lt_of_le (List.mem_range.1 hi) h))

theorem brAt_some {l : List Brk} {k : Nat} (h : k < l.length) : brAt l k = (decide (upB l k < l[k].up) && (decide (l[k].up ≤ 268435456) && (decide (0 ≤ l[k].rate) && decide (l[k].rate ≤ 1048576)))) := by
  unfold brAt; rw [List.getElem?_eq_getElem h]

theorem upB_succ {l : List Brk} {k : Nat} (h : k < l.length) : upB l (k + 1) = l[k].up := by
  unfold upB; rw [if_neg (by omega), Nat.add_sub_cancel, List.getElem?_eq_getElem h]

theorem upB_nonneg {l : List Brk} {k : Nat} (hk : k ≤ l.length) (h : brAll l k = true) : 0 ≤ upB l k := by
  induction k with
  | zero => unfold upB; simp
  | succ k ih =>
    rw [brAll_succ, Bool.and_eq_true] at h
    have h1 := ih (by omega) h.1
    rw [upB_succ (by omega)]
    have := h.2
    rw [brAt_some (by omega), Bool.and_eq_true, decide_eq_true_eq] at this
    omega

/-- The first error of a scheme by itself. -/
def one17 (s : Sch) : Int :=
  if s.num < 0 ∨ 15 < s.num ∨ s.least < 0 ∨ 268435456 < s.least then 2
  else if Wo.nameB s.nm.data.toList = false then 5
  else if chkT s.cond ≠ 0 then chkT s.cond
  else if brB s.br = false ∨ s.ex < 0 ∨ 65536 ≤ s.ex ∨ bitB s.ex s.num = true then 3
  else 0

/-- The first index with something. -/
def fst (f : Nat → Int) (n : Nat) : Option Nat := (List.range n).find? fun i => f i != 0

theorem fst_none {f : Nat → Int} {n : Nat} (h : ∀ j, j < n → f j = 0) : fst f n = none := by
  unfold fst
  rw [List.find?_eq_none]
  intro i hi
  rw [h i (List.mem_range.1 hi)]
  decide

theorem fst_some {f : Nat → Int} {n k : Nat} (hk : k < n) (h : ∀ j, j < k → f j = 0) (h2 : f k ≠ 0) : fst f n = some k := by
  unfold fst
  rw [List.find?_eq_some_iff_append]
  refine ⟨by simpa using h2, List.range k, (List.range (n - k - 1)).map (k + 1 + ·), ?_, fun i hi => ?_⟩
  · have : n = k + (n - k - 1 + 1) := by omega
    rw [this, List.range_add, List.range_succ_eq_map]
    simp
    intro a _
    omega
  · rw [h i (List.mem_range.1 hi)]; decide

/-- Whether the number is not greater than the one ahead, or the name is there already. -/
def twice (L : List Sch) (i : Nat) (s : Sch) : Bool := (match i with | 0 => false | k + 1 => match L[k]? with | some p => decide (s.num ≤ p.num) | none => false) || (L.take i).any fun x => x.nm.data.toList == s.nm.data.toList
def errA (L : List Sch) (i : Nat) : Int := match L[i]? with | some s => if one17 s ≠ 0 then one17 s else if twice L i s = true then 6 else 0 | none => 0

/-- The index of a number. -/
def find17 (L : List Sch) (n : Int) : Int := match (L.findIdx? fun s => s.num == n) with | some i => (i : Int) | none => -1
def mutN (L : List Sch) (s : Sch) (n : Nat) : Bool := if bitB s.ex n = false then true else match L.find? fun x => x.num == (n : Int) with | some x => bitB x.ex s.num | none => false
def mutual17 (L : List Sch) (s : Sch) : Bool := (List.range 16).all (mutN L s)
def errB (L : List Sch) (i : Nat) : Int := match L[i]? with | some s => if mutual17 L s = true then 0 else 17 | none => 0

/-- The first scheme with an error, and it. -/
def chk17 (L : List Sch) : Int × Int :=
  if 16 < L.length then (0, 1)
  else match fst (errA L) L.length with
    | some i => ((i : Int), errA L i)
    | none => match fst (errB L) L.length with
      | some i => ((i : Int), 17)
      | none => (-1, 0)

/-- What some brackets pay. -/
def amt (l : List Brk) (sq : Int) (k : Nat) : Int := match k with | 0 => 0 | k + 1 => amt l sq k + match l[k]? with | some b => max 0 (min sq b.up - upB l k) * b.rate | none => 0
def amtE (s : Sch) (sq : Int) : Int := if one17 s ≠ 0 then 17 else if sq < 0 ∨ 268435456 < sq then 2 else 0
def amtV (s : Sch) (sq : Int) : Int := if amtE s sq ≠ 0 then 0 else amt s.br sq s.br.length / 100

/-- The first two that exclude each other. -/
def confB (set : Int) (a b : Sch) : Bool := bitB set a.num && (bitB set b.num && bitB a.ex b.num)
def conf1 (set : Int) : List Sch → Option (Int × Int)
  | [] => none
  | a :: r => match r.find? (confB set a) with | some b => some (a.num, b.num) | none => conf1 set r
def conf17 (L : List Sch) (set : Int) : Option (Int × Int) := if (chk17 L).2 = 0 then conf1 set L else none

/-! ### lines -/
def wScheme : List UInt8 := [115, 99, 104, 101, 109, 101]
def wEnt : List UInt8 := [101, 110, 116, 105, 116, 108, 101, 100]
def wIf : List UInt8 := [105, 102]
def wRate : List UInt8 := [114, 97, 116, 101]
def wNot : List UInt8 := [110, 111, 116]

def headW (s : Sch) : List (List UInt8) := [wScheme, itoa s.num, s.nm.data.toList, itoa s.least] ++ if s.needs then [wEnt] else []
def rateW (b : Brk) : List (List UInt8) := [wRate, itoa b.up, itoa b.rate]
def notsTo (x : Int) (n : Nat) : List (List (List UInt8)) := (List.range n).flatMap fun (i : Nat) => if bitB x (i : Int) then [[wNot, itoa (i : Int)]] else []
def linesS (s : Sch) : List (List (List UInt8)) := headW s :: (wIf :: textW s.cond) :: (s.br.map rateW ++ notsTo s.ex 16)
def linesL (L : List Sch) : List (List (List UInt8)) := L.flatMap linesS

theorem notsTo_succ (x : Int) (n : Nat) : notsTo x (n + 1) = notsTo x n ++ if bitB x (n : Int) then [[wNot, itoa (n : Int)]] else [] := by
  unfold notsTo; rw [List.range_succ, List.flatMap_append]; simp

/-! ### reading -/
structure PS where
  out : List Sch
  state : Nat
  last : Int

def ps0 : PS := ⟨[], 0, -1⟩

def num0 (w : List UInt8) (most : Int) : Option Int := match Wo.numO w with | some v => if v < 0 ∨ most < v then none else some v | none => none

/-- The first line of a scheme, behind its first word. -/
def headR (w : List (List UInt8)) : Option Sch :=
  match w with
  | a :: nm :: b :: r =>
    if r = [] ∨ r = [wEnt] then
      if Wo.nameB nm = true then
        match num0 a 15, num0 b 268435456 with
        | some n, some m => some ⟨n, ⟨nm.toArray⟩, .mk 0 0 0 [], [], m, 0, decide (r = [wEnt])⟩
        | _, _ => none
      else none
    else none
  | _ => none

/-- The term of a line: or which error. -/
def condR (w : List (List UInt8)) : Tm ⊕ Int :=
  match readT (2 * w.length) w with
  | none => .inr 4
  | some (t, r) => if chkT t ≠ 0 then .inr (chkT t) else if r = [] then .inl t else .inr 4

def rateR (w : List (List UInt8)) : Option Brk :=
  match w with
  | [a, b] => match num0 a 268435456, num0 b 268435456 with | some u, some v => some ⟨u, v⟩ | _, _ => none
  | _ => none

def onLast (L : List Sch) (f : Sch → Sch) : List Sch := match L.reverse with | [] => [] | s :: r => (f s :: r).reverse

/-- One line that is not empty. -/
def stepP (st : PS) (w : List (List UInt8)) : PS ⊕ Int :=
  match w with
  | [] => .inl st
  | h :: r =>
    if h = wScheme ∧ (st.state = 0 ∨ 3 ≤ st.state) then
      match headR r with
      | some s => .inl ⟨st.out ++ [s], 1, -1⟩
      | none => .inr 4
    else if h = wIf ∧ st.state = 1 then
      match condR r with
      | .inl t => .inl ⟨onLast st.out fun s => { s with cond := t }, 2, st.last⟩
      | .inr e => .inr e
    else if h = wRate ∧ (st.state = 2 ∨ st.state = 3) then
      match rateR r with
      | some b => .inl ⟨onLast st.out fun s => { s with br := s.br ++ [b] }, 3, st.last⟩
      | none => .inr 4
    else if h = wNot ∧ 3 ≤ st.state then
      match r with
      | [a] => match num0 a 15 with
        | some x => if x ≤ st.last then .inr 4 else .inl ⟨onLast st.out fun s => { s with ex := s.ex + 2 ^ x.toNat }, 4, x⟩
        | none => .inr 4
      | _ => .inr 4
    else .inr 4

/-- Some lines, from the state in which they are met. -/
def prs : PS → Nat → List (List (List UInt8)) → List Sch × Int × Int
  | st, k, [] => if st.state = 1 ∨ st.state = 2 then ([], (k : Int) + 1, 4) else if (chk17 st.out).2 ≠ 0 then ([], 0, (chk17 st.out).2) else (st.out, 0, 0)
  | st, k, w :: r => if w = [] then prs st (k + 1) r else match stepP st w with | .inl s2 => prs s2 (k + 1) r | .inr e => ([], (k : Int) + 1, e)

def parse17 (s : List UInt8) : List Sch × Int × Int := if Wo.sErr s = 0 then prs ps0 0 (Wo.sList s) else ([], 0, Wo.sErr s)

end Sc
end Go.Proofs.YtflcdkibjakciaaGreatDoor

namespace Go.Proofs.YtflcdkibjakciaaGreatDoor
open Go.RowKit

theorem wp_tail {P : Program} {id : Nat} {Q : Exit → Act → World → Prop} {a : Act} {w : World} {l : List Oper} (n : Nat) (hm : P.follows .mixedOrders = true) (hB : Region.lexTailB .any l.toArray n = true)
    (h : wpStill P l.toArray w.drew (fun a' => wpList P l.toArray Q (l.drop n) a' w.drew) (l.take n) a) : (Code.region id l.toArray true).wp P Q a w := wp_region_still_tail n hm hB h

/-- A contract of a callee that only computes, in the order in which 'still_call' wants it. -/
theorem Calls.turn {P : Program} {f : FuncId} {args : Array Value} {w : World} {v : Value} (h : Calls P f args w fun e w' => e = .returned v ∧ w = w') : Calls P f args w fun e w' => e = .returned v ∧ w' = w :=
  h.mono fun _ _ h => ⟨h.1, h.2.symm⟩

theorem Calls.same {P : Program} {f : FuncId} {args : Array Value} {w : World} {v : Value} (h : Calls P f args w fun e w' => e = .returned v ∧ w' = w) : Calls P f args w fun e w' => e = .returned v ∧ w = w' :=
  h.mono fun _ _ h => ⟨h.1, h.2.symm⟩

theorem ret_int {k : IntKind} {a b : Int} (h : a = b) : Ending.returned (.int k a) = .returned (.int k b) := by rw [h]
theorem ret_bool {a b : Bool} (h : a = b) : Ending.returned (.bool a) = .returned (.bool b) := by rw [h]

theorem drewN_below (w : World) (n : Nat) : Below w.heap.size w (w.drewN n) := ⟨rfl, rfl, rfl, Nat.le_refl _, fun _ _ => rfl⟩

theorem bnext {B : Nat} {w W w' : World} (h : Below B w W) (hB : B ≤ W.heap.size) (k : Below W.heap.size W w') : Below B w w' := h.trans (k.mono hB)

theorem bdrew {w w1 : World} (h : Below w.drew.heap.size w.drew w1) : Below w.heap.size w w1 := ⟨h.os, h.tape, h.output, h.size, h.block⟩

theorem cell_other {w : World} {a b : Addr} {v u : Value} (h : w.cell? b = some u) (hne : a.block ≠ b.block) : (w.setCell a v).cell? b = some u :=
  (World.cell?_setCell_other _ _ _ _ (fun e => hne (congrArg Addr.block e))).trans h

theorem drewN_two (w : World) (a b : Nat) : (w.drewN a).drewN b = w.drewN (a + b) := by simp [World.drewN, Nat.add_assoc]

end Go.Proofs.YtflcdkibjakciaaGreatDoor

namespace Go.Proofs.YtflcdkibjakciaaGreatDoor.Sh

/-! ### sums -/
def sum : List Int → Int
  | [] => 0
  | x :: l => x + sum l

theorem sum_append (l m : List Int) : sum (l ++ m) = sum l + sum m := by
  induction l with
  | nil => simp [sum]
  | cons x l ih => simp only [List.cons_append, sum, ih]; omega

theorem sum_snoc (l : List Int) (x : Int) : sum (l ++ [x]) = sum l + x := by rw [sum_append]; simp [sum]

end Go.Proofs.YtflcdkibjakciaaGreatDoor.Sh
