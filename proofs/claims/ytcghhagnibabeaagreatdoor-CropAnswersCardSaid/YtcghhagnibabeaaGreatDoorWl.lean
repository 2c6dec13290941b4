/-
  PLAIN: the lines and the words of a text (no program in sight).
-/
import Derived.Test.YtcghhagnibabeaaGreatDoorWn
import Derived.Lib.Split
import Derived.Lib.Join
namespace Go.Proofs.YtcghhagnibabeaaGreatDoor
namespace Wo
open Go.Lib

/-! ### lines and words, byte by byte -/
def lnsA : List UInt8 → List UInt8 → List (List UInt8)
  | cur, [] => if cur = [] then [] else [cur]
  | cur, c :: r => if c = 10 then cur :: lnsA [] r else lnsA (cur ++ [c]) r
/-- The lines of a text, without their ends. -/
def lns (l : List UInt8) : List (List UInt8) := lnsA [] l

def pcs (s : UInt8) : List UInt8 → List UInt8 → List (List UInt8)
  | cur, [] => [cur]
  | cur, c :: r => if c = s then cur :: pcs s [] r else pcs s (cur ++ [c]) r

/-- The words of a line: what stands between blanks, in front of a '#'. -/
def wds (l : List UInt8) : List (List UInt8) := (pcs 32 [] (l.takeWhile (· != 35))).filter (· ≠ [])

def plainB (c : UInt8) : Bool := c == 10 || (decide (32 ≤ (c.toNat : Int)) && decide ((c.toNat : Int) ≤ 126))

def sErr (l : List UInt8) : Int :=
  if 16384 < l.length ∨ 400 < l.count 10 then 1 else if (l ≠ [] ∧ l.getLast? ≠ some 10) ∨ l.all plainB = false then 4 else 0
def sList (l : List UInt8) : List (List (List UInt8)) := if sErr l = 0 then (lns l).map wds else []

/-! ### by the first end of a line -/
theorem lnsA_none : ∀ (l cur : List UInt8), (∀ c ∈ l, c ≠ 10) → lnsA cur l = if cur ++ l = [] then [] else [cur ++ l]
  | [], cur, _ => by simp [lnsA]
  | c :: r, cur, h => by
    have hc : c ≠ 10 := h c List.mem_cons_self
    rw [lnsA, if_neg hc, lnsA_none r _ (fun x hx => h x (List.mem_cons_of_mem _ hx))]
    simp

theorem lnsA_hit : ∀ (a r cur : List UInt8), (∀ c ∈ a, c ≠ 10) → lnsA cur (a ++ 10 :: r) = (cur ++ a) :: lns r
  | [], r, cur, _ => by simp [lnsA, lns]
  | c :: a, r, cur, h => by
    have hc : c ≠ 10 := h c List.mem_cons_self
    rw [List.cons_append, lnsA, if_neg hc, lnsA_hit a r _ (fun x hx => h x (List.mem_cons_of_mem _ hx))]
    simp

theorem lns_hit {a r : List UInt8} (h : ∀ c ∈ a, c ≠ 10) : lns (a ++ 10 :: r) = a :: lns r := by unfold lns; rw [lnsA_hit a r [] h]; rfl
theorem lns_nil : lns [] = [] := rfl

theorem pcs_none (s : UInt8) : ∀ (l cur : List UInt8), (∀ c ∈ l, c ≠ s) → pcs s cur l = [cur ++ l]
  | [], cur, _ => by simp [pcs]
  | c :: r, cur, h => by
    have hc : c ≠ s := h c List.mem_cons_self
    rw [pcs, if_neg hc, pcs_none s r _ (fun x hx => h x (List.mem_cons_of_mem _ hx))]
    simp

theorem pcs_hit (s : UInt8) : ∀ (a r cur : List UInt8), (∀ c ∈ a, c ≠ s) → pcs s cur (a ++ s :: r) = (cur ++ a) :: pcs s [] r
  | [], r, cur, _ => by simp [pcs]
  | c :: a, r, cur, h => by
    have hc : c ≠ s := h c List.mem_cons_self
    rw [List.cons_append, pcs, if_neg hc, pcs_hit s a r _ (fun x hx => h x (List.mem_cons_of_mem _ hx))]
    simp

theorem cut_at {l : List UInt8} {c : UInt8} {o : Nat} (h1 : l[o]? = some c) (h2 : ∀ k, k < o → l[k]? ≠ some c) : l = l.take o ++ c :: l.drop (o + 1) ∧ ∀ x ∈ l.take o, x ≠ c := by
  obtain ⟨ho, he⟩ := List.getElem?_eq_some_iff.1 h1
  refine ⟨?_, fun x hx e => ?_⟩
  · conv => lhs; rw [← List.take_append_drop o l]
    rw [List.drop_eq_getElem_cons ho, he]
  · obtain ⟨k, hk, hkx⟩ := List.mem_iff_getElem.1 hx
    rw [List.length_take] at hk
    exact h2 k (by omega) (by rw [List.getElem?_eq_getElem (by omega)]; rw [List.getElem_take] at hkx; rw [hkx, e])

theorem none_of {l : List UInt8} {c : UInt8} (h : ∀ k : Nat, l[k]? ≠ some c) : ∀ x ∈ l, x ≠ c := fun x hx e => by
  obtain ⟨k, hk, hkx⟩ := List.mem_iff_getElem.1 hx
  exact h k (by rw [List.getElem?_eq_getElem hk, hkx, e])

/-- IndexByte's answer. -/
theorem lns_ix {l : List UInt8} {o : Nat} (h : indexByte l 10 = (o : Int)) : lns l = l.take o :: lns (l.drop (o + 1)) := by
  obtain ⟨h1, h2⟩ := indexByte_some h
  obtain ⟨e, hn⟩ := cut_at h1 h2
  conv => lhs; rw [e]
  exact lns_hit hn

theorem takeWhile_ix {l : List UInt8} {c : UInt8} {o : Nat} (h : indexByte l c = (o : Int)) : l.takeWhile (· != c) = l.take o := by
  obtain ⟨h1, h2⟩ := indexByte_some h
  obtain ⟨e, hn⟩ := cut_at h1 h2
  conv => lhs; rw [e]
  rw [List.takeWhile_append_of_pos (fun x hx => by simpa using hn x hx)]
  simp

theorem takeWhile_none {l : List UInt8} {c : UInt8} (h : indexByte l c = -1) : l.takeWhile (· != c) = l := by
  have hn := none_of (indexByte_none h)
  have := List.takeWhile_append_of_pos (p := (· != c)) (l₁ := l) (l₂ := []) (fun x hx => by simpa using hn x hx)
  simpa using this

theorem pcs_ix {l : List UInt8} {c : UInt8} {o : Nat} (h : indexByte l c = (o : Int)) : pcs c [] l = l.take o :: pcs c [] (l.drop (o + 1)) := by
  obtain ⟨h1, h2⟩ := indexByte_some h
  obtain ⟨e, hn⟩ := cut_at h1 h2
  conv => lhs; rw [e]
  rw [pcs_hit c _ _ _ hn]; rfl

theorem pcs_no {l : List UInt8} {c : UInt8} (h : indexByte l c = -1) : pcs c [] l = [l] := by
  rw [pcs_none c _ _ (none_of (indexByte_none h))]; rfl

/-! ### the library's own words -/
theorem index_one (c : UInt8) : ∀ l : List UInt8, index l [c] = indexByte l c
  | [] => by simp [index, indexByte]
  | a :: l => by
    have ih := index_one c l
    have e : ([c].isPrefixOf (a :: l)) = (a == c) := by
      simp only [List.isPrefixOf, Bool.and_true]
      exact BEq.comm
    rw [index, indexByte, ih, e]

theorem splitK_pcs (c : UInt8) : ∀ (n : Nat) (l : List UInt8), l.length < n → splitK [c] 0 (count l [c]) l = pcs c [] l
  | 0, _, h => by omega
  | n + 1, l, h => by
    rcases Int.lt_or_le (index l [c]) 0 with hx | hx
    · have hi : index l [c] = -1 := by have := index_ge l [c]; omega
      rw [count_miss hi, pcs_no (by rw [← index_one]; exact hi)]
      rfl
    · obtain ⟨o, ho⟩ : ∃ o : Nat, index l [c] = (o : Int) := ⟨(index l [c]).toNat, by omega⟩
      have hb : indexByte l c = (o : Int) := by rw [← index_one]; exact ho
      have hlt : o < l.length := (List.getElem?_eq_some_iff.1 (indexByte_some hb).1).1
      rw [count_hit (by simp) ho, Nat.add_comm, splitK, if_neg (by rw [ho, beq_iff_eq]; omega), ho, pcs_ix hb]
      show l.take (o + 0) :: splitK [c] 0 _ (l.drop (o + 1)) = _
      rw [show o + [c].length = o + 1 from rfl, splitK_pcs c n _ (by rw [List.length_drop]; omega)]
      simp

/-- What strings.Split gives at a single byte. -/
theorem split_pcs (c : UInt8) (s : ByteArray) : (splitB ⟨#[c]⟩ 0 (countB s ⟨#[c]⟩) s).map (·.data.toList) = pcs c [] s.data.toList := by
  rw [splitB_data]
  exact splitK_pcs c _ _ (Nat.lt_succ_self _)

/-- What strings.Cut gives at a single byte. -/
theorem cut_one (l : List UInt8) (c : UInt8) : (cut l [c]).1 = l.takeWhile (· != c) := by
  unfold cut
  rw [index_one]
  split
  · next h =>
    obtain ⟨o, ho⟩ : ∃ o : Nat, indexByte l c = (o : Int) := ⟨(indexByte l c).toNat, by omega⟩
    rw [takeWhile_ix ho, ho]; rfl
  · next h =>
    have := index_ge l [c]
    rw [index_one] at this
    rw [takeWhile_none (by omega)]

theorem trim_end (l : List UInt8) (c : UInt8) : trimSuffix (l ++ [c]) [c] = l := by
  unfold trimSuffix hasSuffix
  rw [if_pos (by rw [List.isSuffixOf_iff_suffix]; exact ⟨l, rfl⟩)]
  simp

theorem suffix_one (l : List UInt8) (c : UInt8) : hasSuffix l [c] = decide (l.getLast? = some c) := by
  unfold hasSuffix
  rw [Bool.eq_iff_iff, List.isSuffixOf_iff_suffix, decide_eq_true_eq]
  constructor
  · rintro ⟨t, rfl⟩; simp
  · intro h
    obtain ⟨t, rfl⟩ := List.getLast?_eq_some_iff.1 h
    exact ⟨t, rfl⟩

theorem lnsA_len : ∀ (l cur : List UInt8), (lnsA cur l).length ≤ l.length + (if cur = [] then 0 else 1)
  | [], cur => by
    rw [lnsA]
    split <;> simp
  | c :: r, cur => by
    rw [lnsA]
    split
    · have := lnsA_len r []
      simp only [if_true] at this
      simp only [List.length_cons]
      split <;> omega
    · have := lnsA_len r (cur ++ [c])
      simp only [List.append_eq_nil_iff, List.cons_ne_self, and_false, if_false] at this
      simp only [List.length_cons]
      split <;> omega

theorem lns_len (l : List UInt8) : (lns l).length ≤ l.length := by
  have := lnsA_len l []
  simpa [lns] using this

theorem pcs_len : ∀ (s : UInt8) (l cur : List UInt8), (pcs s cur l).length ≤ l.length + 1
  | s, [], cur => by simp [pcs]
  | s, c :: r, cur => by
    rw [pcs]
    split
    · have := pcs_len s r []
      simp only [List.length_cons]; omega
    · have := pcs_len s r (cur ++ [c])
      simp only [List.length_cons]; omega

/-- An end of a line is there. -/
theorem ix_of_last {l : List UInt8} (h : l.getLast? = some 10) : ∃ o : Nat, indexByte l 10 = (o : Int) ∧ o < l.length := by
  rcases Int.lt_or_le (indexByte l 10) 0 with hx | hx
  · exfalso
    have hi : indexByte l 10 = -1 := by have := index_ge l [10]; rw [index_one] at this; omega
    obtain ⟨t, rfl⟩ := List.getLast?_eq_some_iff.1 h
    exact none_of (indexByte_none hi) 10 (by simp) rfl
  · refine ⟨(indexByte l 10).toNat, by omega, ?_⟩
    have := (indexByte_some (o := (indexByte l 10).toNat) (show indexByte l 10 = _ by omega)).1
    exact (List.getElem?_eq_some_iff.1 this).1

/-- What is left behind it ends so, too. -/
theorem last_drop {l : List UInt8} (h : l.getLast? = some 10) (k : Nat) : l.drop k = [] ∨ (l.drop k).getLast? = some 10 := by
  by_cases hk : k < l.length
  · right
    rw [List.getLast?_drop, if_neg (by omega)]
    exact h
  · exact .inl (List.drop_of_length_le (by omega))

/-! ### lines that are written -/
def wordB (w : List UInt8) : Bool := !w.isEmpty && w.all fun c => decide (33 ≤ (c.toNat : Int)) && decide ((c.toNat : Int) ≤ 126) && !(c == 35)

def lineT (ws : List (List UInt8)) : List UInt8 := join ws [32] ++ [10]
def jText (LL : List (List (List UInt8))) : List UInt8 := LL.flatMap lineT
def jErr (LL : List (List (List UInt8))) : Int := if 400 < LL.length then 1 else if (LL.all fun ws => ws.all wordB) = false then 4 else if 16384 < (jText LL).length then 1 else 0
def jOut (LL : List (List (List UInt8))) : List UInt8 := if jErr LL = 0 then jText LL else []

theorem jText_snoc (LL : List (List (List UInt8))) (ws : List (List UInt8)) : jText (LL ++ [ws]) = jText LL ++ (join ws [32] ++ [10]) := by simp [jText, lineT]

end Wo
end Go.Proofs.YtcghhagnibabeaaGreatDoor
