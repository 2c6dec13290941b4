/-
  MERGED (mergek.py): the texts Cp, Cm, Cl.
-/
import Derived.Test.YtcghhagnibabeaaGreatDoorWn
import Derived.Sort.Walk0

namespace Go.Proofs.YtcghhagnibabeaaGreatDoor
namespace Cr
open Go.Lib

/-- A crop. -/
structure Crp where
  nm : ByteArray
  fam : Int
  mrk : Int

/-- Names in order. -/
def lt (a b : ByteArray) : Bool := Op.bytesLess a.toList b.toList

theorem lt_iff (a b : ByteArray) : lt a b = true ↔ a.data.toList < b.data.toList := by
  unfold lt
  rw [bytesLess_eq, ByteArray.toList_eq, ByteArray.toList_eq, decide_eq_true_eq]

theorem ba_ext {a b : ByteArray} (h : a.data.toList = b.data.toList) : a = b := by
  cases a with | mk a => cases b with | mk b => simp at h; rw [h]

theorem lt_irrefl (a : ByteArray) : lt a a = false := by
  cases h : lt a a with
  | false => rfl
  | true => exact absurd ((lt_iff a a).1 h) (List.lt_irrefl _)

theorem lt_trans {a b c : ByteArray} (h : lt a b = true) (k : lt b c = true) : lt a c = true :=
  (lt_iff a c).2 (List.lt_trans ((lt_iff a b).1 h) ((lt_iff b c).1 k))

theorem lt_total {a b : ByteArray} (h : lt a b = false) (k : lt b a = false) : a = b := by
  refine ba_ext ?_
  have h1 : ¬ a.data.toList < b.data.toList := fun e => by rw [(lt_iff a b).2 e] at h; cases h
  have h2 : ¬ b.data.toList < a.data.toList := fun e => by rw [(lt_iff b a).2 e] at k; cases k
  exact List.le_antisymm (List.not_lt.1 h2) (List.not_lt.1 h1)

theorem lt_asymm {a b : ByteArray} (h : lt a b = true) : lt b a = false := by
  cases k : lt b a with
  | false => rfl
  | true => have := lt_trans h k; rw [lt_irrefl] at this; cases this

/-- 'a <= b', as Go tests it. -/
theorem le_eq (a b : ByteArray) : (Op.bytesLess a.toList b.toList || a.toList == b.toList) = !lt b a := by
  cases h : lt b a with
  | true =>
    have h1 : Op.bytesLess a.toList b.toList = false := lt_asymm h
    rw [h1, Bool.false_or]
    have : a.toList ≠ b.toList := fun e => by
      have : a = b := ba_ext (by rw [← ByteArray.toList_eq, ← ByteArray.toList_eq]; exact e)
      subst this
      rw [lt_irrefl] at h; cases h
    simpa using this
  | false =>
    cases k : lt a b with
    | true => rw [show Op.bytesLess a.toList b.toList = true from k]; rfl
    | false =>
      have := lt_total k h
      subst this
      simp

/-- The first error of a crop. -/
def cErr (c : Crp) : Int :=
  if Wo.nameB c.nm.data.toList = false then 5 else if c.fam < 0 ∨ 40 < c.fam then 2 else if c.mrk < 0 ∨ 31 < c.mrk then 14 else 0

/-- The first error of crops, behind another cErr. -/
def scan : Option Crp → List Crp → Int
  | _, [] => 0
  | none, c :: r => if cErr c ≠ 0 then cErr c else scan (some c) r
  | some p, c :: r => if cErr c ≠ 0 then cErr c else if lt p.nm c.nm = false then 6 else scan (some c) r

def chk (L : List Crp) : Int := if 40 < L.length then 1 else scan none L

/-- The crop prevC of index k. -/
def prevC (L : List Crp) (k : Nat) : Option Crp := if k = 0 then none else L[k - 1]?

theorem ahead_zero (L : List Crp) : prevC L 0 = none := rfl
theorem ahead_succ (L : List Crp) (k : Nat) : prevC L (k + 1) = L[k]? := rfl

theorem scan_step {L : List Crp} {k : Nat} (hk : k < L.length) (h1 : cErr L[k] = 0) (h2 : ∀ p, prevC L k = some p → lt p.nm L[k].nm = true) : scan (prevC L k) (L.drop k) = scan (prevC L (k + 1)) (L.drop (k + 1)) := by
  rw [List.drop_eq_getElem_cons hk, ahead_succ, List.getElem?_eq_getElem hk]
  cases ha : prevC L k with
  | none => rw [scan, if_neg (fun h => h h1)]
  | some p => rw [scan, if_neg (fun h => h h1), if_neg (by rw [h2 p ha]; simp)]

theorem scan_one {L : List Crp} {k : Nat} (hk : k < L.length) (h1 : cErr L[k] ≠ 0) : scan (prevC L k) (L.drop k) = cErr L[k] := by
  rw [List.drop_eq_getElem_cons hk]
  cases prevC L k with
  | none => rw [scan, if_pos h1]
  | some p => rw [scan, if_pos h1]

theorem scan_twice {L : List Crp} {k : Nat} (hk : k < L.length) (h1 : cErr L[k] = 0) {p : Crp} (ha : prevC L k = some p) (h2 : lt p.nm L[k].nm = false) : scan (prevC L k) (L.drop k) = 6 := by
  rw [List.drop_eq_getElem_cons hk, ha, scan, if_neg (fun h => h h1), if_pos h2]

/-- A right catalogue. -/
structure Right (L : List Crp) : Prop where
  len : L.length ≤ 40
  each : ∀ c ∈ L, cErr c = 0
  asc : ∀ i (h : i + 1 < L.length), lt L[i].nm L[i + 1].nm = true

theorem scan_right : ∀ (L : List Crp) (p : Option Crp), scan p L = 0 ↔ (∀ c ∈ L, cErr c = 0) ∧ (∀ i (h : i + 1 < L.length), lt L[i].nm L[i + 1].nm = true) ∧ (∀ q c, p = some q → L[0]? = some c → lt q.nm c.nm = true)
  | [], p => by simp [scan]
  | c :: r, p => by
    have ih := scan_right r (some c)
    have e : scan p (c :: r) = 0 ↔ cErr c = 0 ∧ (∀ q, p = some q → lt q.nm c.nm = true) ∧ scan (some c) r = 0 := by
      cases p with
      | none =>
        rw [scan]
        by_cases h : cErr c = 0
        · rw [if_neg (fun k => k h)]; simp [h]
        · rw [if_pos h]; simp [h]
      | some q =>
        rw [scan]
        by_cases h : cErr c = 0
        · rw [if_neg (fun k => k h)]
          cases k : lt q.nm c.nm <;> simp [h, k]
        · rw [if_pos h]; simp [h]
    rw [e, ih]
    constructor
    · rintro ⟨h1, h2, h3, h4, h5⟩
      refine ⟨?_, ?_, ?_⟩
      · intro x hx
        rcases List.mem_cons.1 hx with rfl | hx
        · exact h1
        · exact h3 x hx
      · intro i hi
        cases i with
        | zero =>
          have h0 : 0 < r.length := by simp at hi; omega
          exact h5 c _ rfl (List.getElem?_eq_getElem h0)
        | succ i => exact h4 i (by simp at hi; omega)
      · rintro q x hq hx
        simp at hx
        subst hx
        exact h2 q hq
    · rintro ⟨h1, h2, h3⟩
      refine ⟨h1 c List.mem_cons_self, fun q hq => h3 q c hq rfl, fun x hx => h1 x (List.mem_cons_of_mem _ hx), fun i hi => h2 (i + 1) (by simp; omega), ?_⟩
      rintro q x hq hx
      injection hq with hq
      subst hq
      obtain ⟨h0, rfl⟩ := List.getElem?_eq_some_iff.1 hx
      exact h2 0 (by simp; omega)

theorem chk_right (L : List Crp) : chk L = 0 ↔ Right L := by
  unfold chk
  by_cases h : 40 < L.length
  · rw [if_pos h]
    constructor
    · intro e; cases e
    · intro e; have := e.len; omega
  · rw [if_neg h, scan_right]
    constructor
    · rintro ⟨h1, h2, -⟩; exact ⟨by omega, h1, h2⟩
    · rintro ⟨-, h1, h2⟩; exact ⟨h1, h2, fun q c hq => by cases hq⟩

theorem Right.lt {L : List Crp} (h : Right L) : ∀ {i j : Nat} (hij : i < j) (hj : j < L.length), Cr.lt L[i].nm L[j].nm = true
  | i, j + 1, hij, hj => by
    rcases Nat.lt_or_ge i j with hl | hg
    · exact lt_trans (h.lt hl (by omega)) (h.asc j hj)
    · obtain rfl : i = j := by omega
      exact h.asc i hj

theorem Right.inj {L : List Crp} (h : Right L) {i j : Nat} (hi : i < L.length) (hj : j < L.length) (e : L[i].nm = L[j].nm) : i = j := by
  rcases Nat.lt_trichotomy i j with hl | he | hg
  · have := h.lt hl hj; rw [e, lt_irrefl] at this; cases this
  · exact he
  · have := h.lt hg hi; rw [e, lt_irrefl] at this; cases this

/-- The index of a name, or -1. -/
def find (L : List Crp) (nm : ByteArray) : Int := match L.findIdx? fun c => c.nm.toList == nm.toList with | some i => i | none => -1

end Cr
end Go.Proofs.YtcghhagnibabeaaGreatDoor

namespace Go.Proofs.YtcghhagnibabeaaGreatDoor
namespace Cr
open Go.Lib

/-- The letter of mark i. -/
def letL : List UInt8 := [112, 103, 99, 102, 108]
/-- The letters of marks, up to the first k. -/
def mkTo (m k : Nat) : List UInt8 := (List.range k).flatMap fun i => if m / 2 ^ i % 2 = 1 then [letL.getD i 0] else []
def mword (m : Nat) : List UInt8 := if mkTo m 5 = [] then [45] else mkTo m 5

theorem mkTo_succ (m k : Nat) : mkTo m (k + 1) = mkTo m k ++ if m / 2 ^ k % 2 = 1 then [letL.getD k 0] else [] := by
  unfold mkTo
  rw [List.range_succ, List.flatMap_append]
  simp

/-- What mark a byte is. -/
def markOf (c : UInt8) : Nat := if c = 112 then 1 else if c = 103 then 2 else if c = 99 then 4 else if c = 102 then 8 else if c = 108 then 16 else 0

/-- The marks of letters. -/
def fold (l : List UInt8) : Nat := l.foldl (fun n c => n ||| markOf c) 0
/-- A word without its dash. -/
def undash (l : List UInt8) : List UInt8 := match l with | [] => [] | c :: r => if c = 45 then r else c :: r

/-- The marks of a word, if it is one. -/
def unm (s : List UInt8) : Option Nat := (List.range 32).find? fun m => mword m == s

theorem mword_inj : ∀ m, m < 32 → ∀ k, k < 32 → mword m = mword k → m = k := by decide +kernel
theorem fold_mword : ∀ m, m < 32 → fold (undash (mword m)) = m := by decide +kernel
theorem mword_word : ∀ m, m < 32 → (mword m).length ≤ 5 ∧ (mword m).length ≠ 0 ∧ ∀ c ∈ mword m, 33 ≤ c.toNat ∧ c.toNat ≤ 126 ∧ c ≠ 35 := by decide +kernel

theorem markOf_lt (c : UInt8) : markOf c < 32 := by
  unfold markOf
  repeat' split
  all_goals decide

theorem fold_lt (l : List UInt8) : fold l < 32 := by
  unfold fold
  have : ∀ (l : List UInt8) (n : Nat), n < 32 → l.foldl (fun n c => n ||| markOf c) n < 32 := by
    intro l
    induction l with
    | nil => intro n h; exact h
    | cons c r ih => intro n h; exact ih _ (Nat.or_lt_two_pow (n := 5) h (markOf_lt c))
  exact this l 0 (by decide)

theorem fold_snoc (l : List UInt8) (c : UInt8) : fold (l ++ [c]) = fold l ||| markOf c := by unfold fold; rw [List.foldl_append]; rfl

theorem unm_some {s : List UInt8} {m : Nat} (h : unm s = some m) : m < 32 ∧ mword m = s := by
  unfold unm at h
  have h1 := List.mem_of_find?_eq_some h
  have h2 := List.find?_some h
  exact ⟨List.mem_range.1 h1, by simpa using h2⟩

theorem unm_mword {m : Nat} (h : m < 32) : unm (mword m) = some m := by
  cases e : unm (mword m) with
  | some k =>
    obtain ⟨h1, h2⟩ := unm_some e
    rw [mword_inj k h1 m h h2]
  | none =>
    unfold unm at e
    have := List.find?_eq_none.1 e m (List.mem_range.2 h)
    simp at this

/-- Both ways to read marks are one. -/
theorem unm_fold (s : List UInt8) : unm s = if mword (fold (undash s)) = s then some (fold (undash s)) else none := by
  by_cases h : mword (fold (undash s)) = s
  · rw [if_pos h]
    have := unm_mword (fold_lt (undash s))
    rw [h] at this
    exact this
  · rw [if_neg h]
    cases e : unm s with
    | none => rfl
    | some m =>
      obtain ⟨h1, h2⟩ := unm_some e
      exfalso
      apply h
      rw [← h2, fold_mword m h1]
end Cr
end Go.Proofs.YtcghhagnibabeaaGreatDoor

namespace Go.Proofs.YtcghhagnibabeaaGreatDoor
namespace Cr
open Go.Lib

/-- The crop of a line, if it is cErr. -/
def lineC (w : List ByteArray) : Option Crp :=
  match w with
  | [a, b, f, m] => if a.data.toList = [99, 114, 111, 112] ∧ Wo.nameB b.data.toList = true ∧ Wo.numB f.data.toList 0 40 = true then (unm m.data.toList).map fun (k : Nat) => (⟨b, Wo.numV f.data.toList 0 40, (k : Int)⟩ : Crp) else none
  | _ => none

/-- c in its place. -/
def ins (c : Crp) : List Crp → List Crp
  | [] => [c]
  | x :: r => if lt x.nm c.nm = true then x :: ins c r else c :: x :: r

def has (L : List Crp) (nm : ByteArray) : Bool := L.any fun c => c.nm.toList == nm.toList

theorem has_iff (L : List Crp) (nm : ByteArray) : has L nm = true ↔ ∃ c ∈ L, c.nm = nm := by
  unfold has
  rw [List.any_eq_true]
  constructor
  · rintro ⟨c, hc, e⟩
    exact ⟨c, hc, ba_ext (by rw [← ByteArray.toList_eq, ← ByteArray.toList_eq]; simpa using e)⟩
  · rintro ⟨c, hc, rfl⟩
    exact ⟨c, hc, by simp⟩

/-- The catalogue of lines, each crop put in its place: what was read, the line, the error. -/
def prsA : List Crp → Nat → List (List ByteArray) → List Crp × Int × Int
  | acc, _, [] => (acc, 0, 0)
  | acc, i, w :: r =>
    if w = [] then prsA acc (i + 1) r else
    match lineC w with
    | none => ([], (i : Int) + 1, 4)
    | some c => if has acc c.nm = true then ([], (i : Int) + 1, 6) else if acc.length = 40 then ([], (i : Int) + 1, 1) else prsA (ins c acc) (i + 1) r

/-- .. each crop put behind the others. -/
def prsB : List Crp → Nat → List (List ByteArray) → List Crp × Int × Int
  | acc, _, [] => (acc, 0, 0)
  | acc, i, w :: r =>
    if w = [] then prsB acc (i + 1) r else
    match lineC w with
    | none => ([], (i : Int) + 1, 4)
    | some c => if has acc c.nm = true then ([], (i : Int) + 1, 6) else if acc.length = 40 then ([], (i : Int) + 1, 1) else prsB (acc ++ [c]) (i + 1) r

/-- Strictly ascending names. -/
def Asc (L : List Crp) : Prop := L.Pairwise fun a b => lt a.nm b.nm = true

theorem ins_perm (c : Crp) : ∀ L, (ins c L).Perm (c :: L)
  | [] => List.Perm.refl _
  | x :: r => by
    rw [ins]
    split
    · exact ((ins_perm c r).cons x).trans (List.Perm.swap c x r)
    · exact List.Perm.refl _

theorem ins_asc {c : Crp} : ∀ {L : List Crp}, Asc L → (∀ x ∈ L, x.nm ≠ c.nm) → Asc (ins c L)
  | [], _, _ => List.pairwise_singleton _ _
  | x :: r, h, hn => by
    have h' := List.pairwise_cons.1 h
    rw [ins]
    split
    · rename_i hlt
      refine List.pairwise_cons.2 ⟨fun y hy => ?_, ins_asc h'.2 fun y hy => hn y (List.mem_cons_of_mem _ hy)⟩
      rcases List.mem_cons.1 ((ins_perm c r).mem_iff.1 hy) with rfl | hy
      · exact hlt
      · exact h'.1 y hy
    · rename_i hnl
      have hcx : lt c.nm x.nm = true := by
        cases k : lt c.nm x.nm with
        | true => rfl
        | false => exact absurd (lt_total (by simpa using hnl) k) (hn x List.mem_cons_self)
      refine List.pairwise_cons.2 ⟨fun y hy => ?_, h⟩
      rcases List.mem_cons.1 hy with rfl | hy
      · exact hcx
      · exact lt_trans hcx (h'.1 y hy)

/-- Ascending lists of the same crops are one. -/
theorem asc_unique : ∀ {L M : List Crp}, Asc L → Asc M → L.Perm M → L = M
  | [], M, _, _, h => (List.Perm.nil_eq h)
  | x :: L, [], _, _, h => by have := h.length_eq; simp at this
  | x :: L, y :: M, hL, hM, h => by
    have h1 := List.pairwise_cons.1 hL
    have h2 := List.pairwise_cons.1 hM
    have e : x = y := by
      have hx : x ∈ y :: M := h.mem_iff.1 List.mem_cons_self
      have hy : y ∈ x :: L := h.mem_iff.2 List.mem_cons_self
      rcases List.mem_cons.1 hx with e | hx
      · exact e
      rcases List.mem_cons.1 hy with e | hy
      · exact e.symm
      · have a1 := h2.1 x hx
        have a2 := h1.1 y hy
        rw [lt_asymm a1] at a2; cases a2
    subst e
    rw [asc_unique h1.2 h2.2 ((List.perm_cons x).1 h)]

theorem has_perm {L M : List Crp} (h : L.Perm M) (nm : ByteArray) : has L nm = has M nm := by
  have : has L nm = true ↔ has M nm = true := by
    rw [has_iff, has_iff]
    constructor
    · rintro ⟨c, hc, e⟩; exact ⟨c, h.mem_iff.1 hc, e⟩
    · rintro ⟨c, hc, e⟩; exact ⟨c, h.mem_iff.2 hc, e⟩
  cases k : has M nm with
  | true => exact this.2 k
  | false =>
    cases j : has L nm with
    | false => rfl
    | true => rw [this.1 j] at k; cases k

/-- Both ways come to the same: the first is ascending, and is the second cErr sorted. -/
theorem prs_same : ∀ (w : List (List ByteArray)) (A B : List Crp) (i : Nat), Asc A → A.Perm B → (prsA A i w).2 = (prsB B i w).2 ∧ Asc (prsA A i w).1 ∧ (prsA A i w).1.Perm (prsB B i w).1
  | [], A, B, i, hA, hP => ⟨rfl, hA, hP⟩
  | w :: r, A, B, i, hA, hP => by
    rw [prsA, prsB]
    by_cases h0 : w = []
    · rw [if_pos h0, if_pos h0]; exact prs_same r A B (i + 1) hA hP
    rw [if_neg h0, if_neg h0]
    cases hl : lineC w with
    | none => exact ⟨rfl, List.Pairwise.nil, List.Perm.refl _⟩
    | some c =>
      simp only
      rw [has_perm hP, hP.length_eq]
      by_cases h1 : has B c.nm = true
      · rw [if_pos h1, if_pos h1]; exact ⟨rfl, List.Pairwise.nil, List.Perm.refl _⟩
      rw [if_neg h1, if_neg h1]
      by_cases h2 : B.length = 40
      · rw [if_pos h2, if_pos h2]; exact ⟨rfl, List.Pairwise.nil, List.Perm.refl _⟩
      rw [if_neg h2, if_neg h2]
      refine prs_same r _ _ (i + 1) (ins_asc hA fun x hx e => h1 ((has_iff B c.nm).2 ⟨x, hP.mem_iff.1 hx, e⟩)) ?_
      exact (ins_perm c A).trans ((List.perm_append_comm (l₁ := [c]) (l₂ := B)).symm.symm.trans (List.Perm.refl _) |> fun h => (hP.cons c).trans h)

/-- Crops of lines: distinct names. -/
def Dist (L : List Crp) : Prop := ∀ a ∈ L, ∀ b ∈ L, a.nm = b.nm → a = b

theorem asc_dist : ∀ {L : List Crp}, Asc L → Dist L
  | [], _ => fun a h => by cases h
  | x :: L, h => by
    have h1 := List.pairwise_cons.1 h
    intro a ha b hb e
    rcases List.mem_cons.1 ha with e1 | h2
    · rcases List.mem_cons.1 hb with e3 | h4
      · rw [e1, e3]
      · have := h1.1 b h4; rw [← e1, e, lt_irrefl] at this; cases this
    · rcases List.mem_cons.1 hb with e3 | h4
      · have := h1.1 a h2; rw [← e3, ← e, lt_irrefl] at this; cases this
      · exact asc_dist h1.2 a h2 b h4 e

end Cr
end Go.Proofs.YtcghhagnibabeaaGreatDoor
