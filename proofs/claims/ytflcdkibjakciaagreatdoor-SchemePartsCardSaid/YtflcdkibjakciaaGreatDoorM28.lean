/-
  MERGED (mergek.py): the texts Sa, Lw, Lr.
-/
import Derived.Test.YtflcdkibjakciaaGreatDoorM14
import Derived.Test.YtflcdkibjakciaaGreatDoorM13
import Derived.Test.YtflcdkibjakciaaGreatDoorM4

namespace Go.Proofs.YtflcdkibjakciaaGreatDoor
namespace Sc
open Go.Lib Te

def amtL (p : Int) (sq : Int) : List Brk → Int
  | [] => 0
  | b :: r => max 0 (min sq b.up - p) * b.rate + amtL b.up sq r

theorem amt_succ' {l : List Brk} {k : Nat} (sq : Int) (hk : k < l.length) : amt l sq (k + 1) = amt l sq k + max 0 (min sq l[k].up - upB l k) * l[k].rate := by
  rw [amt, List.getElem?_eq_getElem hk]

theorem amt_from (l : List Brk) (sq : Int) : ∀ (n k : Nat), k + n = l.length → amt l sq l.length = amt l sq k + amtL (upB l k) sq (l.drop k)
  | 0, k, h => by
    have : k = l.length := by omega
    subst this
    rw [List.drop_length, amtL, Int.add_zero]
  | n + 1, k, h => by
    have hk : k < l.length := by omega
    rw [amt_from l sq n (k + 1) (by omega), amt_succ' sq hk, List.drop_eq_getElem_cons hk, amtL, upB_succ hk, Int.add_assoc]

theorem amt_list (l : List Brk) (sq : Int) : amt l sq l.length = amtL 0 sq l := by
  have := amt_from l sq l.length 0 (by omega)
  rw [List.drop_zero] at this
  rw [this]
  show 0 + amtL (upB l 0) sq l = _
  rw [Int.zero_add]
  rfl

/-- The brackets rise from p on. -/
def ascB (p : Int) : List Brk → Prop
  | [] => True
  | b :: r => p < b.up ∧ 0 ≤ b.rate ∧ ascB b.up r

theorem asc_from {l : List Brk} (h : brAll l l.length = true) : ∀ (n k : Nat), k + n = l.length → ascB (upB l k) (l.drop k)
  | 0, k, hk => by
    have : k = l.length := by omega
    subst this
    rw [List.drop_length]
    trivial
  | n + 1, k, hk => by
    have hk : k < l.length := by omega
    have h2 := br_right hk (brAll_mono (by omega) h)
    have h3 := asc_from h n (k + 1) (by omega)
    rw [upB_succ hk] at h3
    rw [List.drop_eq_getElem_cons hk]
    exact ⟨h2.1, h2.2.2.1, h3⟩

theorem asc_right {l : List Brk} (h : brB l = true) : ascB 0 l := by
  have := asc_from (brB_all h) l.length 0 (by omega)
  rwa [List.drop_zero] at this

/-- The rate of a square. -/
def rateAt (l : List Brk) (j : Int) : Int := match l.find? fun b => decide (j ≤ b.up) with | some b => b.rate | none => 0

theorem rateAt_cons (b : Brk) (r : List Brk) (j : Int) : rateAt (b :: r) j = if j ≤ b.up then b.rate else rateAt r j := by
  unfold rateAt
  rw [List.find?_cons]
  by_cases h : j ≤ b.up
  · rw [if_pos h, decide_eq_true h]
  · rw [if_neg h, decide_eq_false h]

theorem amtL_succ : ∀ (l : List Brk) (p n : Int), ascB p l → amtL p (n + 1) l = amtL p n l + if n + 1 ≤ p then 0 else rateAt l (n + 1)
  | [], p, n, _ => by simp [amtL, rateAt]
  | b :: r, p, n, ⟨h1, _, h3⟩ => by
    rw [amtL, amtL, amtL_succ r b.up n h3, rateAt_cons]
    by_cases h : n + 1 ≤ b.up
    · rw [if_pos h, if_pos h]
      have e1 : min (n + 1) b.up = n + 1 := by omega
      have e2 : min n b.up = n := by omega
      rw [e1, e2]
      by_cases hp : n + 1 ≤ p
      · rw [if_pos hp]
        have e3 : max 0 (n + 1 - p) = 0 := by omega
        have e4 : max 0 (n - p) = 0 := by omega
        rw [e3, e4]; omega
      · rw [if_neg hp]
        have e3 : max 0 (n + 1 - p) = (n - p) + 1 := by omega
        have e4 : max 0 (n - p) = n - p := by omega
        rw [e3, e4, Int.add_mul]; omega
    · rw [if_neg h, if_neg (by omega), if_neg h]
      have e1 : min (n + 1) b.up = b.up := by omega
      have e2 : min n b.up = b.up := by omega
      rw [e1, e2]; omega

theorem amtL_zero : ∀ (l : List Brk) (p : Int), 0 ≤ p → ascB p l → amtL p 0 l = 0
  | [], _, _, _ => rfl
  | b :: r, p, hp, ⟨h1, _, h3⟩ => by
    rw [amtL, amtL_zero r b.up (by omega) h3]
    have : max 0 (min 0 b.up - p) = 0 := by omega
    rw [this]; omega

/-- One square more. -/
theorem amt_next {l : List Brk} (h : ascB 0 l) {n : Int} (hn : 0 ≤ n) : amt l (n + 1) l.length = amt l n l.length + rateAt l (n + 1) := by
  rw [amt_list, amt_list, amtL_succ l 0 n h, if_neg (by omega)]
theorem amt_none {l : List Brk} (h : ascB 0 l) : amt l 0 l.length = 0 := by rw [amt_list, amtL_zero l 0 (Int.le_refl _) h]

theorem rateAt_nonneg : ∀ (l : List Brk) (p j : Int), ascB p l → 0 ≤ rateAt l j
  | [], _, _, _ => by simp [rateAt]
  | b :: r, p, j, ⟨_, h2, h3⟩ => by
    rw [rateAt_cons]
    split
    · exact h2
    · exact rateAt_nonneg r b.up j h3

theorem amt_mono {l : List Brk} (h : ascB 0 l) (a : Int) (ha : 0 ≤ a) : ∀ b : Nat, amt l a l.length ≤ amt l (a + b) l.length
  | 0 => by simp
  | b + 1 => by
    have ih := amt_mono h a ha b
    have e : a + ((b + 1 : Nat) : Int) = (a + b) + 1 := by omega
    rw [e, amt_next h (by omega)]
    have := rateAt_nonneg l 0 (a + b + 1) h
    omega

theorem amt_nonneg {l : List Brk} (h : ascB 0 l) (a : Int) (ha : 0 ≤ a) : 0 ≤ amt l a l.length := by
  have := amt_mono h 0 (Int.le_refl _) a.toNat
  rw [amt_none h] at this
  have e : (0 : Int) + a.toNat = a := by omega
  rwa [e] at this

/-- Rates that do not rise. -/
def descB : List Brk → Prop
  | [] => True
  | b :: r => (∀ x ∈ r, x.rate ≤ b.rate) ∧ descB r

theorem rateAt_le : ∀ (l : List Brk) (m j : Int), 0 ≤ m → (∀ x ∈ l, x.rate ≤ m) → rateAt l j ≤ m
  | [], m, j, h, _ => by simpa [rateAt] using h
  | b :: r, m, j, h, h2 => by
    rw [rateAt_cons]
    split
    · exact h2 b List.mem_cons_self
    · exact rateAt_le r m j h fun x hx => h2 x (List.mem_cons_of_mem _ hx)

theorem rateAt_desc : ∀ (l : List Brk) (p i j : Int), ascB p l → descB l → i ≤ j → rateAt l j ≤ rateAt l i
  | [], _, _, _, _, _, _ => by simp [rateAt]
  | b :: r, p, i, j, ⟨_, h2, h3⟩, ⟨h4, h5⟩, hij => by
    rw [rateAt_cons, rateAt_cons]
    by_cases hj : j ≤ b.up
    · rw [if_pos hj, if_pos (by omega)]; exact Int.le_refl _
    · rw [if_neg hj]
      by_cases hi : i ≤ b.up
      · rw [if_pos hi]; exact rateAt_le r b.rate j h2 h4
      · rw [if_neg hi]; exact rateAt_desc r b.up i j h3 h5 hij

theorem amt_sub {l : List Brk} (h : ascB 0 l) (h2 : descB l) (a : Int) (ha : 0 ≤ a) : ∀ b : Nat, amt l (a + b) l.length ≤ amt l a l.length + amt l b l.length
  | 0 => by
    have e : a + ((0 : Nat) : Int) = a := by omega
    rw [e]
    have := amt_none h
    have e2 : ((0 : Nat) : Int) = 0 := rfl
    rw [e2, this]; omega
  | b + 1 => by
    have ih := amt_sub h h2 a ha b
    have e : a + ((b + 1 : Nat) : Int) = (a + b) + 1 := by omega
    have e2 : ((b + 1 : Nat) : Int) = (b : Int) + 1 := by omega
    rw [e, e2, amt_next h (by omega), amt_next h (by omega)]
    have := rateAt_desc l 0 (b + 1) (a + b + 1) h h2 (by omega)
    omega

end Sc
end Go.Proofs.YtflcdkibjakciaaGreatDoor

namespace Go.Proofs.YtflcdkibjakciaaGreatDoor
namespace Sc
open Go.Lib Te

theorem fst_isNone {f : Nat → Int} {n : Nat} (h : fst f n = none) : ∀ j, j < n → f j = 0 := by
  intro j hj
  unfold fst at h
  have := List.find?_eq_none.1 h j (List.mem_range.2 hj)
  simpa using this

/-- What a right law is. -/
structure LawOk (L : List Sch) : Prop where
  len : L.length ≤ 16
  one : ∀ s ∈ L, one17 s = 0
  asc : ∀ i j (hi : i < L.length) (hj : j < L.length), i < j → L[i].num < L[j].num
  mtl : ∀ s ∈ L, mutual17 L s = true

theorem lawOk {L : List Sch} (h : chk17 L = (-1, 0)) : LawOk L := by
  unfold chk17 at h
  by_cases h16 : 16 < L.length
  · rw [if_pos h16] at h; cases h
  rw [if_neg h16] at h
  have hA : fst (errA L) L.length = none := by
    cases e : fst (errA L) L.length with
    | none => rfl
    | some i => rw [e] at h; simp only [Prod.mk.injEq] at h; omega
  rw [hA] at h
  simp only at h
  have hB : fst (errB L) L.length = none := by
    cases e : fst (errB L) L.length with
    | none => rfl
    | some i => rw [e] at h; simp only [Prod.mk.injEq] at h; omega
  have kA := fst_isNone hA
  have kB := fst_isNone hB
  have one : ∀ i (hi : i < L.length), one17 L[i] = 0 ∧ twice L i L[i] = false := fun i hi => by
    have := kA i hi
    unfold errA at this
    rw [List.getElem?_eq_getElem hi] at this
    simp only at this
    split at this
    · rename_i h1; exact absurd this h1
    · rename_i h1
      split at this
      · cases this
      · rename_i h2
        exact ⟨Decidable.not_not.1 h1, by simpa using h2⟩
  have step : ∀ i (hi : i + 1 < L.length), L[i].num < L[i + 1].num := fun i hi => by
    have := (one (i + 1) hi).2
    unfold twice at this
    rw [Bool.or_eq_false_iff] at this
    have h1 := this.1
    simp only at h1
    rw [List.getElem?_eq_getElem (by omega)] at h1
    simp only [decide_eq_false_iff_not] at h1
    omega
  refine ⟨by omega, fun s hs => ?_, fun i j hi hj hij => ?_, fun s hs => ?_⟩
  · obtain ⟨i, hi, rfl⟩ := List.mem_iff_getElem.1 hs
    exact (one i hi).1
  · obtain ⟨k, rfl⟩ : ∃ k, j = i + 1 + k := ⟨j - (i + 1), by omega⟩
    clear hij
    induction k with
    | zero => exact step i hj
    | succ k ih =>
      have h1 := ih (by omega)
      have h2 := step (i + 1 + k) hj
      exact Int.lt_trans h1 h2
  · obtain ⟨i, hi, rfl⟩ := List.mem_iff_getElem.1 hs
    have := kB i hi
    unfold errB at this
    rw [List.getElem?_eq_getElem hi] at this
    simp only at this
    split at this
    · assumption
    · cases this

theorem LawOk.uniq {L : List Sch} (h : LawOk L) {a b : Sch} (ha : a ∈ L) (hb : b ∈ L) (e : a.num = b.num) : a = b := by
  obtain ⟨i, hi, rfl⟩ := List.mem_iff_getElem.1 ha
  obtain ⟨j, hj, rfl⟩ := List.mem_iff_getElem.1 hb
  rcases Nat.lt_trichotomy i j with h1 | h1 | h1
  · have := h.asc i j hi hj h1; omega
  · subst h1; rfl
  · have := h.asc j i hj hi h1; omega

theorem LawOk.num {L : List Sch} (h : LawOk L) {a : Sch} (ha : a ∈ L) : 0 ≤ a.num ∧ a.num ≤ 15 := ⟨(one_parts (h.one a ha)).1, (one_parts (h.one a ha)).2.1⟩
theorem LawOk.ex {L : List Sch} (h : LawOk L) {a : Sch} (ha : a ∈ L) : 0 ≤ a.ex ∧ a.ex < 65536 := (one_parts (h.one a ha)).2.2.2.2.2.2.1

theorem LawOk.mut1 {L : List Sch} (h : LawOk L) {a b : Sch} (ha : a ∈ L) (hb : b ∈ L) (e : bitB a.ex b.num = true) : bitB b.ex a.num = true := by
  have hm := h.mtl a ha
  unfold mutual17 at hm
  rw [List.all_eq_true] at hm
  obtain ⟨n0, n1⟩ := h.num hb
  have := hm b.num.toNat (List.mem_range.2 (by omega))
  unfold mutN at this
  have en : ((b.num.toNat : Nat) : Int) = b.num := by omega
  rw [en, if_neg (by rw [e]; decide)] at this
  cases ef : L.find? fun x => x.num == b.num with
  | none => rw [ef] at this; cases this
  | some x =>
    rw [ef] at this
    simp only at this
    have hx := List.mem_of_find?_eq_some ef
    have hn : x.num = b.num := by have := List.find?_some ef; simpa using this
    rw [← h.uniq hx hb hn]
    exact this

/-- Exclusion is mutual. -/
theorem LawOk.mutual {L : List Sch} (h : LawOk L) {a b : Sch} (ha : a ∈ L) (hb : b ∈ L) : bitB a.ex b.num = bitB b.ex a.num := by
  cases e1 : bitB a.ex b.num <;> cases e2 : bitB b.ex a.num
  · rfl
  · have := h.mut1 hb ha e2; rw [e1] at this; cases this
  · have := h.mut1 ha hb e1; rw [e2] at this; cases this
  · rfl

theorem LawOk.self {L : List Sch} (h : LawOk L) {a : Sch} (ha : a ∈ L) : bitB a.ex a.num = false := by
  have := h.one a ha
  unfold one17 at this
  split at this
  · cases this
  split at this
  · cases this
  split at this
  · rename_i h1; exact absurd this h1
  split at this
  · cases this
  · rename_i h1
    cases e : bitB a.ex a.num
    · rfl
    · exact absurd (.inr (.inr (.inr e))) h1

/-- Two of a set that exclude each other: in whatever order. -/
def clash (set : Int) (L : List Sch) : Bool := L.any fun a => L.any (confB set a)

theorem conf1_iff (set : Int) : ∀ L : List Sch, (conf1 set L).isSome = true ↔ ∃ i j, ∃ (hi : i < L.length) (hj : j < L.length), i < j ∧ confB set L[i] L[j] = true
  | [] => by simp [conf1]
  | a :: r => by
    rw [conf1]
    cases ef : r.find? (confB set a) with
    | some b =>
      simp only [Option.isSome_some, true_iff]
      obtain ⟨j, hj, rfl⟩ := List.mem_iff_getElem.1 (List.mem_of_find?_eq_some ef)
      exact ⟨0, j + 1, by simp, by simpa using hj, by omega, by simpa using List.find?_some ef⟩
    | none =>
      simp only
      rw [conf1_iff set r]
      constructor
      · rintro ⟨i, j, hi, hj, h1, h2⟩
        exact ⟨i + 1, j + 1, by simpa using hi, by simpa using hj, by omega, by simpa using h2⟩
      · rintro ⟨i, j, hi, hj, h1, h2⟩
        cases j with
        | zero => omega
        | succ j =>
          cases i with
          | zero =>
            have hj' : j < r.length := by simpa using hj
            have := List.find?_eq_none.1 ef r[j] (List.getElem_mem hj')
            exact absurd h2 (by simpa using this)
          | succ i => exact ⟨i, j, by simpa using hi, by simpa using hj, by omega, by simpa using h2⟩

theorem confB_symm {set : Int} {L : List Sch} (h : LawOk L) {a b : Sch} (ha : a ∈ L) (hb : b ∈ L) : confB set a b = confB set b a := by
  unfold confB
  rw [h.mutual ha hb]
  cases bitB set a.num <;> cases bitB set b.num <;> rfl

/-- A set has a conflict exactly if two of its schemes exclude each other. -/
theorem conf_clash {set : Int} {L : List Sch} (h : LawOk L) : (conf1 set L).isSome = clash set L := by
  rw [Bool.eq_iff_iff, conf1_iff]
  unfold clash
  rw [List.any_eq_true]
  constructor
  · rintro ⟨i, j, hi, hj, -, h2⟩
    exact ⟨L[i], List.getElem_mem _, List.any_eq_true.2 ⟨L[j], List.getElem_mem _, h2⟩⟩
  · rintro ⟨a, ha, h1⟩
    obtain ⟨b, hb, h2⟩ := List.any_eq_true.1 h1
    have h3 := h2
    rw [confB_symm h ha hb] at h3
    obtain ⟨i, hi, rfl⟩ := List.mem_iff_getElem.1 ha
    obtain ⟨j, hj, rfl⟩ := List.mem_iff_getElem.1 hb
    rcases Nat.lt_trichotomy i j with k | k | k
    · exact ⟨i, j, hi, hj, k, h2⟩
    · subst k
      unfold confB at h2
      rw [h.self ha] at h2
      simp at h2
    · exact ⟨j, i, hj, hi, k, h3⟩

theorem conf17_ok {L : List Sch} (h : chk17 L = (-1, 0)) (set : Int) : conf17 L set = conf1 set L := by
  unfold conf17; rw [h]; simp

/-- Fewer schemes have no more. -/
theorem clash_sub {s t : Int} {L : List Sch} (h : ∀ a ∈ L, bitB t a.num = true → bitB s a.num = true) (hc : clash t L = true) : clash s L = true := by
  unfold clash at *
  obtain ⟨a, ha, h1⟩ := List.any_eq_true.1 hc
  obtain ⟨b, hb, h2⟩ := List.any_eq_true.1 h1
  refine List.any_eq_true.2 ⟨a, ha, List.any_eq_true.2 ⟨b, hb, ?_⟩⟩
  unfold confB at *
  rw [Bool.and_eq_true, Bool.and_eq_true] at *
  exact ⟨h a ha h2.1, h b hb h2.2.1, h2.2.2⟩

theorem bit_nat (x n : Nat) : bitB (x : Int) (n : Int) = x.testBit n := by
  unfold bitB
  rw [Nat.testBit_eq_decide_div_mod_eq]
  have e : ((x : Int) / 2 ^ ((n : Int)).toNat % 2) = ((x / 2 ^ n % 2 : Nat) : Int) := by rw [Int.toNat_natCast]; norm_cast
  rw [e, decide_eq_decide]
  omega

theorem bit_and {x y n : Nat} (h : bitB ((x &&& y : Nat) : Int) (n : Int) = true) : bitB (x : Int) (n : Int) = true := by
  rw [bit_nat, Nat.testBit_and, Bool.and_eq_true] at h
  rw [bit_nat]; exact h.1

/-! ### rates that do not rise -/
/-- Brackets whose first rates have been lowered to the one ahead. -/
structure Capd (l B : List Brk) (i : Nat) : Prop where
  len : B.length = l.length
  up : ∀ k (h : k < B.length) (h' : k < l.length), B[k].up = l[k].up
  rate : ∀ k (h : k < B.length) (h' : k < l.length), 0 ≤ B[k].rate ∧ B[k].rate ≤ l[k].rate
  desc : ∀ j (h : j + 1 < B.length), j + 1 < i → B[j + 1].rate ≤ B[j].rate

theorem capd0 {l : List Brk} (h : brB l = true) : Capd l l 1 := ⟨rfl, fun _ _ _ => rfl, fun k h1 _ => ⟨(br_each h _ (List.getElem_mem h1)).2.2.1, Int.le_refl _⟩, fun j _ h2 => by omega⟩

theorem Capd.step {l B : List Brk} {i : Nat} (h : Capd l B i) (h1 : 1 ≤ i) (hi : i < B.length) : Capd l (B.set i ⟨B[i].up, min B[i].rate B[i - 1].rate⟩) (i + 1) := by
  have hl := h.len
  refine ⟨by rw [List.length_set, hl], fun k a b => ?_, fun k a b => ?_, fun j a b => ?_⟩
  · rw [List.length_set] at a
    rw [List.getElem_set]
    split
    · rename_i e; subst e; exact h.up _ a b
    · exact h.up _ a b
  · rw [List.length_set] at a
    rw [List.getElem_set]
    split
    · rename_i e; subst e
      have h2 := h.rate _ a b
      have h3 := h.rate (i - 1) (by omega) (by omega)
      simp only
      omega
    · exact h.rate _ a b
  · rw [List.length_set] at a
    rw [List.getElem_set, List.getElem_set]
    by_cases e : i = j + 1
    · subst e
      rw [if_pos rfl, if_neg (by omega)]
      simp only [Nat.add_sub_cancel]
      omega
    · rw [if_neg e]
      by_cases e2 : i = j
      · omega
      · rw [if_neg e2]
        exact h.desc j a (by omega)

theorem desc_of : ∀ {B : List Brk}, (∀ j (h : j + 1 < B.length), B[j + 1].rate ≤ B[j].rate) → descB B
  | [], _ => trivial
  | b :: r, h => by
    have key : ∀ j (hj : j < r.length), r[j].rate ≤ b.rate := by
      intro j
      induction j with
      | zero => intro hj; exact h 0 (by rw [List.length_cons]; omega)
      | succ j ih => intro hj; exact Int.le_trans (h (j + 1) (by rw [List.length_cons]; omega)) (ih (by omega))
    refine ⟨fun x hx => ?_, desc_of fun j hj => h (j + 1) (by rw [List.length_cons]; omega)⟩
    obtain ⟨j, hj, rfl⟩ := List.mem_iff_getElem.1 hx
    exact key j hj

theorem Capd.upB {l B : List Brk} {i : Nat} (h : Capd l B i) (k : Nat) : upB B k = upB l k := by
  unfold Sc.upB
  by_cases h0 : k = 0
  · rw [if_pos h0, if_pos h0]
  rw [if_neg h0, if_neg h0]
  by_cases hk : k - 1 < l.length
  · rw [List.getElem?_eq_getElem hk, List.getElem?_eq_getElem (by rw [h.len]; exact hk)]
    exact h.up _ _ _
  · rw [List.getElem?_eq_none (show B.length ≤ k - 1 by rw [h.len]; omega), List.getElem?_eq_none (show l.length ≤ k - 1 by omega)]

theorem Capd.right {l B : List Brk} {i : Nat} (h : Capd l B i) (hb : brB l = true) : brB B = true := by
  have hl := brB_len hb
  unfold brB
  rw [Bool.and_eq_true, Bool.and_eq_true, decide_eq_true_eq, decide_eq_true_eq, h.len]
  refine ⟨?_, hl⟩
  have ha := brB_all hb
  unfold brAll at *
  rw [List.all_eq_true] at *
  intro k hk
  have h1 := ha k hk
  have hk := List.mem_range.1 hk
  rw [brAt_some hk] at h1
  rw [brAt_some (by rw [h.len]; exact hk), h.upB, h.up _ _ hk]
  rw [Bool.and_eq_true, Bool.and_eq_true, Bool.and_eq_true, decide_eq_true_eq, decide_eq_true_eq, decide_eq_true_eq, decide_eq_true_eq] at *
  have := h.rate k (by rw [h.len]; exact hk) hk
  exact ⟨h1.1, h1.2.1, this.1, by omega⟩

/-- The scheme with other right brackets. -/
theorem one_with {s : Sch} (h : one17 s = 0) {B : List Brk} (hB : brB B = true) : one17 { s with br := B } = 0 := by
  obtain ⟨h1, h2, h3, h4, h5, h6, h7, h8⟩ := one_parts h
  have hs : bitB s.ex s.num = false := by
    unfold one17 at h
    split at h
    · cases h
    split at h
    · cases h
    split at h
    · rename_i h1; exact absurd h h1
    split at h
    · cases h
    · rename_i h1
      cases e : bitB s.ex s.num
      · rfl
      · exact absurd (.inr (.inr (.inr e))) h1
  unfold one17
  rw [if_neg (by simp only; omega), if_neg (by simp only; rw [h8]; decide), if_neg (by simp only; omega), if_neg]
  simp only
  rintro (e | e | e | e)
  · rw [hB] at e; cases e
  · omega
  · omega
  · rw [hs] at e; cases e

/-- What two parts are paid, and the whole. -/
theorem parts_ok {B : List Brk} (h : brB B = true) (hd : descB B) {a b : Int} (ha : 0 ≤ a) (hb : 0 ≤ b) :
    amt B (a + b) B.length / 100 - 1 ≤ amt B a B.length / 100 + amt B b B.length / 100 ∧ amt B a B.length / 100 ≤ amt B (a + b) B.length / 100 ∧ amt B b B.length / 100 ≤ amt B (a + b) B.length / 100 := by
  have hasc := asc_right h
  have h1 := amt_sub hasc hd a ha b.toNat
  have eb : ((b.toNat : Nat) : Int) = b := by omega
  rw [eb] at h1
  have h2 := amt_mono hasc a ha b.toNat
  rw [eb] at h2
  have h3 := amt_mono hasc b hb a.toNat
  rw [show ((a.toNat : Nat) : Int) = a by omega, Int.add_comm b a] at h3
  omega

end Sc
end Go.Proofs.YtflcdkibjakciaaGreatDoor

namespace Go.Proofs.YtflcdkibjakciaaGreatDoor
open Go.RowKit Te Sc

structure LwR (B d : Nat) (wr : World) (v : Value) (R : List RSx) (L : List Sch) : Prop where
  hl : R.length = L.length
  own : OwnR SSc wr 32 B v R
  rows : ∀ k (h : k < R.length) (h' : k < L.length), SV (Qx B v none) wr d R[k] L[k]

def LwAt (B : Nat) (wr : World) (v : Value) (L : List Sch) : Prop := ∃ d R, LwR B d wr v R L

theorem LwAt.nil (B : Nat) (wr : World) : LwAt B wr (.slice none 0 0) [] := ⟨0, [], rfl, OwnR.nil _ _ _, fun k h => by simp at h⟩

theorem LwR.blocks {B d : Nat} {wr w' : World} {v : Value} {R : List RSx} {L : List Sch} (h : LwR B d wr v R L) (hs : wr.heap.size ≤ w'.heap.size) (hb : ∀ b, B ≤ b → b < wr.heap.size → w'.heap[b]? = wr.heap[b]?) : LwR B d w' v R L :=
  ⟨h.hl, h.own.blocks fun g _ h3 h4 => hb g h3 h4, fun k a b => (h.rows k a b).change hs fun b q hl => ⟨hb b q.1 hl, q⟩⟩
theorem LwAt.blocks {B : Nat} {wr w' : World} {v : Value} {L : List Sch} (h : LwAt B wr v L) (hs : wr.heap.size ≤ w'.heap.size) (hb : ∀ b, B ≤ b → b < wr.heap.size → w'.heap[b]? = wr.heap[b]?) : LwAt B w' v L := by
  obtain ⟨d, R, h⟩ := h
  exact ⟨d, R, h.blocks hs hb⟩
theorem LwAt.below {B : Nat} {wr w' : World} {v : Value} {L : List Sch} (h : LwAt B wr v L) (hb : Below wr.heap.size wr w') : LwAt B w' v L := h.blocks hb.size fun b _ hl => hb.block b hl
theorem LwR.below {B d : Nat} {wr w' : World} {v : Value} {R : List RSx} {L : List Sch} (h : LwR B d wr v R L) (hb : Below wr.heap.size wr w') : LwR B d w' v R L := h.blocks hb.size fun b _ hl => hb.block b hl
theorem LwAt.but {B t : Nat} {wr w' : World} {v : Value} {L : List Sch} (h : LwAt B wr v L) (hb : But t wr w') (ht : t < B) : LwAt B w' v L := h.blocks hb.size fun b h1 hl => hb.block b hl (by omega)
theorem LwR.but {B t d : Nat} {wr w' : World} {v : Value} {R : List RSx} {L : List Sch} (h : LwR B d wr v R L) (hb : But t wr w') (ht : t < B) : LwR B d w' v R L := h.blocks hb.size fun b h1 hl => hb.block b hl (by omega)

/-- One scheme more, of new memory. -/
theorem LwR.push {B d d' t G : Nat} {wr w5 w6 : World} {v v6 : Value} {R : List RSx} {L : List Sch} {r : RSx} {s : Sch} (h : LwR B d wr v R L) (hB : B ≤ wr.heap.size) (hb : But t wr w5) (ht : t < B) (hG : w5.heap.size ≤ G) (hv : SV (NewQ wr.heap.size) w5 d' r s)
    (hO : OwnR SSc w6 32 B v6 (R ++ [r])) (hap : Appends w5 w6 B G v v6) : LwAt B w6 v6 (L ++ [s]) := by
  have hsz : wr.heap.size ≤ w6.heap.size := Nat.le_trans hb.size hap.size
  refine ⟨max d d', R ++ [r], by rw [List.length_append, List.length_append, h.hl]; rfl, hO, fun k a b => ?_⟩
  by_cases hlt : k < R.length
  · rw [List.getElem_append_left hlt, List.getElem_append_left (by rw [← h.hl]; exact hlt)]
    refine ((h.rows k hlt (by rw [← h.hl]; exact hlt)).change hsz fun b q hl => ?_).deep (Nat.le_max_left _ _)
    have hl5 := Nat.lt_of_lt_of_le hl hb.size
    exact ⟨(hap.far b hl5 q.2.1).trans (hb.block b hl (by have := q.1; omega)), q.1, hap.apart hG hl5 q.2.1, fun e => by cases e⟩
  · have ek : k = R.length := by rw [List.length_append] at a; simp at a; omega
    subst ek
    rw [List.getElem_append_right (Nat.le_refl _), List.getElem_append_right (by rw [h.hl]; exact Nat.le_refl _)]
    simp only [Nat.sub_self, h.hl, List.getElem_cons_zero]
    refine (hv.change hap.size fun b q hl => ?_).deep (Nat.le_max_right _ _)
    have hn : v.ownBlock ≠ some b := fun e => by have := (h.own.lt e).2; unfold NewQ at q; omega
    exact ⟨hap.far b hl hn, by unfold NewQ at q; omega, hap.apart hG hl hn, fun e => by cases e⟩

/-- The cells of scheme k, which may be written. -/
theorem LwAt.at {B : Nat} {wr : World} {v : Value} {L : List Sch} (h : LwAt B wr v L) {k : Nat} (hk : k < L.length) :
    ∃ g c r, v = .slice (some ⟨g, 0, none⟩) L.length c ∧ L.length ≤ c ∧ B ≤ g ∧ g < wr.heap.size ∧ SCells wr g (k * 10) r ∧ r.num = L[k].num ∧ r.ex = L[k].ex ∧ (∀ i, wr.frozen? ⟨g, i, none⟩ = false) ∧
      ∀ x, LwAt B (wr.setCell ⟨g, k * 10 + 8, none⟩ (.int .i64 x)) v (L.set k { L[k] with ex := x }) := by
  obtain ⟨d, R, h⟩ := h
  have hk' : k < R.length := by rw [h.hl]; exact hk
  obtain ⟨p, c, e, -, -, hc, -, -⟩ := h.own.cut h.hl
  have ho := h.own
  rw [e] at ho
  obtain ⟨g, eg, hn, hB, hg, hcl, hf, hs⟩ := ho.at hk'
  have hk10 : SSc.k = 10 := rfl
  rw [hk10] at hcl hs
  have hrow := h.rows k hk' hk
  refine ⟨g, c, R[k], by rw [e, eg], hc, hB, hg, ⟨hcl 0 _ rfl, hcl 1 _ rfl, hcl 2 _ rfl, hcl 3 _ rfl, hcl 4 _ rfl, hcl 5 _ rfl, hcl 6 _ rfl, hcl 7 _ rfl, hcl 8 _ rfl, hcl 9 _ rfl⟩, hrow.num, hrow.ex, hf, fun x => ?_⟩
  have ho2 := hs 8 (.int .i64 x) { R[k] with ex := x } (by omega) rfl
  have key : ∀ b, Qx B v none b → b < wr.heap.size → (wr.setCell ⟨g, k * 10 + 8, none⟩ (.int .i64 x)).heap[b]? = wr.heap[b]? ∧ Qx B v none b := fun b q _ => ⟨setCell_far _ (fun e2 => q.2.1 (by rw [e, eg, e2]; rfl)) _ _, q⟩
  refine ⟨d, R.set k { R[k] with ex := x }, by rw [List.length_set, List.length_set, h.hl], by rw [e]; exact ho2, fun j a b => ?_⟩
  rw [List.length_set] at a b
  have hz : wr.heap.size ≤ (wr.setCell ⟨g, k * 10 + 8, none⟩ (.int .i64 x)).heap.size := by rw [setCell_sz]; exact Nat.le_refl _
  rw [List.getElem_set, List.getElem_set]
  by_cases ej : k = j
  · subst ej
    rw [if_pos rfl, if_pos rfl]
    have := hrow.change hz key
    exact ⟨this.num, this.nm, this.t, this.br, this.bn, this.bc, this.bz, this.bq, this.least, rfl, this.needs⟩
  · rw [if_neg ej, if_neg ej]
    exact (h.rows j a b).change hz key

/-- Seen as any law. -/
theorem LwAt.ss {B : Nat} {wr : World} {v : Value} {L : List Sch} (h : LwAt B wr v L) {n : Nat} (hn : L.length = n) : ∃ p c d, v = .slice p n c ∧ n ≤ c ∧ (p = none → c = 0) ∧ SsAt (fun b => B ≤ b) wr d p L := by
  obtain ⟨d, R, h⟩ := h
  obtain ⟨p, c, e, h1, h2, h3, -, h5⟩ := h.own.cut (h.hl.trans hn)
  exact ⟨p, c, d, e, h3, fun e => (h1 e).1, ⟨R, h.hl, h5, fun k a b => (h.rows k a b).change (Nat.le_refl _) fun b q _ => ⟨rfl, q.1⟩⟩, fun a ea => .inr (h2 a ea).2.2.1⟩

theorem LwAt.mono {B B' : Nat} {wr : World} {v : Value} {L : List Sch} (h : LwAt B wr v L) (hB : B' ≤ B) : LwAt B' wr v L := by
  obtain ⟨d, R, h⟩ := h
  exact ⟨d, R, h.hl, h.own.mono hB, fun k a b => (h.rows k a b).change (Nat.le_refl _) fun b q _ => ⟨rfl, Nat.le_trans hB q.1, q.2⟩⟩

/-- What the schemes of a tape are, each. -/
structure SmallS (s : Sch) : Prop where
  nm : s.nm.size ≤ 40
  ct : count s.cond < 8
  n0 : 0 ≤ s.num
  n3 : s.num ≤ 3

theorem SmallS.put {L : List Sch} (h : ∀ s ∈ L, SmallS s) {k : Nat} (hk : k < L.length) (x : Int) : ∀ s ∈ L.set k { L[k] with ex := x }, SmallS s := by
  intro s hs
  rcases List.mem_or_eq_of_mem_set hs with hs | rfl
  · exact h s hs
  · have := h L[k] (List.getElem_mem hk)
    exact ⟨this.nm, this.ct, this.n0, this.n3⟩

/-- What Tape.Law gives. -/
def LawGive (t : Nat) (l : List Int) (most : Nat) (w : World) (e : Ending) (w' : World) : Prop :=
  ∃ (v : Value) (L : List Sch) (q : Nat), e = .returned v ∧ LwAt w.heap.size w' v L ∧ chk17 L = (-1, 0) ∧ L.length ≤ most ∧ (∀ s ∈ L, SmallS s) ∧ TapeAt w' t l q ∧ But t w w'

theorem chk_nil : chk17 [] = (-1, 0) := rfl

end Go.Proofs.YtflcdkibjakciaaGreatDoor
