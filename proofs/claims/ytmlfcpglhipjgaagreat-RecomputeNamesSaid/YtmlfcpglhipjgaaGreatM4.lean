/-
  PACKED (pack8.py): what is needed of the texts Pv, Pc, Wn, Te, Sc, Sd, Lw, Yp, Gr.
-/
import Derived.Test.YtmlfcpglhipjgaaGreatM3
namespace Go.Proofs.YtmlfcpglhipjgaaGreat.En
def money (n : Int) : Bool := decide (0 ≤ n) && decide (n ≤ 68719476736)
theorem money_iff {n : Int} : money n = true ↔ 0 ≤ n ∧ n ≤ 68719476736 := by unfold money; simp
theorem money_not {n : Int} : money n = false ↔ n < 0 ∨ 68719476736 < n := by
 rw [← Bool.not_eq_true, money_iff]; omega
def err (e u : Int) (l : List Int) : Int :=
 if money e = false then 67 else if u < 1 ∨ 100000 < u then 2 else if 64 < l.length then 1 else if (l.any fun x => !money x) = true then 67 else 0
def units (u : Int) (l : List Int) : List Int := l.map fun x => x / u
def usum (u : Int) (l : List Int) : Int := Sh.sum (units u l)
def paid (e u : Int) (l : List Int) : List Int := if e / u < usum u l then shList (e / u) (units u l) else units u l
def scale (e u : Int) (l : List Int) : List Int := if err e u l = 0 then (paid e u l).map fun x => x * u else []
def scaled (e u : Int) (l : List Int) : Bool := decide (err e u l = 0) && decide (e / u < usum u l)
def factor (e u : Int) (l : List Int) : Int × Int := if err e u l = 0 then (if e / u < usum u l then (e / u, usum u l) else (1, 1)) else (0, 0)
structure Good (e u : Int) (l : List Int) : Prop where
 e0 : 0 ≤ e
 e1 : e ≤ 68719476736
 u0 : 1 ≤ u
 u1 : u ≤ 100000
 len : l.length ≤ 64
 all : ∀ x ∈ l, 0 ≤ x ∧ x ≤ 68719476736
theorem good_of {e u : Int} {l : List Int} (h : err e u l = 0) : Good e u l := by
 unfold err at h
 by_cases h1 : money e = false
 ·rw [if_pos h1] at h; omega
 ·rw [if_neg h1] at h
  by_cases h2 : u < 1 ∨ 100000 < u
  ·rw [if_pos h2] at h; omega
  ·rw [if_neg h2] at h
   by_cases h3 : 64 < l.length
   ·rw [if_pos h3] at h; omega
   ·rw [if_neg h3] at h
    by_cases h4 : (l.any fun x => !money x) = true
    ·rw [if_pos h4] at h; omega
    ·have m := money_iff.1 (show money e = true by simpa using h1)
     refine ⟨m.1, m.2, by omega, by omega, by omega, fun x hx => money_iff.1 ?_⟩
     have h5 : (l.any fun x => !money x) = false := by simpa using h4
     rw [List.any_eq_false] at h5
     simpa using h5 x hx
theorem err_of {e u : Int} {l : List Int} (h : Good e u l) : err e u l = 0 := by
 have h4 : (l.any fun x => !money x) = false := by
  rw [List.any_eq_false]; intro x hx; rw [money_iff.2 (h.all x hx)]
  simp
 unfold err; rw [if_neg (by rw [money_iff.2 ⟨h.e0, h.e1⟩]; simp), if_neg (by have := h.u0; have := h.u1; omega), if_neg (by have := h.len; omega), if_neg (by rw [h4]; simp)]
variable {e u : Int} {l : List Int}
theorem Good.sum (h : Good e u l) (k : Nat) : 0 ≤ Sh.sum (l.take k) ∧ Sh.sum (l.take k) ≤ 4398046511104 := by
 have hx : ∀ x ∈ l.take k, 0 ≤ x ∧ x ≤ 68719476736 := fun x hx => h.all x (List.mem_of_mem_take hx)
 refine ⟨Sh.sum_nonneg fun x m => (hx x m).1, ?_⟩
 have := Sh.sum_le_len fun x m => (hx x m).2
 have hl : (l.take k).length ≤ l.length := List.length_take_le' _ _; have := h.len; omega
theorem Good.unit (h : Good e u l) : ∀ x ∈ units u l, 0 ≤ x ∧ x ≤ 68719476736 := fun x hx => by
 obtain ⟨y, hy, rfl⟩ := List.mem_map.1 hx; have hb := h.all y hy; have := Int.ediv_le_self u hb.1; exact ⟨Int.ediv_nonneg hb.1 (by have := h.u0; omega), by omega⟩
theorem units_len : (units u l).length = l.length := by unfold units; simp
theorem units_take (k : Nat) : (units u l).take k = units u (l.take k) := by unfold units; rw [List.map_take]
theorem Good.usum (h : Good e u l) (k : Nat) : 0 ≤ usum u (l.take k) ∧ usum u (l.take k) ≤ 4398046511104 := by
 unfold En.usum; rw [← units_take]; have hx : ∀ x ∈ (units u l).take k, 0 ≤ x ∧ x ≤ 68719476736 := fun x hx => h.unit x (List.mem_of_mem_take hx)
 refine ⟨Sh.sum_nonneg fun x m => (hx x m).1, ?_⟩
 have := Sh.sum_le_len fun x m => (hx x m).2
 have hl : ((units u l).take k).length ≤ (units u l).length := List.length_take_le' _ _; rw [units_len] at hl; have := h.len; omega
theorem units_snoc (x : Int) : units u (l ++ [x]) = units u l ++ [x / u] := by unfold units; simp
theorem usum_snoc (x : Int) : usum u (l ++ [x]) = usum u l + x / u := by unfold usum; rw [units_snoc, Sh.sum_snoc]
theorem take_snoc {k : Nat} (hk : k < l.length) : l.take (k + 1) = l.take k ++ [l.getD k 0] := by
 rw [tsg hk, List.getD_eq_getElem?_getD, List.getElem?_eq_getElem hk]; rfl
end Go.Proofs.YtmlfcpglhipjgaaGreat.En
namespace Go.Proofs.YtmlfcpglhipjgaaGreat.Ce
def fr (l : List (Int × Int)) (i : Nat) : Int := (l.getD i (0, 0)).1
def mi (l : List (Int × Int)) (i : Nat) : Int := (l.getD i (0, 0)).2
def okAt (l : List (Int × Int)) (i : Nat) : Bool :=
 En.money (fr l i) && decide (0 ≤ mi l i) && decide (mi l i ≤ 1000) && (decide (i = 0) || (decide (fr l (i - 1) < fr l i) && decide (mi l (i - 1) ≤ mi l i)))
structure Right (l : List (Int × Int)) : Prop where
 len : l.length ≤ 6
 ok : ∀ i, i < l.length → okAt l i = true
def chk (l : List (Int × Int)) : Int := if l.length ≤ 6 ∧ ((List.range l.length).all (okAt l)) = true then 0 else 66
theorem chk_zero {l : List (Int × Int)} : chk l = 0 ↔ Right l := by
 unfold chk
 constructor
 ·intro h
  split at h
  ·rename_i hc
   exact ⟨hc.1, fun i hi => List.all_eq_true.1 hc.2 i (List.mem_range.2 hi)⟩
  ·omega
 ·intro h
  rw [if_pos ⟨h.len, List.all_eq_true.2 fun i hi => h.ok i (List.mem_range.1 hi)⟩]
theorem chk_not {l : List (Int × Int)} (h : ¬ Right l) : chk l = 66 := by
 unfold chk; rw [if_neg]; exact fun hc => h ⟨hc.1, fun i hi => List.all_eq_true.1 hc.2 i (List.mem_range.2 hi)⟩
theorem okAt_iff {l : List (Int × Int)} {i : Nat} : okAt l i = true ↔ (0 ≤ fr l i ∧ fr l i ≤ 68719476736) ∧ 0 ≤ mi l i ∧ mi l i ≤ 1000 ∧ (i = 0 ∨ fr l (i - 1) < fr l i ∧ mi l (i - 1) ≤ mi l i) := by
 unfold okAt; simp only [Bool.and_eq_true, Bool.or_eq_true, decide_eq_true_eq, En.money_iff, and_assoc]
variable {l m : List (Int × Int)} {a b : Int}
theorem Right.fr0 (h : Right l) {i : Nat} (hi : i < l.length) : 0 ≤ fr l i ∧ fr l i ≤ 68719476736 := (okAt_iff.1 (h.ok i hi)).1
theorem Right.mi0 (h : Right l) {i : Nat} (hi : i < l.length) : 0 ≤ mi l i ∧ mi l i ≤ 1000 := ⟨(okAt_iff.1 (h.ok i hi)).2.1, (okAt_iff.1 (h.ok i hi)).2.2.1⟩
theorem Right.step (h : Right l) {i : Nat} (hi : i + 1 < l.length) : fr l i < fr l (i + 1) := by
 rcases (okAt_iff.1 (h.ok (i + 1) hi)).2.2.2 with h | h
 ·omega
 ·exact h.1
theorem Right.first (h : Right l) {i : Nat} (hi : i < l.length) : fr l 0 ≤ fr l i := by
 induction i with
 | zero => exact Int.le_refl _
 | succ i ih =>
   have := ih (by omega); have := h.step hi; omega
/-! ### what is taken away -/
def till (l : List (Int × Int)) (a : Int) (i : Nat) : Int := if i + 1 < l.length then min a (fr l (i + 1)) else a
def span (l : List (Int × Int)) (a : Int) (i : Nat) : Int := max 0 (till l a i - fr l i)
def cut (l : List (Int × Int)) (a : Int) (i : Nat) : Int := Ex.up (span l a i * mi l i) 1000
def cuts (l : List (Int × Int)) (a : Int) : Nat → Int
 | 0 => 0
 | k + 1 => cuts l a k + cut l a k
def red (l : List (Int × Int)) (a : Int) : Int := a - cuts l a l.length
def spans (l : List (Int × Int)) (a : Int) : Nat → Int
 | 0 => 0
 | k + 1 => spans l a k + span l a k
theorem up_eq {n : Int} (h0 : 0 ≤ n) (h1 : n ≤ 1125899906842624) : Ex.up n 1000 = -((-n) / 1000) := by
 unfold Ex.up Ex.down; rw [if_pos (Ex.fits_of (by omega) (by omega) (by omega) (by omega))]
theorem up_cut {x m : Int} (x0 : 0 ≤ x) (x1 : x ≤ 68719476736) (m0 : 0 ≤ m) (m1 : m ≤ 1000) : Ex.up (x * m) 1000 = -((-(x * m)) / 1000) ∧ 0 ≤ x * m ∧ x * m ≤ x * 1000 := by
 have h0 : 0 ≤ x * m := Int.mul_nonneg x0 m0; have h1 : x * m ≤ x * 1000 := Int.mul_le_mul_of_nonneg_left m1 x0; exact ⟨up_eq h0 (by omega), h0, h1⟩
theorem up_bd {x m : Int} (x0 : 0 ≤ x) (x1 : x ≤ 68719476736) (m0 : 0 ≤ m) (m1 : m ≤ 1000) : 0 ≤ Ex.up (x * m) 1000 ∧ Ex.up (x * m) 1000 ≤ x := by
 obtain ⟨e, h0, h1⟩ := up_cut x0 x1 m0 m1; rw [e]; generalize x * m = p at *; omega
theorem Right.span_bd (h : Right l) (_a0 : 0 ≤ a) (a1 : a ≤ 68719476736) {i : Nat} (hi : i < l.length) : 0 ≤ span l a i ∧ span l a i ≤ 68719476736 := by
 have := h.fr0 hi; unfold span till
 split <;> omega
theorem Right.cut_bd (h : Right l) (a0 : 0 ≤ a) (a1 : a ≤ 68719476736) {i : Nat} (hi : i < l.length) : 0 ≤ cut l a i ∧ cut l a i ≤ span l a i := by
 have hs := h.span_bd a0 a1 hi; have hm := h.mi0 hi; exact up_bd hs.1 hs.2 hm.1 hm.2
theorem Right.cuts_bd (h : Right l) (a0 : 0 ≤ a) (a1 : a ≤ 68719476736) {k : Nat} (hk : k ≤ l.length) : 0 ≤ cuts l a k ∧ cuts l a k ≤ spans l a k := by
 induction k with
 | zero => exact ⟨Int.le_refl _, Int.le_refl _⟩
 | succ k ih =>
   have := ih (by omega); have := h.cut_bd a0 a1 (show k < l.length by omega); unfold cuts spans; omega
theorem Right.spans_eq (h : Right l) {k : Nat} (hk : k < l.length) : spans l a (k + 1) = max 0 (till l a k - fr l 0) := by
 induction k with
 | zero => unfold spans spans span; omega
 | succ k ih =>
   have e := ih (by omega); have s1 := h.step hk; have s2 := h.first (show k + 1 < l.length from hk)
   have s3 : k + 1 + 1 < l.length → fr l (k + 1) < fr l (k + 1 + 1) := fun hh => h.step hh
   show spans l a (k + 1) + span l a (k + 1) = _
   rw [e]; unfold span till; rw [if_pos (show k + 1 < l.length from hk)]
   split
   ·have := s3 (by assumption); omega
   ·omega
theorem Right.spans_all (h : Right l) : spans l a l.length = if l.length = 0 then 0 else max 0 (a - fr l 0) := by
 by_cases hz : l.length = 0
 ·rw [if_pos hz, hz]; rfl
 ·rw [if_neg hz]
  obtain ⟨n, hn⟩ : ∃ n, l.length = n + 1 := ⟨l.length - 1, by omega⟩; rw [hn, h.spans_eq (by omega)]; unfold till; rw [if_neg (by omega)]
theorem Right.red_bd (h : Right l) (a0 : 0 ≤ a) (a1 : a ≤ 68719476736) : 0 ≤ red l a ∧ red l a ≤ a := by
 have hc := h.cuts_bd a0 a1 mle; have hs := h.spans_all (a := a); unfold red
 split at hs
 ·omega
 ·have := h.fr0 (i := 0) (by omega)
  omega
theorem Right.red_part (h : Right l) (a0 : 0 ≤ a) (a1 : a ≤ 68719476736) {k : Nat} (hk : k ≤ l.length) : 0 ≤ a - cuts l a k ∧ a - cuts l a k ≤ a := by
 have hc := h.cuts_bd a0 a1 hk; refine ⟨?_, by omega⟩
 by_cases hz : k = 0
 ·subst hz; unfold cuts; omega
 ·obtain ⟨n, hn⟩ : ∃ n, k = n + 1 := ⟨k - 1, by omega⟩
  subst hn; have hs := h.spans_eq (a := a) (k := n) (by omega); have := h.fr0 (i := 0) (by omega); have := h.fr0 (i := n) (by omega); unfold till at hs
  split at hs <;> omega
/-! ### a farm -/
def sumErr (xs : List Int) : Int := if (xs.any fun x => !En.money x) = true ∨ En.money (Sh.sum xs) = false then 67 else 0
def farmErr (l : List (Int × Int)) (cap : Int) (xs : List Int) : Int := if chk l ≠ 0 then 66 else if En.money cap = false then 67 else if 16 < xs.length then 1 else sumErr xs
def farmLeft (l : List (Int × Int)) (cap : Int) (xs : List Int) : Int := min cap (red l (Sh.sum xs))
def farm (l : List (Int × Int)) (cap : Int) (xs : List Int) : List Int :=
 if farmErr l cap xs ≠ 0 then [] else if farmLeft l cap xs = Sh.sum xs then xs else shList (farmLeft l cap xs) xs
structure Fine (l : List (Int × Int)) (cap : Int) (xs : List Int) : Prop where
 right : Right l
 cap0 : 0 ≤ cap
 cap1 : cap ≤ 68719476736
 len : xs.length ≤ 16
 all : ∀ x ∈ xs, 0 ≤ x ∧ x ≤ 68719476736
 sum : Sh.sum xs ≤ 68719476736
variable {xs : List Int} {cap : Int}
theorem fine_of (h : farmErr l cap xs = 0) : Fine l cap xs := by
 unfold farmErr at h
 by_cases h1 : chk l ≠ 0
 ·rw [if_pos h1] at h; omega
 rw [if_neg h1] at h
 by_cases h2 : En.money cap = false
 ·rw [if_pos h2] at h; omega
 rw [if_neg h2] at h
 by_cases h3 : 16 < xs.length
 ·rw [if_pos h3] at h; omega
 rw [if_neg h3] at h; unfold sumErr at h
 by_cases h4 : (xs.any fun x => !En.money x) = true ∨ En.money (Sh.sum xs) = false
 ·rw [if_pos h4] at h; omega
 have m := En.money_iff.1 (show En.money cap = true by simpa using h2); have h5 : (xs.any fun x => !En.money x) = false := Bool.eq_false_iff.2 fun h => h4 (.inl h)
 have h6 : En.money (Sh.sum xs) = true := by simpa using fun h => h4 (.inr h)
 rw [List.any_eq_false] at h5; exact ⟨chk_zero.1 (by omega), m.1, m.2, by omega, fun x hx => En.money_iff.1 (by simpa using h5 x hx), (En.money_iff.1 h6).2⟩
theorem Fine.sum0 (h : Fine l cap xs) : 0 ≤ Sh.sum xs := Sh.sum_nonneg fun x hx => (h.all x hx).1
theorem Fine.sumErr (h : Fine l cap xs) : sumErr xs = 0 := by
 have h4 : (xs.any fun x => !En.money x) = false := by
  rw [List.any_eq_false]; intro x hx; rw [En.money_iff.2 (h.all x hx)]
  simp
 unfold Ce.sumErr; rw [if_neg]; rintro (h1 | h1)
 ·rw [h4] at h1; cases h1
 ·rw [En.money_iff.2 ⟨h.sum0, h.sum⟩] at h1; cases h1
theorem Fine.err (h : Fine l cap xs) : farmErr l cap xs = 0 := by
 unfold farmErr; rw [if_neg (by rw [chk_zero.2 h.right]; simp), if_neg (by rw [En.money_iff.2 ⟨h.cap0, h.cap1⟩]; simp), if_neg (by have := h.len; omega)]; exact h.sumErr
theorem Fine.left (h : Fine l cap xs) : 0 ≤ farmLeft l cap xs ∧ farmLeft l cap xs ≤ Sh.sum xs := by
 have := h.right.red_bd h.sum0 h.sum; have := h.cap0; unfold farmLeft; omega
theorem Fine.shErr (h : Fine l cap xs) : shErr (farmLeft l cap xs) xs = 0 := by
 have h1 := h.left; have h2 := h.sum; have h4 : (xs.any fun x => !Sh.limited x) = false := by
  rw [List.any_eq_false]; intro x hx; have := h.all x hx; rw [Sh.limited_iff.2 ⟨by omega, by omega⟩]
  simp
 unfold Go.Proofs.YtmlfcpglhipjgaaGreat.shErr; rw [if_neg (by have := h.len; omega), if_neg]; rintro (h5 | h5)
 ·rw [Sh.limited_iff.2 ⟨by omega, by omega⟩] at h5; cases h5
 ·rw [h4] at h5; cases h5
theorem Fine.right' (h : Fine l cap xs) (hne : farmLeft l cap xs ≠ Sh.sum xs) : Sh.Right (farmLeft l cap xs) xs ∧ farm l cap xs = Sh.shares (farmLeft l cap xs) xs := by
 have h1 := h.left; have h2 := h.sum; have hs : Sh.sum xs ≠ 0 := by omega
 refine ⟨⟨h1.1, by omega, fun x hx => by have := h.all x hx; omega, hs⟩, ?_⟩
 unfold farm shList; rw [if_neg (by rw [h.err]; simp), if_neg hne, if_neg (by rw [h.shErr]; simp), if_neg hs]
theorem Fine.same (h : Fine l cap xs) (he : farmLeft l cap xs = Sh.sum xs) : farm l cap xs = xs := by
 unfold farm; rw [if_neg (by rw [h.err]; simp), if_pos he]
theorem Fine.farm_len (h : Fine l cap xs) : (farm l cap xs).length = xs.length := by
 by_cases he : farmLeft l cap xs = Sh.sum xs
 ·rw [h.same he]
 ·rw [(h.right' he).2]; unfold Sh.shares; simp
theorem Fine.farm_bd (h : Fine l cap xs) (i : Nat) (hi : i < xs.length) : 0 ≤ (farm l cap xs).getD i 0 ∧ (farm l cap xs).getD i 0 ≤ xs.getD i 0 := by
 by_cases he : farmLeft l cap xs = Sh.sum xs
 ·rw [h.same he, List.getD_eq_getElem?_getD, List.getElem?_eq_getElem hi]
  exact ⟨(h.all _ (List.getElem_mem hi)).1, Int.le_refl _⟩
 ·have h1 := h.left
  rw [(h.right' he).2, Sh.shares_getD _ _ _ hi]; exact ⟨((h.right' he).1.share_bd i).1, (h.right' he).1.share_le (by omega) hi⟩
end Go.Proofs.YtmlfcpglhipjgaaGreat.Ce
namespace Go.Proofs.YtmlfcpglhipjgaaGreat
namespace Wo
open Go.Lib
/-! ### names -/
def letB (c : UInt8) : Bool := decide (97 ≤ (c.toNat : Int)) && decide ((c.toNat : Int) ≤ 122)
def digB (c : UInt8) : Bool := decide (48 ≤ (c.toNat : Int)) && decide ((c.toNat : Int) ≤ 57)
def headB : List UInt8 → Bool
 | [] => true
 | c :: r => letB c && r.all fun c => letB c || digB c
def nameB (l : List UInt8) : Bool := headB l && (decide (1 ≤ l.length) && decide (l.length ≤ 12))
theorem headB_snoc (l : List UInt8) (c : UInt8) : headB (l ++ [c]) = (headB l && (letB c || (!l.isEmpty && digB c))) := by
 cases l with
 | nil => simp [headB]
 | cons a l => simp [headB, Bool.and_assoc]
theorem headB_prefix {l m : List UInt8} (h : headB (l ++ m) = true) : headB l = true := by
 cases l with
 | nil => rfl
 | cons a l =>
   simp only [List.cons_append, headB, Bool.and_eq_true, List.all_append] at h ⊢; exact ⟨h.1, h.2.1⟩
theorem take_snoc_bytes (s : ByteArray) (k : Nat) (h : k < s.size) : s.data.toList.take (k + 1) = s.data.toList.take k ++ [s[k]] := by
 rw [tsg (by simpa using h)]; rfl
/-! ### decimal texts -/
theorem dig_toNat (d : Nat) (h : d < 10) : (UInt8.ofNat (48 + d)).toNat = 48 + d := by
 have : (48 + d) % 256 = 48 + d := Nat.mod_eq_of_lt (by omega)
 simpa using this
def dch (d : Nat) : UInt8 := UInt8.ofNat (48 + d)
/-! ### the same by steps -/
theorem nDigits_le19 (u : Nat) (h : u < 10000000000000000000) : nDigits u ≤ 19 := by
 apply Nat.le_of_not_lt
 intro hk; have : ∀ (k u : Nat), k + 1 < nDigits u → 10 ^ (k + 1) ≤ u := by
  intro k
  induction k with
  | zero =>
    intro u hu
    by_cases h1 : u < 10
    ·rw [nDigits_small h1] at hu; omega
    ·omega
  | succ k ih =>
    intro u hu
    by_cases h1 : u < 10
    ·rw [nDigits_small h1] at hu; omega
    ·rw [nDigits_big h1] at hu
     have := ih (u / 10) (by omega); rw [Nat.pow_succ]; omega
 have := this 18 u hk; omega
theorem itoa_len20 (n : Int) (h0 : -9223372036854775808 ≤ n) (h1 : n ≤ 9223372036854775807) : 1 ≤ (itoa n).length ∧ (itoa n).length ≤ 20 := by
 unfold itoa
 split
 ·rw [List.length_cons, decDigits_length]
  have := nDigits_le19 n.natAbs (by omega); omega
 ·rw [decDigits_length]
  have := nDigits_le19 n.toNat (by omega); have := nDigits_pos n.toNat; omega
end Wo
namespace Te
open Go.Lib
inductive Tm where
 | mk (op num more : Int) (kids : List Tm)
def Tm.op : Tm → Int | .mk o _ _ _ => o
def Tm.num : Tm → Int | .mk _ n _ _ => n
def Tm.more : Tm → Int | .mk _ _ m _ => m
def Tm.kids : Tm → List Tm | .mk _ _ _ K => K
mutual
def count : Tm → Nat
 | .mk _ _ _ K => 1 + countL K
def countL : List Tm → Nat
 | [] => 0
 | k :: r => count k + countL r
end
mutual
def depth : Tm → Nat
 | .mk _ _ _ K => depthL K + 1
def depthL : List Tm → Nat
 | [] => 0
 | k :: r => max (depth k) (depthL r)
end
def single (n : Int) : Bool := n == 1 || n == 2 || n == 4 || n == 8 || n == 16
def selfB (o n m : Int) (k : Nat) : Bool :=
 if o = 1 then n == 0 && m == 0 && k == 0
 else if o = 2 then decide (0 ≤ n) && decide (n ≤ 39) && m == 0 && k == 0
 else if o = 3 then decide (0 ≤ n) && decide (n ≤ 40) && m == 0 && k == 0
 else if o = 4 then single n && m == 0 && k == 0
 else if o = 5 then decide (0 ≤ n) && decide (n ≤ 15) && m == 0 && k == 0
 else if o = 6 then decide (2 ≤ n) && decide (n ≤ 10) && m == 0 && k == 0
 else if o = 7 then decide (1 ≤ n) && decide (n ≤ 10) && single m && k == 0
 else if o = 8 then decide (1 ≤ n) && decide (n ≤ 10) && m == 0 && k == 0
 else if o = 9 ∨ o = 10 then n == 0 && m == 0 && decide (1 ≤ k)
 else if o = 11 then n == 0 && m == 0 && k == 1
 else false
mutual
def form : Tm → Bool
 | .mk o n m K => selfB o n m K.length && formL K
def formL : List Tm → Bool
 | [] => true
 | k :: r => form k && formL r
end
def rightB : Nat → Tm → Bool
 | 0, _ => false
 | d + 1, .mk o n m K => selfB o n m K.length && decide (K.length ≤ 40) && K.all (rightB d)
def chkT (t : Tm) : Int := if 40 < count t then 1 else if 8 < depth t ∨ form t = false then 16 else 0
theorem countL_len (K : List Tm) : K.length ≤ countL K := by
 induction K with
 | nil => simp [countL]
 | cons k r ih =>
   rw [List.length_cons, countL]; have : 1 ≤ count k := by cases k; rw [count]; omega
   omega
theorem count_pos (t : Tm) : 1 ≤ count t := by cases t; rw [count]; omega
theorem countL_mem {K : List Tm} {k : Tm} (h : k ∈ K) : count k ≤ countL K := by
 induction K with
 | nil => cases h
 | cons a r ih =>
   rw [countL]
   rcases List.mem_cons.1 h with rfl | h
   ·omega
   ·have := ih h; omega
theorem depthL_le {K : List Tm} {d : Nat} : depthL K ≤ d ↔ ∀ k ∈ K, depth k ≤ d := by
 induction K with
 | nil => simp [depthL]
 | cons a r ih => rw [depthL, Nat.max_le, ih]; simp
theorem formL_iff {K : List Tm} : formL K = true ↔ ∀ k ∈ K, form k = true := by
 induction K with
 | nil => simp [formL]
 | cons a r ih => rw [formL, Bool.and_eq_true, ih]; simp
theorem rightB_eq : ∀ (d : Nat) (t : Tm), count t ≤ 40 → rightB d t = (decide (depth t ≤ d) && form t)
 | 0, .mk o n m K, _ => by
   rw [rightB, depth]
   simp
 | d + 1, .mk o n m K, h => by
   rw [rightB, depth, form]; rw [count] at h; have hl := countL_len K; have e : decide (K.length ≤ 40) = true := dqt (by omega); rw [e, Bool.and_true]; have hK : ∀ k ∈ K, rightB d k = (decide (depth k ≤ d) && form k) := fun k hk => rightB_eq d k (by have := countL_mem hk; omega)
   have e2 : K.all (rightB d) = (decide (depthL K ≤ d) && formL K) := by
    rw [Bool.eq_iff_iff, List.all_eq_true, Bool.and_eq_true, decide_eq_true_eq, depthL_le, formL_iff]
    constructor
    ·intro h2
     refine ⟨fun k hk => ?_, fun k hk => ?_⟩
     ·have := h2 k hk; rw [hK k hk, Bool.and_eq_true, decide_eq_true_eq] at this; exact this.1
     ·have := h2 k hk; rw [hK k hk, Bool.and_eq_true] at this; exact this.2
    ·rintro ⟨h2, h3⟩ k hk
     rw [hK k hk, Bool.and_eq_true, decide_eq_true_eq]; exact ⟨h2 k hk, h3 k hk⟩
   rw [e2]; have e3 : decide (depthL K + 1 ≤ d + 1) = decide (depthL K ≤ d) := by rw [decide_eq_decide]; omega
   rw [e3]
   cases selfB o n m K.length <;> cases decide (depthL K ≤ d) <;> simp
theorem chkT_right (t : Tm) : chkT t = if 40 < count t then 1 else if rightB 8 t = false then 16 else 0 := by
 unfold chkT
 by_cases h : 40 < count t
 ·rw [if_pos h, if_pos h]
 ·rw [if_neg h, if_neg h, rightB_eq 8 t (by omega)]
  by_cases h8 : 8 < depth t
  ·rw [if_pos (.inl h8), if_pos]
   have : decide (depth t ≤ 8) = false := dqf (by omega); rw [this]; rfl
  ·have : decide (depth t ≤ 8) = true := dqt (by omega)
   rw [this, Bool.true_and]
   by_cases hf : form t = false
   ·rw [if_pos (.inr hf), if_pos hf]
   ·rw [if_neg (by rintro (h | h); exact h8 h; exact hf h), if_neg hf]
/-! ### words -/
/-! ### what was written is read -/
end Te
namespace Sc
open Go.Lib Te
structure Brk where
 up : Int
 rate : Int
structure Sch where
 num : Int
 nm : ByteArray
 cond : Tm
 br : List Brk
 least : Int
 ex : Int
 needs : Bool
def bitB (x n : Int) : Bool := decide (x / 2 ^ n.toNat % 2 = 1)
def upB (l : List Brk) (k : Nat) : Int := if k = 0 then 0 else match l[k - 1]? with | some b => b.up | none => 0
def brAt (l : List Brk) (k : Nat) : Bool := match l[k]? with | some b => decide (upB l k < b.up) && (decide (b.up ≤ 268435456) && (decide (0 ≤ b.rate) && decide (b.rate ≤ 1048576))) | none => true
def brAll (l : List Brk) (n : Nat) : Bool := (List.range n).all (brAt l)
def brB (l : List Brk) : Bool := brAll l l.length && (decide (1 ≤ l.length) && decide (l.length ≤ 6))
theorem brAll_succ (l : List Brk) (n : Nat) : brAll l (n + 1) = (brAll l n && brAt l n) := by unfold brAll; rw [List.range_succ, List.all_append]; simp
theorem brAll_mono {l : List Brk} {m n : Nat} (h : m ≤ n) (h2 : brAll l n = true) : brAll l m = true := by
 unfold brAll at *; rw [List.all_eq_true] at *; intro i hi; exact h2 i (List.mem_range.2 (nll (List.mem_range.1 hi) h))
theorem brAt_some {l : List Brk} {k : Nat} (h : k < l.length) : brAt l k = (decide (upB l k < l[k].up) && (decide (l[k].up ≤ 268435456) && (decide (0 ≤ l[k].rate) && decide (l[k].rate ≤ 1048576)))) := by
 unfold brAt; rw [List.getElem?_eq_getElem h]
theorem upB_succ {l : List Brk} {k : Nat} (h : k < l.length) : upB l (k + 1) = l[k].up := by
 unfold upB; rw [if_neg (by omega), Nat.add_sub_cancel, List.getElem?_eq_getElem h]
theorem upB_nonneg {l : List Brk} {k : Nat} (hk : k ≤ l.length) (h : brAll l k = true) : 0 ≤ upB l k := by
 induction k with
 | zero => unfold upB; simp
 | succ k ih =>
   rw [brAll_succ, Bool.and_eq_true] at h; have h1 := ih (by omega) h.1; rw [upB_succ (by omega)]; have := h.2; rw [brAt_some (by omega), Bool.and_eq_true, decide_eq_true_eq] at this; omega
def one17 (s : Sch) : Int :=
 if s.num < 0 ∨ 15 < s.num ∨ s.least < 0 ∨ 268435456 < s.least then 2
 else if Wo.nameB s.nm.data.toList = false then 5
 else if chkT s.cond ≠ 0 then chkT s.cond
 else if brB s.br = false ∨ s.ex < 0 ∨ 65536 ≤ s.ex ∨ bitB s.ex s.num = true then 3
 else 0
def fst (f : Nat → Int) (n : Nat) : Option Nat := (List.range n).find? fun i => f i != 0
theorem fst_none {f : Nat → Int} {n : Nat} (h : ∀ j, j < n → f j = 0) : fst f n = none := by
 unfold fst; rw [List.find?_eq_none]; intro i hi; rw [h i (List.mem_range.1 hi)]
 decide
theorem fst_some {f : Nat → Int} {n k : Nat} (hk : k < n) (h : ∀ j, j < k → f j = 0) (h2 : f k ≠ 0) : fst f n = some k := by
 unfold fst; rw [List.find?_eq_some_iff_append]; refine ⟨by simpa using h2, List.range k, (List.range (n - k - 1)).map (k + 1 + ·), ?_, fun i hi => ?_⟩
 ·have : n = k + (n - k - 1 + 1) := by omega
  rw [this, List.range_add, List.range_succ_eq_map]
  simp
  intro a _; omega
 ·rw [h i (List.mem_range.1 hi)]; decide
def twice (L : List Sch) (i : Nat) (s : Sch) : Bool := (match i with | 0 => false | k + 1 => match L[k]? with | some p => decide (s.num ≤ p.num) | none => false) || (L.take i).any fun x => x.nm.data.toList == s.nm.data.toList
def errA (L : List Sch) (i : Nat) : Int := match L[i]? with | some s => if one17 s ≠ 0 then one17 s else if twice L i s = true then 6 else 0 | none => 0
def find17 (L : List Sch) (n : Int) : Int := match (L.findIdx? fun s => s.num == n) with | some i => (i : Int) | none => -1
def mutN (L : List Sch) (s : Sch) (n : Nat) : Bool := if bitB s.ex n = false then true else match L.find? fun x => x.num == (n : Int) with | some x => bitB x.ex s.num | none => false
def mutual17 (L : List Sch) (s : Sch) : Bool := (List.range 16).all (mutN L s)
def errB (L : List Sch) (i : Nat) : Int := match L[i]? with | some s => if mutual17 L s = true then 0 else 17 | none => 0
def chk17 (L : List Sch) : Int × Int :=
 if 16 < L.length then (0, 1)
 else match fst (errA L) L.length with
  | some i => ((i : Int), errA L i)
  | none => match fst (errB L) L.length with
    | some i => ((i : Int), 17)
    | none => (-1, 0)
def amt (l : List Brk) (sq : Int) (k : Nat) : Int := match k with | 0 => 0 | k + 1 => amt l sq k + match l[k]? with | some b => max 0 (min sq b.up - upB l k) * b.rate | none => 0
def amtE (s : Sch) (sq : Int) : Int := if one17 s ≠ 0 then 17 else if sq < 0 ∨ 268435456 < sq then 2 else 0
def amtV (s : Sch) (sq : Int) : Int := if amtE s sq ≠ 0 then 0 else amt s.br sq s.br.length / 100
/-! ### lines -/
/-! ### reading -/
open Cr
theorem one_parts {s : Sch} (h : one17 s = 0) : 0 ≤ s.num ∧ s.num ≤ 15 ∧ 0 ≤ s.least ∧ s.least ≤ 268435456 ∧ chkT s.cond = 0 ∧ brB s.br = true ∧ (0 ≤ s.ex ∧ s.ex < 65536) ∧ Wo.nameB s.nm.data.toList = true := by
 unfold one17 at h
 split at h
 ·cases h
 rename_i g1
 split at h
 ·cases h
 rename_i g2
 split at h
 ·rename_i h1; exact absurd h h1
 rename_i g3
 split at h
 ·cases h
 rename_i g4
 refine ⟨by omega, by omega, by omega, by omega, by omega, ?_, ⟨by omega, by omega⟩, by simpa using g2⟩
 cases e : brB s.br
 ·exact absurd (.inl e) g4
 ·rfl
theorem brB_all {l : List Brk} (h : brB l = true) : brAll l l.length = true := by
 unfold brB at h; rw [Bool.and_eq_true] at h; exact h.1
theorem br_right {l : List Brk} {k : Nat} (hk : k < l.length) (h : brAll l (k + 1) = true) : upB l k < l[k].up ∧ l[k].up ≤ 268435456 ∧ 0 ≤ l[k].rate ∧ l[k].rate ≤ 1048576 ∧ 0 ≤ upB l k := by
 have h2 := h; rw [brAll_succ, Bool.and_eq_true] at h2; have h3 := h2.2; rw [brAt_some hk, Bool.and_eq_true, Bool.and_eq_true, Bool.and_eq_true, decide_eq_true_eq, decide_eq_true_eq, decide_eq_true_eq, decide_eq_true_eq] at h3; exact ⟨h3.1, h3.2.1, h3.2.2.1, h3.2.2.2, upB_nonneg (by omega) h2.1⟩
/-! ### words -/
/-! ### how long -/
/-! ### reading -/
theorem fst_isNone {f : Nat → Int} {n : Nat} (h : fst f n = none) : ∀ j, j < n → f j = 0 := by
 intro j hj; unfold fst at h; have := List.find?_eq_none.1 h j (List.mem_range.2 hj)
 simpa using this
structure LawOk (L : List Sch) : Prop where
 len : L.length ≤ 16
 one : ∀ s ∈ L, one17 s = 0
 asc : ∀ i j (hi : i < L.length) (hj : j < L.length), i < j → L[i].num < L[j].num
 mtl : ∀ s ∈ L, mutual17 L s = true
theorem lawOk {L : List Sch} (h : chk17 L = (-1, 0)) : LawOk L := by
 unfold chk17 at h
 by_cases h16 : 16 < L.length
 ·rw [if_pos h16] at h; cases h
 rw [if_neg h16] at h; have hA : fst (errA L) L.length = none := by
  cases e : fst (errA L) L.length with
  | none => rfl
  | some i => rw [e] at h; simp only [Prod.mk.injEq] at h; omega
 rw [hA] at h; simp only at h; have hB : fst (errB L) L.length = none := by
  cases e : fst (errB L) L.length with
  | none => rfl
  | some i => rw [e] at h; simp only [Prod.mk.injEq] at h; omega
 have kA := fst_isNone hA; have kB := fst_isNone hB; have one : ∀ i (hi : i < L.length), one17 L[i] = 0 ∧ twice L i L[i] = false := fun i hi => by
  have := kA i hi; unfold errA at this; rw [List.getElem?_eq_getElem hi] at this; simp only at this
  split at this
  ·rename_i h1; exact absurd this h1
  ·rename_i h1
   split at this
   ·cases this
   ·rename_i h2
    exact ⟨Decidable.not_not.1 h1, by simpa using h2⟩
 have step : ∀ i (hi : i + 1 < L.length), L[i].num < L[i + 1].num := fun i hi => by
  have := (one (i + 1) hi).2; unfold twice at this; rw [Bool.or_eq_false_iff] at this; have h1 := this.1; simp only at h1; rw [List.getElem?_eq_getElem (by omega)] at h1; simp only [decide_eq_false_iff_not] at h1; omega
 refine ⟨by omega, fun s hs => ?_, fun i j hi hj hij => ?_, fun s hs => ?_⟩
 ·obtain ⟨i, hi, rfl⟩ := List.mem_iff_getElem.1 hs
  exact (one i hi).1
 ·obtain ⟨k, rfl⟩ : ∃ k, j = i + 1 + k := ⟨j - (i + 1), by omega⟩
  clear hij
  induction k with
  | zero => exact step i hj
  | succ k ih =>
    have h1 := ih (by omega); have h2 := step (i + 1 + k) hj; exact Int.lt_trans h1 h2
 ·obtain ⟨i, hi, rfl⟩ := List.mem_iff_getElem.1 hs
  have := kB i hi; unfold errB at this; rw [List.getElem?_eq_getElem hi] at this; simp only at this
  split at this
  ·assumption
  ·cases this
theorem LawOk.num {L : List Sch} (h : LawOk L) {a : Sch} (ha : a ∈ L) : 0 ≤ a.num ∧ a.num ≤ 15 := ⟨(one_parts (h.one a ha)).1, (one_parts (h.one a ha)).2.1⟩
/-! ### rates that do not rise -/
end Sc
end Go.Proofs.YtmlfcpglhipjgaaGreat
namespace Go.Proofs.YtmlfcpglhipjgaaGreat.As
open Sc Go.RowKit
structure LineF where
 decl : Int
 sch : Int
 due : List Int
 season : Int
 kind : Int
 area : Int
 border : Int
structure FarmF where
 farm : Int
 day : Int
 lines : List LineF
structure YLaw where
 sch : List Sch
 steps : List (Int × Int)
 late : Lat
 deg : List (Int × Int)
 cap : Int
 env : Int
 unit : Int
 width : Int
structure Awd where
 farm : Int
 scheme : Int
 decl : Int
 det : Int
 paid : Int
 rated : Int
 timely : Int
 capped : Int
 due : Int
structure Rsn where
 line : Int
 scheme : Int
 kind : Int
/-! ### what is right -/
def chkY (l : YLaw) : Int :=
 if l.sch.length = 0 then 17 else if (chk17 l.sch).2 ≠ 0 then (chk17 l.sch).2 else if Re.chk l.steps ≠ 0 then Re.chk l.steps else if chkL l.late ≠ 0 then chkL l.late else if Ce.chk l.deg ≠ 0 then Ce.chk l.deg
 else if En.money l.cap = false ∨ En.money l.env = false then 67 else if l.unit < 1 ∨ 100000 < l.unit ∨ l.width < 0 ∨ 200 < l.width then 2 else 0
structure YOk (l : YLaw) : Prop where
 ne : l.sch.length ≠ 0
 sch : chk17 l.sch = (-1, 0)
 steps : Re.Right l.steps
 late : LatOk l.late
 deg : Ce.Right l.deg
 cap : 0 ≤ l.cap ∧ l.cap ≤ 68719476736
 env : 0 ≤ l.env ∧ l.env ≤ 68719476736
 unit : 1 ≤ l.unit ∧ l.unit ≤ 100000
 width : 0 ≤ l.width ∧ l.width ≤ 200
def factOf (x : LineF) (k : Nat) : Fct := ⟨x.decl, x.due.getD k 0, x.season, x.kind, x.area, x.border⟩
def namesB (x : LineF) (s : Sch) : Bool := bitB x.sch s.num
def allV (L : List Sch) : Int := L.foldl (fun acc s => bits BinOp.or IntKind.i64 acc (wrap64 (2 ^ s.num.toNat))) 0
def schOk (l : YLaw) (x : LineF) (k : Nat) : Bool :=
 match l.sch[k]? with
 | some s => if namesB x s then decide (chk28 (factOf x k) l.width = 0) else decide (x.due.getD k 0 = 0)
 | none => true
def lineB (l : YLaw) (x : LineF) : Bool :=
 decide (bits BinOp.andNot IntKind.i64 x.sch (allV l.sch) = 0) && (decide (x.due.length = l.sch.length) && (decide (0 ≤ x.decl) && (decide (x.decl ≤ 268435456) && (List.range l.sch.length).all (schOk l x))))
def declSum (K : List LineF) : Int := Sh.sum (K.map (·.decl))
def farmB (l : YLaw) (f : FarmF) : Bool :=
 decide (1 ≤ f.farm) && (decide (f.farm ≤ 60) && (decide (0 ≤ f.day) && (decide (f.day ≤ 36864) && (decide (f.lines.length ≤ 20) && (f.lines.all (lineB l) && decide (declSum f.lines ≤ 268435456))))))
def farmAt (l : YLaw) (F : List FarmF) (i : Nat) : Bool :=
 match F[i]? with
 | some f => farmB l f && (match i with | 0 => true | k + 1 => match F[k]? with | some g => decide (g.farm < f.farm) | none => true)
 | none => true
def chkF (l : YLaw) (F : List FarmF) : Int := if chkY l ≠ 0 then chkY l else if 10 < F.length then 1 else if (List.range F.length).all (farmAt l F) = true then 0 else 68
/-! ### awards -/
def sumD (s : Sch) (K : List LineF) : Int := Sh.sum (K.map fun x => if namesB x s then x.decl else 0)
def sumN (l : YLaw) (k : Nat) (s : Sch) (K : List LineF) : Int := Sh.sum (K.map fun x => if namesB x s then (det (factOf x k) l.width).1 else 0)
def someN (s : Sch) (K : List LineF) : Bool := K.any fun x => namesB x s
def paidOf (l : YLaw) (s : Sch) (d n : Int) : Int := if s.least ≤ n then Re.paidVal l.steps d n else 0
def ratedOf (s : Sch) (p : Int) : Int := min (amtV s p) 68719476736
def award (l : YLaw) (f : FarmF) (k : Nat) (s : Sch) : Awd :=
 let d := sumD s f.lines
 let n := sumN l k s f.lines
 let p := paidOf l s d n
 let r := ratedOf s p
 ⟨f.farm, s.num, d, n, p, r, left l.late f.day r, 0, 0⟩
def awStep (l : YLaw) (f : FarmF) (k : Nat) : List Awd := match l.sch[k]? with | some s => if someN s f.lines then [award l f k s] else [] | none => []
def awardsN (l : YLaw) (f : FarmF) : Nat → List Awd
 | 0 => []
 | k + 1 => awardsN l f k ++ awStep l f k
def awards0 (l : YLaw) (f : FarmF) : List Awd := awardsN l f l.sch.length
def timelies (A : List Awd) : List Int := A.map (·.timely)
def cappeds (A : List Awd) : List Int := A.map (·.capped)
def setCapped (A : List Awd) (c : List Int) : List Awd := A.mapIdx fun i a => { a with capped := c.getD i 0 }
def setDue (A : List Awd) (c : List Int) : List Awd := A.mapIdx fun i a => { a with due := c.getD i 0 }
def rsStep (l : YLaw) (x : LineF) (i k : Nat) : List Rsn := match l.sch[k]? with | some s => if namesB x s ∧ (det (factOf x k) l.width).2 ≠ 0 then [⟨i, s.num, (det (factOf x k) l.width).2⟩] else [] | none => []
def rsnAt (l : YLaw) (x : LineF) (i : Nat) : Nat → List Rsn
 | 0 => []
 | k + 1 => rsnAt l x i k ++ rsStep l x i k
def rsLine (l : YLaw) (f : FarmF) (i k : Nat) : List Rsn := match f.lines[i]? with | some x => rsnAt l x i k | none => []
def reasonsN (l : YLaw) (f : FarmF) : Nat → List Rsn
 | 0 => []
 | i + 1 => reasonsN l f i ++ rsLine l f i l.sch.length
def reasons0 (l : YLaw) (f : FarmF) : List Rsn := reasonsN l f f.lines.length
def farmErr (l : YLaw) (f : FarmF) : Int := if chkF l [f] ≠ 0 then chkF l [f] else Ce.farmErr l.deg l.cap (timelies (awards0 l f))
def farmAw (l : YLaw) (f : FarmF) : List Awd := if farmErr l f ≠ 0 then [] else setCapped (awards0 l f) (Ce.farm l.deg l.cap (timelies (awards0 l f)))
def farmRs (l : YLaw) (f : FarmF) : List Rsn := if farmErr l f ≠ 0 then [] else reasons0 l f
def allErr (l : YLaw) : List FarmF → Int
 | [] => 0
 | f :: r => if farmErr l f ≠ 0 then farmErr l f else allErr l r
def allAw (l : YLaw) (F : List FarmF) : List Awd := F.flatMap (farmAw l)
def assErr (l : YLaw) (F : List FarmF) : Int :=
 if chkF l F ≠ 0 then chkF l F else if allErr l F ≠ 0 then allErr l F else if 64 < (allAw l F).length then 1 else En.err l.env l.unit (cappeds (allAw l F))
def assess (l : YLaw) (F : List FarmF) : List Awd := if assErr l F ≠ 0 then [] else setDue (allAw l F) (En.scale l.env l.unit (cappeds (allAw l F)))
def total (A : List Awd) : Int := Sh.sum (A.map (·.due))
def amount (A : List Awd) (farm : Int) : Int := Sh.sum (A.map fun a => if a.farm = farm then a.due else 0)
end Go.Proofs.YtmlfcpglhipjgaaGreat.As
namespace Go.Proofs.YtmlfcpglhipjgaaGreat
open Go.RowKit
structure Shape (α : Type) where
 k : Nat
 cells : α → List Value
 len : ∀ a, (cells a).length = k
 pos : 0 < k
 one : ∀ a, ∀ u ∈ cells a, u.oneCell' = true
variable {α : Type} (S : Shape α)
def Shape.flat (L : List α) : List Value := L.flatMap S.cells
theorem Shape.flat_len (L : List α) : (S.flat L).length = L.length * S.k := by
 induction L with
 | nil => simp [Shape.flat]
 | cons a L ih =>
   show (S.cells a ++ S.flat L).length = _
   rw [lap, ih, S.len, List.length_cons, Nat.add_mul]; omega
theorem Shape.flat_append (L M : List α) : S.flat (L ++ M) = S.flat L ++ S.flat M := by unfold Shape.flat; rw [List.flatMap_append]
theorem Shape.flat_single (a : α) : S.flat [a] = S.cells a := by simp [Shape.flat]
theorem Shape.flat_at (L : List α) (j : Nat) (hj : j < L.length) (i : Nat) (hi : i < S.k) : (S.flat L)[j * S.k + i]? = (S.cells L[j])[i]? := by
 induction L generalizing j with
 | nil => simp at hj
 | cons a L ih =>
   show (S.cells a ++ S.flat L)[j * S.k + i]? = _
   match j with
   | 0 => rw [List.getElem?_append_left (by rw [S.len]; omega)]; simp
   | j + 1 =>
     rw [List.getElem?_append_right (by rw [S.len, Nat.add_mul]; omega), S.len]; have e : (j + 1) * S.k + i - S.k = j * S.k + i := by rw [Nat.add_mul]; omega
     rw [e, ih j (by simpa using hj)]
     simp
theorem Shape.flat_set (L : List α) (j : Nat) (hj : j < L.length) (i : Nat) (hi : i < S.k) (u : Value) (a : α) (h : S.cells a = (S.cells L[j]).set i u) : (S.flat L).set (j * S.k + i) u = S.flat (L.set j a) := by
 induction L generalizing j with
 | nil => simp at hj
 | cons b L ih =>
   match j with
   | 0 =>
     show (S.cells b ++ S.flat L).set (0 * S.k + i) u = S.cells a ++ S.flat L
     rw [List.set_append_left _ _ (by rw [S.len]; omega), h]
     simp
   | j + 1 =>
     show (S.cells b ++ S.flat L).set ((j + 1) * S.k + i) u = S.cells b ++ S.flat (L.set j a)
     rw [List.set_append_right _ _ (by rw [S.len, Nat.add_mul]; omega), S.len]; have e : (j + 1) * S.k + i - S.k = j * S.k + i := by rw [Nat.add_mul]; omega
     rw [e, ih j (by simpa using hj) (by simpa using h)]
theorem Shape.flat_ones (L : List α) : ∀ u ∈ S.flat L, u.oneCell' = true := fun u hu => by
 obtain ⟨a, -, ha⟩ := List.mem_flatMap.1 hu; exact S.one a u ha
theorem Shape.flat_cut (L : List α) (m : Nat) (h : m ≤ L.length) : S.flat L = S.flat (L.take m) ++ S.flat (L.drop m) ∧ (S.flat (L.take m)).length = m * S.k :=
 ⟨by rw [← S.flat_append, List.take_append_drop], by rw [S.flat_len, List.length_take, Nat.min_eq_left h]⟩
theorem Shape.flat_take (L : List α) (m : Nat) : S.flat (L.take m) = (S.flat L).take (m * S.k) := by
 by_cases h : m ≤ L.length
 ·obtain ⟨e, l⟩ := S.flat_cut L m h
  rw [e, ← l, List.take_left]
 ·rw [List.take_of_length_le (by omega : L.length ≤ m), List.take_of_length_le (by rw [S.flat_len]; exact Nat.mul_le_mul_right _ (by omega))]
theorem Shape.flat_drop (L : List α) (m : Nat) (h : m ≤ L.length) : S.flat (L.drop m) = (S.flat L).drop (m * S.k) := by
 obtain ⟨e, l⟩ := S.flat_cut L m h; rw [e, ← l, List.drop_left]
def Recs (w : World) (p : Option Addr) (L : List α) : Prop :=
 L.length ≤ maxLen ∧ (L = [] ∨ ∃ b off, p = some ⟨b, off, none⟩ ∧ b < w.heap.size ∧ ∀ n u, (S.flat L)[n]? = some u → w.cell? ⟨b, off + n, none⟩ = some u)
variable {S}
theorem Recs.nil (w : World) (p : Option Addr) : Recs S w p [] := ⟨by simp, .inl rfl⟩
theorem Recs.below {w w' : World} {p : Option Addr} {L : List α} (h : Recs S w p L) (hb : Below w.heap.size w w') : Recs S w' p L := by
 refine ⟨h.1, ?_⟩
 rcases h.2 with h | ⟨b, off, hp, hl, hc⟩
 ·exact .inl h
 ·exact .inr ⟨b, off, hp, nll hl hb.size, fun n u hu => (hb.cell (p := ⟨b, off + n, none⟩) hl).trans (hc n u hu)⟩
theorem Recs.drew {w : World} {p : Option Addr} {L : List α} (h : Recs S w p L) : Recs S w.drew p L := h.below ⟨rfl, rfl, rfl, Nat.le_refl _, fun _ _ => rfl⟩
theorem Recs.len {w : World} {p : Option Addr} {L : List α} (h : Recs S w p L) : L.length ≤ 9223372036854775807 := by
 have := h.1; unfold maxLen at this; omega
theorem Recs.at {w : World} {p : Option Addr} {L : List α} (h : Recs S w p L) {k : Nat} (hk : k < L.length) :
  ∃ b off, p = some ⟨b, off, none⟩ ∧ b < w.heap.size ∧ ∀ i u, (S.cells L[k])[i]? = some u → w.cell? ⟨b, off + k * S.k + i, none⟩ = some u := by
 rcases h.2 with rfl | ⟨b, off, hp, hl, hc⟩
 ·simp at hk
 ·refine ⟨b, off, hp, hl, fun i u hu => ?_⟩
  have hi : i < S.k := by rw [← S.len L[k]]; exact (List.getElem?_eq_some_iff.1 hu).1
  rw [Nat.add_assoc]; exact hc _ _ ((S.flat_at L k hk i hi).trans hu)
theorem Recs.take {w : World} {p : Option Addr} {L : List α} (h : Recs S w p L) (m : Nat) : Recs S w p (L.take m) := by
 refine ⟨by rw [List.length_take]; have := h.1; omega, ?_⟩
 rcases h.2 with rfl | ⟨b, off, hp, hl, hc⟩
 ·exact .inl (by simp)
 ·exact .inr ⟨b, off, hp, hl, fun n u hu => hc n u (by
   rw [S.flat_take, List.getElem?_take] at hu
   split at hu
   ·exact hu
   ·cases hu)⟩
theorem Recs.of_cells {w : World} {b off : Nat} {L : List α} (hm : L.length ≤ maxLen) (hb : b < w.heap.size) (h : ∀ n u, (S.flat L)[n]? = some u → w.cell? ⟨b, off + n, none⟩ = some u) : Recs S w (some ⟨b, off, none⟩) L :=
 ⟨hm, .inr ⟨b, off, rfl, hb, h⟩⟩
theorem Recs.lit (w : World) (T : TypeId) (L : List α) (hl : L.length ≤ maxLen) : Recs S (w.alloc (.cells (S.flat L).toArray T)) (some ⟨w.heap.size, 0, none⟩) L := by
 refine Recs.of_cells hl (by simp) fun j u hu => ?_
 rw [Nat.zero_add, cwn]
 simpa using hu
/-! ### rows of the call's own -/
variable (S)
def OwnR (w : World) (T : TypeId) (B : Nat) (v : Value) (L : List α) : Prop := w.ownsRow B T S.k v L.length (S.flat L)
structure Elem (P : Program) (T TS : TypeId) (bytes : Nat) : Prop where
 ex : ∃ i0 z, P.info? T = some i0 ∧ i0.zero = some z ∧ i0.size = S.k ∧ i0.bytes = bytes ∧ z.cells.size = S.k
 ts : P.underlying TS = some (.slice T)
variable {S}
theorem OwnR.nil (w : World) (T : TypeId) (B : Nat) : OwnR S w T B (.slice none 0 0) [] := World.ownsRow_nil w B T S.k
theorem OwnR.blocks {w w' : World} {T : TypeId} {B : Nat} {v : Value} {L : List α} (h : OwnR S w T B v L) (hb : ∀ g, v.ownBlock = some g → B ≤ g → g < w.heap.size → w'.heap[g]? = w.heap[g]?) : OwnR S w' T B v L := by
 refine ⟨h.1, ?_⟩
 rcases h.2 with hn | ⟨g, cap, cur, h1, h2, h3, h4⟩
 ·exact .inl hn
 ·exact .inr ⟨g, cap, cur, h1, h2, (hb g (by rw [h1]; rfl) h2 (Array.getElem?_eq_some_iff.1 h3).1).trans h3, h4⟩
theorem OwnR.below {w w' : World} {T : TypeId} {B : Nat} {v : Value} {L : List α} (h : OwnR S w T B v L) (hb : Below w.heap.size w w') : OwnR S w' T B v L := h.blocks fun g _ _ hg => hb.block g hg
theorem OwnR.drew {w : World} {T : TypeId} {B : Nat} {v : Value} {L : List α} (h : OwnR S w T B v L) : OwnR S w.drew T B v L := h.blocks fun _ _ _ _ => rfl
theorem OwnR.mono {w : World} {T : TypeId} {B B' : Nat} {v : Value} {L : List α} (h : OwnR S w T B v L) (hB : B' ≤ B) : OwnR S w T B' v L := by
 refine ⟨h.1, ?_⟩
 rcases h.2 with hn | ⟨g, cap, cur, h1, h2, h3, h4⟩
 ·exact .inl hn
 ·exact .inr ⟨g, cap, cur, h1, by omega, h3, h4⟩
theorem OwnR.lt {w : World} {T : TypeId} {B : Nat} {v : Value} {L : List α} (h : OwnR S w T B v L) {g : Nat} (hg : v.ownBlock = some g) : B ≤ g ∧ g < w.heap.size := World.ownsRow.lt h g hg
theorem OwnR.cut {w : World} {T : TypeId} {B : Nat} {v : Value} {L : List α} (h : OwnR S w T B v L) {n : Nat} (hn : L.length = n) :
  ∃ p c, v = .slice p n c ∧ (p = none → c = 0 ∧ n = 0) ∧ (∀ x, p = some x → x.off = 0 ∧ x.spot = none ∧ B ≤ x.block ∧ x.block < w.heap.size) ∧ n ≤ c ∧ c ≤ maxLen ∧ Recs S w p L := by
 subst hn
 rcases h.2 with ⟨hv, hn⟩ | ⟨g, cap, cur, hv, hB, hg, hle, hm, hs, ht⟩
 ·obtain rfl := List.length_eq_zero_iff.1 hn
  exact ⟨none, 0, hv, fun _ => ⟨rfl, rfl⟩, fun x hx => (by cases hx), (by simp), (by unfold maxLen; omega), Recs.nil _ _⟩
 ·refine ⟨_, cap, hv, fun h => by (cases h), fun x hx => ?_, hle, hm, ⟨by omega, .inr ⟨g, 0, rfl, (Array.getElem?_eq_some_iff.1 hg).1, fun j u hu => ?_⟩⟩⟩
  ·cases hx
   exact ⟨rfl, rfl, hB, (Array.getElem?_eq_some_iff.1 hg).1⟩
  ·have hj : j < L.length * S.k := by rw [← S.flat_len]; exact (List.getElem?_eq_some_iff.1 hu).1
   have := congrArg (fun l => l[j]?) ht; simp only [List.getElem?_take, if_pos hj] at this; rw [hu] at this; rw [Nat.zero_add]; simp only [World.cell?, hg]
   simpa using this
theorem OwnR.at {w : World} {T : TypeId} {B c n : Nat} {p : Option Addr} {L : List α} (h : OwnR S w T B (.slice p n c) L) {k : Nat} (hk : k < L.length) :
  ∃ g, p = some ⟨g, 0, none⟩ ∧ n = L.length ∧ B ≤ g ∧ g < w.heap.size ∧ (∀ i u, (S.cells L[k])[i]? = some u → w.cell? ⟨g, k * S.k + i, none⟩ = some u) ∧ (∀ i, w.frozen? ⟨g, i, none⟩ = false) ∧
    (∀ i u a, i < S.k → S.cells a = (S.cells L[k]).set i u → OwnR S (w.setCell ⟨g, k * S.k + i, none⟩ u) T B (.slice p n c) (L.set k a)) := by
 have hl := World.ownsRow.lt h
 rcases h.2 with ⟨hv, hn⟩ | ⟨g, cap, cur, hv, hB, hg, hle, hm, hs, ht⟩
 ·omega
 ·simp only [Value.slice.injEq] at hv
  obtain ⟨rfl, rfl, rfl⟩ := hv; have h' : w.ownsRow B T S.k (.slice (some ⟨g, 0, none⟩) L.length c) L.length (S.flat L) := h; refine ⟨g, rfl, rfl, hB, (hl g rfl).2, fun i u hu => ?_, fun i => h'.frozenAt _, fun i u a hi ha => ?_⟩
  ·have hi : i < S.k := by rw [← S.len L[k]]; exact (List.getElem?_eq_some_iff.1 hu).1
   have hb : k * S.k + i < L.length * S.k := by
    have := Nat.mul_le_mul_right S.k (show k + 1 ≤ L.length by omega); rw [Nat.add_mul] at this; omega
   rw [h'.cellAt _ hb, S.flat_at L k hk i hi]; exact hu
  ·have := h'.stored (k * S.k + i) u
   rw [S.flat_set L k hk i hi u a ha] at this; unfold OwnR; rw [List.length_set]; exact this.1
structure Appends (w w' : World) (B H : Nat) (v v' : Value) : Prop where
 below : Below B w w'
 size : w.heap.size ≤ w'.heap.size
 far : ∀ k, k < w.heap.size → v.ownBlock ≠ some k → w'.heap[k]? = w.heap[k]?
 block : v'.ownBlock = v.ownBlock ∨ v'.ownBlock = some H
theorem Appends.keep {β : Type} {S' : Shape β} {w w' : World} {B H : Nat} {v v' : Value} (h : Appends w w' B H v v') {T : TypeId} {B' : Nat} {u : Value} {M : List β} (hu : OwnR S' w T B' u M) (hne : u.ownBlock = none ∨ u.ownBlock ≠ v.ownBlock) : OwnR S' w' T B' u M :=
 hu.blocks fun g hg _ hl => h.far g hl (by
  rcases hne with h | h
  ·rw [h] at hg; cases hg
  ·rw [hg] at h; exact fun e => h e.symm)
theorem OwnR.append {P : Program} {T TS : TypeId} {bytes : Nat} (he : Elem S P T TS bytes) {w : World} {ops : Array Oper} {rest : List Oper} {o : Oper} {a : Act} {Q : Exit → Act → World → Prop} (hgd : o.guard = none) (s x : Operand)
  (ho : o.op = .call { callee := .builtin .append, args := #[s, x], argTypes := #[TS, TS] }) (B : Nat) (v : Value) (L : List α) (y : α) (cs : Array Value) (hcs : cs.toList = S.cells y) (hown : OwnR S w T B v L) (hs : a.eval s = v)
  (hx : a.eval x = .slice (some ⟨w.heap.size, 0, none⟩) 1 1) (hB : B ≤ w.heap.size) (hn : L.length < 1073741824) (hby : bytes ≤ 65536)
  (h : ∀ v' w', OwnR S w' T B v' (L ++ [y]) → Appends w w' B (w.heap.size + 1) v v' → wpList P ops Q rest (a.put o.dst v') w') : wpList P ops Q (o :: rest) a (w.alloc (.cells cs T)) := by
 obtain ⟨i0, z, e1, e2, e3, e4, e5⟩ := he.ex; have hb2 : (L.length + 1) * bytes ≤ 1073741824 * 65536 := Nat.mul_le_mul (by omega) hby; refine wpList_append_own_at _ hgd s x TS ho B T i0 z S.k bytes he.ts e1 e2 e3 e4 e5 S.pos v L.length (S.flat L) hs (World.ownsRow.alloc hown _) ⟨w.heap.size, 0, none⟩ 1 1 (S.cells y) hx (by rw [S.len]; omega) ?_ (S.one y) (by unfold maxLen; omega) (by omega) (by simp; omega) ?_
 ·intro j u hu
  rw [Go.WideShapes.add_plain, Nat.zero_add, cwn]; rw [← hcs] at hu
  simpa using hu
 intro v' w' h1 h2 _ h4; refine h v' w' ?_ ⟨(((brf B w).alloc hB _).grown h2 (by simp; omega) fun k hk => (World.ownsRow.lt hown k hk).1), ?_, fun k hk hne => ?_, by rw [World.size_alloc] at h4; exact h4⟩
 ·unfold OwnR
  rw [lap, S.flat_append, S.flat_single]; exact h1
 ·have := h2.size
  rw [World.size_alloc] at this; omega
 ·rw [h2.block k (by rw [World.size_alloc]; omega) (fun e => hne e.symm)]
  exact (((brf w.heap.size w).alloc mle _).block k hk)
theorem OwnR.appendAll {P : Program} {T TS : TypeId} {bytes : Nat} (he : Elem S P T TS bytes) {w : World} {ops : Array Oper} {rest : List Oper} {o : Oper} {a : Act} {Q : Exit → Act → World → Prop} (hgd : o.guard = none) (s x : Operand)
  (ho : o.op = .call { callee := .builtin .append, args := #[s, x], argTypes := #[TS, TS] }) (B : Nat) (v : Value) (L M : List α) (p : Option Addr) (c n : Nat) (hM : M.length = n) (hown : OwnR S w T B v L) (hsrc : Recs S w p M) (hp : p = none → c = 0) (hs : a.eval s = v)
  (hx : a.eval x = .slice p n c) (hB : B ≤ w.heap.size) (hn : L.length + n < 1073741824) (hby : bytes ≤ 65536)
  (h : ∀ v' w', OwnR S w' T B v' (L ++ M) → Appends w w' B w.heap.size v v' → wpList P ops Q rest (a.put o.dst v') w') : wpList P ops Q (o :: rest) a w := by
 subst hM; obtain ⟨i0, z, e1, e2, e3, e4, e5⟩ := he.ex; have hb2 : (L.length + M.length) * bytes ≤ 1073741824 * 65536 := Nat.mul_le_mul (by omega) hby
 cases p with
 | none =>
   obtain rfl := hp rfl; have hM : M = [] := by
    rcases hsrc.2 with h | ⟨b, off, h, _⟩
    ·exact h
    ·cases h
   subst hM; exact wpList_append_own_none hgd s x TS ho B T i0 S.k he.ts e1 v L.length (S.flat L) hs hown hx (h v w (by rw [List.append_nil]; exact hown) ⟨brf _ _, Nat.le_refl _, fun _ _ _ => rfl, .inl rfl⟩)
 | some ad =>
   refine wpList_append_own_at _ hgd s x TS ho B T i0 z S.k bytes he.ts e1 e2 e3 e4 e5 S.pos v L.length (S.flat L) hs hown ad M.length c (S.flat M) hx (S.flat_len M) ?_ (S.flat_ones M) (by unfold maxLen; omega) (by omega) hB ?_
   ·intro j u hu
    rcases hsrc.2 with rfl | ⟨b', off', hp', hl, hc⟩
    ·simp [Shape.flat] at hu
    ·cases hp'
     rw [Go.WideShapes.add_plain]; exact hc j u hu
   intro v' w' h1 h2 _ h4; refine h v' w' ?_ ⟨(brf B w).grown h2 hB fun k hk => (World.ownsRow.lt hown k hk).1, h2.size, fun k hk hne => h2.block k hk (fun e => hne e.symm), h4⟩; unfold OwnR; rw [lap, S.flat_append]; exact h1
theorem OwnR.setOther {w : World} {T : TypeId} {B : Nat} {v : Value} {L : List α} (h : OwnR S w T B v L) {b i : Nat} (hne : v.ownBlock ≠ some b) (u : Value) : OwnR S (w.setCell ⟨b, i, none⟩ u) T B v L :=
 h.blocks fun g hg _ _ => by
  have : b ≠ g := fun e => hne (by rw [hg, e])
  simp [World.setCell, Array.getElem?_modify, this]
end Go.Proofs.YtmlfcpglhipjgaaGreat
