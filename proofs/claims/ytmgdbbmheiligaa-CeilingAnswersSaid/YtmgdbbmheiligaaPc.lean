/-
  PLAIN: what package ceiling computes, and its laws. No program in sight.
-/
import Derived.Test.YtmgdbbmheiligaaPv
import Derived.Test.YtmgdbbmheiligaaPd
namespace Go.Proofs.Ytmgdbbmheiligaa.Ce

def fr (l : List (Int × Int)) (i : Nat) : Int := (l.getD i (0, 0)).1
def mi (l : List (Int × Int)) (i : Nat) : Int := (l.getD i (0, 0)).2

/-- Degree i is right. -/
def okAt (l : List (Int × Int)) (i : Nat) : Bool :=
  En.money (fr l i) && decide (0 ≤ mi l i) && decide (mi l i ≤ 1000) && (decide (i = 0) || (decide (fr l (i - 1) < fr l i) && decide (mi l (i - 1) ≤ mi l i)))

structure Right (l : List (Int × Int)) : Prop where
  len : l.length ≤ 6
  ok : ∀ i, i < l.length → okAt l i = true

def chk (l : List (Int × Int)) : Int := if l.length ≤ 6 ∧ ((List.range l.length).all (okAt l)) = true then 0 else 66

theorem chk_zero {l : List (Int × Int)} : chk l = 0 ↔ Right l := by
  unfold chk
  constructor
  · intro h
    split at h
    · rename_i hc
      exact ⟨hc.1, fun i hi => List.all_eq_true.1 hc.2 i (List.mem_range.2 hi)⟩
    · omega
  · intro h
    rw [if_pos ⟨h.len, List.all_eq_true.2 fun i hi => h.ok i (List.mem_range.1 hi)⟩]

theorem chk_not {l : List (Int × Int)} (h : ¬ Right l) : chk l = 66 := by
  unfold chk
  rw [if_neg]
  exact fun hc => h ⟨hc.1, fun i hi => List.all_eq_true.1 hc.2 i (List.mem_range.2 hi)⟩

theorem okAt_iff {l : List (Int × Int)} {i : Nat} : okAt l i = true ↔ (0 ≤ fr l i ∧ fr l i ≤ 68719476736) ∧ 0 ≤ mi l i ∧ mi l i ≤ 1000 ∧ (i = 0 ∨ fr l (i - 1) < fr l i ∧ mi l (i - 1) ≤ mi l i) := by
  unfold okAt
  simp only [Bool.and_eq_true, Bool.or_eq_true, decide_eq_true_eq, En.money_iff, and_assoc]

variable {l m : List (Int × Int)} {a b : Int}

theorem Right.fr0 (h : Right l) {i : Nat} (hi : i < l.length) : 0 ≤ fr l i ∧ fr l i ≤ 68719476736 := (okAt_iff.1 (h.ok i hi)).1
theorem Right.mi0 (h : Right l) {i : Nat} (hi : i < l.length) : 0 ≤ mi l i ∧ mi l i ≤ 1000 := ⟨(okAt_iff.1 (h.ok i hi)).2.1, (okAt_iff.1 (h.ok i hi)).2.2.1⟩
theorem Right.step (h : Right l) {i : Nat} (hi : i + 1 < l.length) : fr l i < fr l (i + 1) := by
  rcases (okAt_iff.1 (h.ok (i + 1) hi)).2.2.2 with h | h
  · omega
  · exact h.1

theorem Right.first (h : Right l) {i : Nat} (hi : i < l.length) : fr l 0 ≤ fr l i := by
  induction i with
  | zero => exact Int.le_refl _
  | succ i ih =>
    have := ih (by omega)
    have := h.step hi
    omega

/-! ### what is taken away -/
def till (l : List (Int × Int)) (a : Int) (i : Nat) : Int := if i + 1 < l.length then min a (fr l (i + 1)) else a
def span (l : List (Int × Int)) (a : Int) (i : Nat) : Int := max 0 (till l a i - fr l i)
def cut (l : List (Int × Int)) (a : Int) (i : Nat) : Int := Ex.up (span l a i * mi l i) 1000
def cuts (l : List (Int × Int)) (a : Int) : Nat → Int
  | 0 => 0
  | k + 1 => cuts l a k + cut l a k
def red (l : List (Int × Int)) (a : Int) : Int := a - cuts l a l.length

def spans (l : List (Int × Int)) (a : Int) : Nat → Int
  | 0 => 0
  | k + 1 => spans l a k + span l a k

theorem up_eq {n : Int} (h0 : 0 ≤ n) (h1 : n ≤ 1125899906842624) : Ex.up n 1000 = -((-n) / 1000) := by
  unfold Ex.up Ex.down
  rw [if_pos (Ex.fits_of (by omega) (by omega) (by omega) (by omega))]

theorem up_cut {x m : Int} (x0 : 0 ≤ x) (x1 : x ≤ 68719476736) (m0 : 0 ≤ m) (m1 : m ≤ 1000) : Ex.up (x * m) 1000 = -((-(x * m)) / 1000) ∧ 0 ≤ x * m ∧ x * m ≤ x * 1000 := by
  have h0 : 0 ≤ x * m := Int.mul_nonneg x0 m0
  have h1 : x * m ≤ x * 1000 := Int.mul_le_mul_of_nonneg_left m1 x0
  exact ⟨up_eq h0 (by omega), h0, h1⟩

theorem up_bd {x m : Int} (x0 : 0 ≤ x) (x1 : x ≤ 68719476736) (m0 : 0 ≤ m) (m1 : m ≤ 1000) : 0 ≤ Ex.up (x * m) 1000 ∧ Ex.up (x * m) 1000 ≤ x := by
  obtain ⟨e, h0, h1⟩ := up_cut x0 x1 m0 m1
  rw [e]
  generalize x * m = p at *
  omega

theorem up_lip {x y m : Int} (x0 : 0 ≤ x) (hxy : x ≤ y) (y1 : y ≤ 68719476736) (m0 : 0 ≤ m) (m1 : m ≤ 1000) : Ex.up (y * m) 1000 - Ex.up (x * m) 1000 ≤ y - x := by
  obtain ⟨e, h0, h1⟩ := up_cut x0 (by omega) m0 m1
  obtain ⟨e', h0', h1'⟩ := up_cut (x := y) (by omega) y1 m0 m1
  rw [e, e']
  have h2 : (y - x) * m ≤ (y - x) * 1000 := Int.mul_le_mul_of_nonneg_left m1 (by omega)
  rw [Int.sub_mul] at h2
  generalize x * m = p at *
  generalize y * m = q at *
  omega

theorem up_mono {x m n : Int} (x0 : 0 ≤ x) (x1 : x ≤ 68719476736) (m0 : 0 ≤ m) (hmn : m ≤ n) (n1 : n ≤ 1000) : Ex.up (x * m) 1000 ≤ Ex.up (x * n) 1000 := by
  obtain ⟨e, h0, h1⟩ := up_cut x0 x1 m0 (by omega)
  obtain ⟨e', h0', h1'⟩ := up_cut (m := n) x0 x1 (by omega) n1
  rw [e, e']
  have h2 : x * m ≤ x * n := Int.mul_le_mul_of_nonneg_left hmn x0
  generalize x * m = p at *
  generalize x * n = q at *
  omega

theorem Right.span_bd (h : Right l) (_a0 : 0 ≤ a) (a1 : a ≤ 68719476736) {i : Nat} (hi : i < l.length) : 0 ≤ span l a i ∧ span l a i ≤ 68719476736 := by
  have := h.fr0 hi
  unfold span till
  split <;> omega

theorem Right.cut_bd (h : Right l) (a0 : 0 ≤ a) (a1 : a ≤ 68719476736) {i : Nat} (hi : i < l.length) : 0 ≤ cut l a i ∧ cut l a i ≤ span l a i := by
  have hs := h.span_bd a0 a1 hi
  have hm := h.mi0 hi
  exact up_bd hs.1 hs.2 hm.1 hm.2

theorem Right.cuts_bd (h : Right l) (a0 : 0 ≤ a) (a1 : a ≤ 68719476736) {k : Nat} (hk : k ≤ l.length) : 0 ≤ cuts l a k ∧ cuts l a k ≤ spans l a k := by
  induction k with
  | zero => exact ⟨Int.le_refl _, Int.le_refl _⟩
  | succ k ih =>
    have := ih (by omega)
    have := h.cut_bd a0 a1 (show k < l.length by omega)
    unfold cuts spans
    omega

/-- The spans up to k, in one. -/
theorem Right.spans_eq (h : Right l) {k : Nat} (hk : k < l.length) : spans l a (k + 1) = max 0 (till l a k - fr l 0) := by
  induction k with
  | zero => unfold spans spans span; omega
  | succ k ih =>
    have e := ih (by omega)
    have s1 := h.step hk
    have s2 := h.first (show k + 1 < l.length from hk)
    have s3 : k + 1 + 1 < l.length → fr l (k + 1) < fr l (k + 1 + 1) := fun hh => h.step hh
    show spans l a (k + 1) + span l a (k + 1) = _
    rw [e]
    unfold span till
    rw [if_pos (show k + 1 < l.length from hk)]
    split
    · have := s3 (by assumption); omega
    · omega

theorem Right.spans_all (h : Right l) : spans l a l.length = if l.length = 0 then 0 else max 0 (a - fr l 0) := by
  by_cases hz : l.length = 0
  · rw [if_pos hz, hz]; rfl
  · rw [if_neg hz]
    obtain ⟨n, hn⟩ : ∃ n, l.length = n + 1 := ⟨l.length - 1, by omega⟩
    rw [hn, h.spans_eq (by omega)]
    unfold till
    rw [if_neg (by omega)]

theorem Right.red_bd (h : Right l) (a0 : 0 ≤ a) (a1 : a ≤ 68719476736) : 0 ≤ red l a ∧ red l a ≤ a := by
  have hc := h.cuts_bd a0 a1 (Nat.le_refl _)
  have hs := h.spans_all (a := a)
  unfold red
  split at hs
  · omega
  · have := h.fr0 (i := 0) (by omega)
    omega

theorem Right.red_part (h : Right l) (a0 : 0 ≤ a) (a1 : a ≤ 68719476736) {k : Nat} (hk : k ≤ l.length) : 0 ≤ a - cuts l a k ∧ a - cuts l a k ≤ a := by
  have hc := h.cuts_bd a0 a1 hk
  refine ⟨?_, by omega⟩
  by_cases hz : k = 0
  · subst hz; unfold cuts; omega
  · obtain ⟨n, hn⟩ : ∃ n, k = n + 1 := ⟨k - 1, by omega⟩
    subst hn
    have hs := h.spans_eq (a := a) (k := n) (by omega)
    have := h.fr0 (i := 0) (by omega)
    have := h.fr0 (i := n) (by omega)
    unfold till at hs
    split at hs <;> omega

theorem Right.red_low (h : Right l) (a0 : 0 ≤ a) (a1 : a ≤ 68719476736) (hl : l.length = 0 ∨ a ≤ fr l 0) : red l a = a := by
  have hc := h.cuts_bd a0 a1 (Nat.le_refl _)
  have hs := h.spans_all (a := a)
  unfold red
  split at hs <;> omega

theorem Right.span_mono (_h : Right l) (hab : a ≤ b) {i : Nat} (_hi : i < l.length) : span l a i ≤ span l b i := by
  unfold span till
  split <;> omega

theorem Right.cuts_lip (h : Right l) (a0 : 0 ≤ a) (hab : a ≤ b) (b1 : b ≤ 68719476736) {k : Nat} (hk : k ≤ l.length) : cuts l b k - cuts l a k ≤ spans l b k - spans l a k := by
  induction k with
  | zero => unfold cuts spans; omega
  | succ k ih =>
    have := ih (by omega)
    have hi : k < l.length := by omega
    have s1 := h.span_bd a0 (by omega) hi
    have s2 := h.span_bd (a := b) (by omega) b1 hi
    have hm := h.mi0 hi
    have := up_lip (x := span l a k) (y := span l b k) s1.1 (h.span_mono hab hi) s2.2 hm.1 hm.2
    unfold cuts spans cut
    omega

theorem Right.red_mono (h : Right l) (a0 : 0 ≤ a) (hab : a ≤ b) (b1 : b ≤ 68719476736) : red l a ≤ red l b := by
  have h1 := h.cuts_lip a0 hab b1 (Nat.le_refl _)
  have h2 := h.spans_all (a := a)
  have h3 := h.spans_all (a := b)
  unfold red
  split at h2
  · rw [if_pos (by assumption)] at h3; omega
  · rw [if_neg (by assumption)] at h3; omega

/-- Where more is taken away. -/
theorem Right.red_strict (h : Right l) (h' : Right m) (hl : m.length = l.length) (hf : ∀ i, i < l.length → fr m i = fr l i) (hm : ∀ i, i < l.length → mi l i ≤ mi m i) (a0 : 0 ≤ a) (a1 : a ≤ 68719476736) : red m a ≤ red l a := by
  have hc : ∀ k, k ≤ l.length → cuts l a k ≤ cuts m a k := fun k hk => by
    induction k with
    | zero => exact Int.le_refl _
    | succ k ih =>
      have := ih (by omega)
      have hi : k < l.length := by omega
      have s1 := h.span_bd a0 a1 hi
      have es : span m a k = span l a k := by
        unfold span till
        rw [hl, hf k hi]
        by_cases hk1 : k + 1 < l.length
        · rw [if_pos hk1, if_pos hk1, hf (k + 1) hk1]
        · rw [if_neg hk1, if_neg hk1]
      have := up_mono (x := span l a k) s1.1 s1.2 (h.mi0 hi).1 (hm k hi) (h'.mi0 (i := k) (by omega)).2
      show cuts l a k + Ex.up (span l a k * mi l k) 1000 ≤ cuts m a k + Ex.up (span m a k * mi m k) 1000
      rw [es]
      omega
  have := hc l.length (Nat.le_refl _)
  unfold red
  rw [hl]
  omega

/-! ### a farm -/
def redErr (l : List (Int × Int)) (a : Int) : Int := if chk l ≠ 0 then 66 else if En.money a = false then 67 else 0
def redVal (l : List (Int × Int)) (a : Int) : Int := if redErr l a ≠ 0 then 0 else red l a

def sumErr (xs : List Int) : Int := if (xs.any fun x => !En.money x) = true ∨ En.money (Sh.sum xs) = false then 67 else 0
def farmErr (l : List (Int × Int)) (cap : Int) (xs : List Int) : Int := if chk l ≠ 0 then 66 else if En.money cap = false then 67 else if 16 < xs.length then 1 else sumErr xs
def farmLeft (l : List (Int × Int)) (cap : Int) (xs : List Int) : Int := min cap (red l (Sh.sum xs))
def farm (l : List (Int × Int)) (cap : Int) (xs : List Int) : List Int :=
  if farmErr l cap xs ≠ 0 then [] else if farmLeft l cap xs = Sh.sum xs then xs else shList (farmLeft l cap xs) xs

structure Fine (l : List (Int × Int)) (cap : Int) (xs : List Int) : Prop where
  right : Right l
  cap0 : 0 ≤ cap
  cap1 : cap ≤ 68719476736
  len : xs.length ≤ 16
  all : ∀ x ∈ xs, 0 ≤ x ∧ x ≤ 68719476736
  sum : Sh.sum xs ≤ 68719476736

variable {xs : List Int} {cap : Int}

theorem fine_of (h : farmErr l cap xs = 0) : Fine l cap xs := by
  unfold farmErr at h
  by_cases h1 : chk l ≠ 0
  · rw [if_pos h1] at h; omega
  rw [if_neg h1] at h
  by_cases h2 : En.money cap = false
  · rw [if_pos h2] at h; omega
  rw [if_neg h2] at h
  by_cases h3 : 16 < xs.length
  · rw [if_pos h3] at h; omega
  rw [if_neg h3] at h
  unfold sumErr at h
  by_cases h4 : (xs.any fun x => !En.money x) = true ∨ En.money (Sh.sum xs) = false
  · rw [if_pos h4] at h; omega
  have m := En.money_iff.1 (show En.money cap = true by simpa using h2)
  have h5 : (xs.any fun x => !En.money x) = false := Bool.eq_false_iff.2 fun h => h4 (.inl h)
  have h6 : En.money (Sh.sum xs) = true := by simpa using fun h => h4 (.inr h)
  rw [List.any_eq_false] at h5
  exact ⟨chk_zero.1 (by omega), m.1, m.2, by omega, fun x hx => En.money_iff.1 (by simpa using h5 x hx), (En.money_iff.1 h6).2⟩

theorem Fine.sum0 (h : Fine l cap xs) : 0 ≤ Sh.sum xs := Sh.sum_nonneg fun x hx => (h.all x hx).1

theorem Fine.sumErr (h : Fine l cap xs) : sumErr xs = 0 := by
  have h4 : (xs.any fun x => !En.money x) = false := by
    rw [List.any_eq_false]
    intro x hx
    rw [En.money_iff.2 (h.all x hx)]
    simp
  unfold Ce.sumErr
  rw [if_neg]
  rintro (h1 | h1)
  · rw [h4] at h1; cases h1
  · rw [En.money_iff.2 ⟨h.sum0, h.sum⟩] at h1; cases h1

theorem Fine.err (h : Fine l cap xs) : farmErr l cap xs = 0 := by
  unfold farmErr
  rw [if_neg (by rw [chk_zero.2 h.right]; simp), if_neg (by rw [En.money_iff.2 ⟨h.cap0, h.cap1⟩]; simp), if_neg (by have := h.len; omega)]
  exact h.sumErr

theorem Fine.left (h : Fine l cap xs) : 0 ≤ farmLeft l cap xs ∧ farmLeft l cap xs ≤ Sh.sum xs := by
  have := h.right.red_bd h.sum0 h.sum
  have := h.cap0
  unfold farmLeft
  omega

theorem Fine.shErr (h : Fine l cap xs) : shErr (farmLeft l cap xs) xs = 0 := by
  have h1 := h.left
  have h2 := h.sum
  have h4 : (xs.any fun x => !Sh.limited x) = false := by
    rw [List.any_eq_false]
    intro x hx
    have := h.all x hx
    rw [Sh.limited_iff.2 ⟨by omega, by omega⟩]
    simp
  unfold Go.Proofs.Ytmgdbbmheiligaa.shErr
  rw [if_neg (by have := h.len; omega), if_neg]
  rintro (h5 | h5)
  · rw [Sh.limited_iff.2 ⟨by omega, by omega⟩] at h5; cases h5
  · rw [h4] at h5; cases h5

theorem Fine.right' (h : Fine l cap xs) (hne : farmLeft l cap xs ≠ Sh.sum xs) : Sh.Right (farmLeft l cap xs) xs ∧ farm l cap xs = Sh.shares (farmLeft l cap xs) xs := by
  have h1 := h.left
  have h2 := h.sum
  have hs : Sh.sum xs ≠ 0 := by omega
  refine ⟨⟨h1.1, by omega, fun x hx => by have := h.all x hx; omega, hs⟩, ?_⟩
  unfold farm shList
  rw [if_neg (by rw [h.err]; simp), if_neg hne, if_neg (by rw [h.shErr]; simp), if_neg hs]

theorem Fine.same (h : Fine l cap xs) (he : farmLeft l cap xs = Sh.sum xs) : farm l cap xs = xs := by
  unfold farm
  rw [if_neg (by rw [h.err]; simp), if_pos he]

theorem Fine.farm_len (h : Fine l cap xs) : (farm l cap xs).length = xs.length := by
  by_cases he : farmLeft l cap xs = Sh.sum xs
  · rw [h.same he]
  · rw [(h.right' he).2]; unfold Sh.shares; simp

theorem Fine.farm_sum (h : Fine l cap xs) : Sh.sum (farm l cap xs) = farmLeft l cap xs := by
  by_cases he : farmLeft l cap xs = Sh.sum xs
  · rw [h.same he, he]
  · rw [(h.right' he).2, (h.right' he).1.total]

theorem Fine.farm_bd (h : Fine l cap xs) (i : Nat) (hi : i < xs.length) : 0 ≤ (farm l cap xs).getD i 0 ∧ (farm l cap xs).getD i 0 ≤ xs.getD i 0 := by
  by_cases he : farmLeft l cap xs = Sh.sum xs
  · rw [h.same he, List.getD_eq_getElem?_getD, List.getElem?_eq_getElem hi]
    exact ⟨(h.all _ (List.getElem_mem hi)).1, Int.le_refl _⟩
  · have h1 := h.left
    rw [(h.right' he).2, Sh.shares_getD _ _ _ hi]
    exact ⟨((h.right' he).1.share_bd i).1, (h.right' he).1.share_le (by omega) hi⟩

theorem Fine.alone {x : Int} (h : Fine l cap [x]) : farm l cap [x] = [min cap (red l x)] := by
  have h1 := h.farm_len
  have h2 := h.farm_sum
  have e : farmLeft l cap [x] = min cap (red l x) := by unfold farmLeft Sh.sum Sh.sum; rw [Int.add_zero]
  rw [e] at h2
  generalize farm l cap [x] = f at *
  match f, h1 with
  | [y], _ => simp only [Sh.sum, Int.add_zero] at h2; rw [h2]

theorem Fine.three {x : Int} (h : Fine l cap [0, x, 0]) : farm l cap [0, x, 0] = [0, min cap (red l x), 0] := by
  have h1 := h.farm_len
  have h2 := h.farm_sum
  have b0 := h.farm_bd 0 (by simp)
  have b2 := h.farm_bd 2 (by simp)
  have e : farmLeft l cap [0, x, 0] = min cap (red l x) := by unfold farmLeft Sh.sum Sh.sum Sh.sum Sh.sum; rw [Int.add_zero, Int.add_zero, Int.zero_add]
  rw [e] at h2
  generalize farm l cap [0, x, 0] = f at *
  match f, h1 with
  | [y0, y1, y2], _ =>
    simp only [Sh.sum, Int.add_zero, List.getD_cons_zero, List.getD_cons_succ] at *
    have : y0 = 0 := by omega
    have : y2 = 0 := by omega
    subst y0 y2
    rw [← h2]
    simp

end Go.Proofs.Ytmgdbbmheiligaa.Ce
