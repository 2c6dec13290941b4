/-
  PLAIN: shares by the greatest rests. An order of the indices, the first of them get one more; what that gives. No program in sight.
-/
import Derived.WalkKit
import Derived.Shelf.SlSortCmp.NoneTotal
namespace Go.Proofs.YtcghhagnibabeaaGreatDoor.Sh

/-! ### sums -/
def sum : List Int → Int
  | [] => 0
  | x :: l => x + sum l

theorem sum_append (l m : List Int) : sum (l ++ m) = sum l + sum m := by
  induction l with
  | nil => simp [sum]
  | cons x l ih => simp only [List.cons_append, sum, ih]; omega

theorem sum_snoc (l : List Int) (x : Int) : sum (l ++ [x]) = sum l + x := by rw [sum_append]; simp [sum]

theorem sum_perm {l m : List Int} (h : l.Perm m) : sum l = sum m := by
  induction h with
  | nil => rfl
  | cons x _ ih => simp only [sum, ih]
  | swap x y l => simp only [sum]; omega
  | trans _ _ ih1 ih2 => exact ih1.trans ih2

theorem sum_map_add {α : Type} (f g : α → Int) (l : List α) : sum (l.map fun x => f x + g x) = sum (l.map f) + sum (l.map g) := by
  induction l with
  | nil => simp [sum]
  | cons x l ih => simp only [List.map_cons, sum, ih]; omega

theorem sum_map_mul {α : Type} (c : Int) (f : α → Int) (l : List α) : sum (l.map fun x => c * f x) = c * sum (l.map f) := by
  induction l with
  | nil => simp [sum]
  | cons x l ih => simp only [List.map_cons, sum, ih, Int.mul_add]

theorem sum_map_const {α : Type} (c : Int) (l : List α) : sum (l.map fun _ => c) = c * l.length := by
  induction l with
  | nil => simp [sum]
  | cons x l ih => simp only [List.map_cons, sum, ih, List.length_cons]; rw [Int.natCast_add, Int.mul_add]; omega

theorem sum_map_le {α : Type} {f g : α → Int} {l : List α} (h : ∀ x ∈ l, f x ≤ g x) : sum (l.map f) ≤ sum (l.map g) := by
  induction l with
  | nil => simp [sum]
  | cons x l ih =>
    have := ih fun y hy => h y (List.mem_cons_of_mem _ hy)
    have := h x List.mem_cons_self
    simp only [List.map_cons, sum]; omega

theorem sum_map_congr {α : Type} {f g : α → Int} {l : List α} (h : ∀ x ∈ l, f x = g x) : sum (l.map f) = sum (l.map g) := by
  rw [List.map_congr_left h]

theorem sum_nonneg {l : List Int} (h : ∀ x ∈ l, 0 ≤ x) : 0 ≤ sum l := by
  induction l with
  | nil => simp [sum]
  | cons x l ih =>
    have := ih fun y hy => h y (List.mem_cons_of_mem _ hy)
    have := h x List.mem_cons_self
    simp only [sum]; omega

theorem le_sum {l : List Int} (h : ∀ x ∈ l, 0 ≤ x) {y : Int} (hy : y ∈ l) : y ≤ sum l := by
  induction l with
  | nil => cases hy
  | cons x l ih =>
    have h1 : ∀ z ∈ l, 0 ≤ z := fun z hz => h z (List.mem_cons_of_mem _ hz)
    have h2 := sum_nonneg h1
    have h3 := h x List.mem_cons_self
    simp only [sum]
    rcases List.mem_cons.1 hy with rfl | hy
    · omega
    · have := ih h1 hy; omega

theorem sum_le_len {l : List Int} {c : Int} (h : ∀ x ∈ l, x ≤ c) : sum l ≤ c * l.length := by
  have := sum_map_le (f := fun x => x) (g := fun _ => c) h
  rw [sum_map_const] at this
  simpa using this

/-- a list as a function of its index -/
theorem sum_range (l : List Int) : sum ((List.range l.length).map fun i => l.getD i 0) = sum l := by
  congr 1
  apply List.ext_getElem
  · simp
  · intro i h1 h2
    simp at h1 h2 ⊢
    simp [h1]

/-! ### the order -/
/-- i comes before j: a greater rest, or the same and a lesser index. -/
def before (r : Nat → Int) (i j : Nat) : Bool := decide (r j < r i) || (decide (r i = r j) && decide (i < j))

theorem before_iff {r : Nat → Int} {i j : Nat} : before r i j = true ↔ r j < r i ∨ r i = r j ∧ i < j := by unfold before; simp
theorem before_not {r : Nat → Int} {i j : Nat} : before r i j = false ↔ ¬ (r j < r i ∨ r i = r j ∧ i < j) := by rw [← before_iff]; simp

def cf (n : Nat) (r : Nat → Int) (x y : Fin n) : Int := if r x.val < r y.val then 1 else if r y.val < r x.val then -1 else if x.val < y.val then -1 else if y.val < x.val then 1 else 0

theorem lt_cf (n : Nat) (r : Nat → Int) (x y : Fin n) : ltOf (cf n r) x y = before r x.val y.val := by
  rw [Bool.eq_iff_iff, before_iff]
  unfold ltOf cf
  rw [decide_eq_true_eq]
  split <;> (try split) <;> (try split) <;> (try split) <;> omega

theorem swo (n : Nat) (r : Nat → Int) : Go.Sort.SWO (ltOf (cf n r)) where
  irrefl x := by rw [lt_cf, before_not]; omega
  trans x y z h1 h2 := by rw [lt_cf, before_iff] at *; omega
  ntrans x y z h1 h2 := by rw [lt_cf, before_not] at *; omega

theorem tot (n : Nat) (r : Nat → Int) (x y : Fin n) (h1 : ltOf (cf n r) x y = false) (h2 : ltOf (cf n r) y x = false) : x = y := by
  rw [lt_cf, before_not] at *
  apply Fin.ext
  omega

/-- The indices below n, those that come first ahead. -/
def order (n : Nat) (r : Nat → Int) : List Nat := ((List.finRange n).mergeSort fun x y => !(ltOf (cf n r) y x)).map Fin.val

theorem order_perm (n : Nat) (r : Nat → Int) : (order n r).Perm (List.range n) := by
  unfold order
  refine ((List.mergeSort_perm _ _).map _).trans ?_
  rw [show (List.finRange n).map Fin.val = List.range n from by apply List.ext_getElem <;> simp]

theorem order_nodup (n : Nat) (r : Nat → Int) : (order n r).Nodup := (order_perm n r).nodup_iff.2 List.nodup_range

theorem order_len (n : Nat) (r : Nat → Int) : (order n r).length = n := by rw [(order_perm n r).length_eq, List.length_range]

theorem order_mem (n : Nat) (r : Nat → Int) (i : Nat) : i ∈ order n r ↔ i < n := by rw [(order_perm n r).mem_iff, List.mem_range]

theorem order_sorted (n : Nat) (r : Nat → Int) : (order n r).Pairwise fun i j => before r j i = false := by
  unfold order
  rw [List.pairwise_map]
  refine (List.pairwise_mergeSort (le := fun x y => !(ltOf (cf n r) y x)) ?_ ?_ (List.finRange n)).imp ?_
  · intro a b c h1 h2
    simp only [Bool.not_eq_true', lt_cf, before_not] at *
    omega
  · intro a b
    simp only [Bool.or_eq_true, Bool.not_eq_true', lt_cf, before_not]
    omega
  · intro a b h
    simpa only [Bool.not_eq_true', lt_cf] using h

theorem nodup_inj {l : List Nat} (h : l.Nodup) {a b : Nat} (ha : a < l.length) (hb : b < l.length) (e : l[a] = l[b]) : a = b := by
  have p := List.pairwise_iff_getElem.1 h
  rcases Nat.lt_trichotomy a b with hl | hl | hl
  · exact absurd e (p a b ha hb hl)
  · exact hl
  · exact absurd e.symm (p b a hb ha hl)

/-- Of two places in the order the first one's index comes before. -/
theorem order_lt {n : Nat} {r : Nat → Int} {a b : Nat} (hab : a < b) (hb : b < (order n r).length) : before r ((order n r)[a]'(by omega)) ((order n r)[b]) = true := by
  have h := List.pairwise_iff_getElem.1 (order_sorted n r) a b (by omega) hb hab
  have hne : (order n r)[a]'(by omega) ≠ (order n r)[b] := fun e => by
    have := nodup_inj (order_nodup n r) _ _ e
    omega
  rw [before_not] at h
  rw [before_iff]
  omega

/-- There is one such order. -/
theorem order_unique {n : Nat} {r : Nat → Int} {l : List Nat} (hp : l.Perm (List.range n)) (hs : l.Pairwise fun i j => before r j i = false) : order n r = l := by
  refine List.Perm.eq_of_pairwise (le := fun i j => before r j i = false) (fun a b _ _ h1 h2 => ?_) (order_sorted n r) hs ((order_perm n r).trans hp.symm)
  rw [before_not] at h1 h2
  omega

/-- Of the first k. -/
def top (n : Nat) (r : Nat → Int) (k i : Nat) : Bool := decide (i ∈ (order n r).take k)

theorem top_zero (n : Nat) (r : Nat → Int) (i : Nat) : top n r 0 i = false := by simp [top]

theorem top_succ {n : Nat} {r : Nat → Int} {k i : Nat} (hk : k < (order n r).length) : top n r (k + 1) i = (top n r k i || decide (i = (order n r)[k])) := by
  unfold top
  rw [Bool.eq_iff_iff]
  simp only [Bool.or_eq_true, decide_eq_true_eq]
  rw [List.take_succ_eq_append_getElem hk, List.mem_append, List.mem_singleton]

theorem top_at {n : Nat} {r : Nat → Int} {k : Nat} (hk : k < (order n r).length) : top n r k (order n r)[k] = false := by
  unfold top
  rw [decide_eq_false_iff_not, List.mem_take_iff_getElem]
  rintro ⟨j, hj, e⟩
  have := nodup_inj (order_nodup n r) _ _ e
  omega

/-- The one at place k comes before all others that are not of the first k. -/
theorem top_best {n : Nat} {r : Nat → Int} {k i : Nat} (hk : k < (order n r).length) (hi : i < n) (ht : top n r k i = false) (hne : i ≠ (order n r)[k]) : before r (order n r)[k] i = true := by
  obtain ⟨j, hj, rfl⟩ := List.getElem_of_mem ((order_mem n r i).2 hi)
  have h1 : ¬ j < k := fun h => by
    unfold top at ht
    rw [decide_eq_false_iff_not, List.mem_take_iff_getElem] at ht
    exact ht ⟨j, by omega, rfl⟩
  have h2 : j ≠ k := fun e => hne (by subst e; rfl)
  exact order_lt (by omega) hj

theorem top_sum {n : Nat} {r : Nat → Int} {k : Nat} (hk : k ≤ n) : sum ((List.range n).map fun i => if top n r k i = true then 1 else 0) = k := by
  rw [← sum_perm ((order_perm n r).map _)]
  have hn := order_nodup n r
  have e : order n r = (order n r).take k ++ (order n r).drop k := (List.take_append_drop k _).symm
  have d := List.nodup_append.1 (e ▸ hn)
  rw [show (order n r).map (fun i => if top n r k i = true then (1 : Int) else 0) = ((order n r).take k ++ (order n r).drop k).map (fun i => if top n r k i = true then (1 : Int) else 0) from by rw [← e], List.map_append, sum_append]
  rw [sum_map_congr (g := fun _ => 1) (l := (order n r).take k), sum_map_congr (g := fun _ => 0) (l := (order n r).drop k), sum_map_const, sum_map_const]
  · rw [List.length_take, order_len]; omega
  · intro x hx
    rw [if_neg]
    unfold top
    rw [decide_eq_true_eq]
    exact fun h => d.2.2 x h x hx rfl
  · intro x hx
    rw [if_pos]
    unfold top
    exact decide_eq_true hx

/-- One whose rest is nothing is not among the first k if the rests together are k times a bound that each is below. -/
theorem top_none {n : Nat} {r : Nat → Int} {k : Nat} {s : Int} (_hk : k ≤ n) (h0 : ∀ i, i < n → 0 ≤ r i) (h1 : ∀ i, i < n → r i < s) (hs : sum ((List.range n).map r) = s * k) (hpos : 0 < s) {i : Nat} (hi : i < n) (hr : r i = 0) : top n r k i = false := by
  apply Bool.eq_false_iff.2
  intro ht
  unfold top at ht
  rw [decide_eq_true_eq, List.mem_take_iff_getElem] at ht
  obtain ⟨p, hp, rfl⟩ := ht
  have hpk : p < k := by omega
  have hpl : p < (order n r).length := by omega
  have e : order n r = (order n r).take (p) ++ (order n r).drop p := (List.take_append_drop p _).symm
  rw [← sum_perm ((order_perm n r).map r), e, List.map_append, sum_append] at hs
  have a1 : sum (((order n r).take p).map r) ≤ s * p := by
    have := sum_map_le (f := r) (g := fun _ => s) (l := (order n r).take p) (fun x hx => Int.le_of_lt (h1 x ((order_mem n r x).1 (List.mem_of_mem_take hx))))
    rw [sum_map_const, List.length_take, Nat.min_eq_left (by omega)] at this
    exact this
  have a2 : sum (((order n r).drop p).map r) ≤ 0 * ((order n r).drop p).length := by
    rw [← sum_map_const]
    refine sum_map_le fun x hx => ?_
    obtain ⟨j, hj, rfl⟩ := List.getElem_of_mem hx
    rw [List.getElem_drop]
    rw [List.length_drop] at hj
    by_cases hz : j = 0
    · subst hz; simp only [Nat.add_zero]; omega
    · have hb := order_lt (n := n) (r := r) (a := p) (b := p + j) (by omega) (by omega)
      rw [before_iff, hr] at hb
      have := h0 _ ((order_mem n r _).1 (List.getElem_mem (show p + j < (order n r).length by omega)))
      omega
  have a3 : s * (p : Int) + s ≤ s * (k : Int) := by
    have : s * ((p : Int) + 1) ≤ s * (k : Int) := Int.mul_le_mul_of_nonneg_left (by omega) (by omega)
    rw [Int.mul_add, Int.mul_one] at this
    exact this
  omega

/-! ### shares -/
def limited (n : Int) : Bool := decide (0 ≤ n) && decide (n ≤ 1099511627776)
theorem limited_iff {n : Int} : limited n = true ↔ 0 ≤ n ∧ n ≤ 1099511627776 := by unfold limited; simp

/-- Whole shares, rests, how many are left over, what each gets. -/
def quo (t : Int) (ws : List Int) (i : Nat) : Int := t * ws.getD i 0 / sum ws
def rest (t : Int) (ws : List Int) (i : Nat) : Int := t * ws.getD i 0 % sum ws
def left (t : Int) (ws : List Int) : Nat := (t - sum ((List.range ws.length).map (quo t ws))).toNat
def share (t : Int) (ws : List Int) (i : Nat) : Int := quo t ws i + if top ws.length (rest t ws) (left t ws) i = true then 1 else 0
def shares (t : Int) (ws : List Int) : List Int := (List.range ws.length).map (share t ws)

structure Right (t : Int) (ws : List Int) : Prop where
  ht : 0 ≤ t
  ht' : t ≤ 1099511627776
  hw : ∀ x ∈ ws, 0 ≤ x ∧ x ≤ 1099511627776
  hs : sum ws ≠ 0

variable {t : Int} {ws : List Int}

theorem Right.pos (h : Right t ws) : 0 < sum ws := by
  have := sum_nonneg fun x hx => (h.hw x hx).1
  have := h.hs
  omega

theorem Right.w0 (h : Right t ws) (i : Nat) : 0 ≤ ws.getD i 0 := by
  rw [List.getD_eq_getElem?_getD]
  rcases Nat.lt_or_ge i ws.length with hi | hi
  · rw [List.getElem?_eq_getElem hi]; exact (h.hw _ (List.getElem_mem hi)).1
  · rw [List.getElem?_eq_none hi]; exact Int.le_refl _

theorem Right.w1 (h : Right t ws) (i : Nat) : ws.getD i 0 ≤ sum ws := by
  rw [List.getD_eq_getElem?_getD]
  rcases Nat.lt_or_ge i ws.length with hi | hi
  · rw [List.getElem?_eq_getElem hi]; exact le_sum (fun x hx => (h.hw x hx).1) (List.getElem_mem hi)
  · rw [List.getElem?_eq_none hi]; exact sum_nonneg fun x hx => (h.hw x hx).1

theorem Right.rest0 (h : Right t ws) (i : Nat) : 0 ≤ rest t ws i := Int.emod_nonneg _ h.hs
theorem Right.rest1 (h : Right t ws) (i : Nat) : rest t ws i < sum ws := Int.emod_lt_of_pos _ h.pos
theorem Right.quo0 (h : Right t ws) (i : Nat) : 0 ≤ quo t ws i := Int.ediv_nonneg (Int.mul_nonneg h.ht (h.w0 i)) (Int.le_of_lt h.pos)
theorem Right.quo1 (h : Right t ws) (i : Nat) : quo t ws i ≤ t := by
  have : quo t ws i < t + 1 := by
    unfold quo
    rw [Int.ediv_lt_iff_lt_mul h.pos]
    have h1 : t * ws.getD i 0 ≤ t * sum ws := Int.mul_le_mul_of_nonneg_left (h.w1 i) h.ht
    have := h.pos
    rw [Int.add_mul]; omega
  omega

theorem Right.rests (_h : Right t ws) : sum ws * sum ((List.range ws.length).map (quo t ws)) + sum ((List.range ws.length).map (rest t ws)) = sum ws * t := by
  rw [← sum_map_mul, ← sum_map_add, sum_map_congr (g := fun i => t * ws.getD i 0), sum_map_mul, sum_range, Int.mul_comm]
  intro i _
  unfold quo rest
  rw [Int.mul_comm (sum ws)]
  have := Int.emod_add_ediv_mul (t * ws.getD i 0) (sum ws)
  omega

theorem Right.left_eq (h : Right t ws) : (left t ws : Int) = t - sum ((List.range ws.length).map (quo t ws)) ∧ sum ((List.range ws.length).map (rest t ws)) = sum ws * (left t ws : Int) := by
  have hr := h.rests
  have hp := h.pos
  have h0 : 0 ≤ sum ((List.range ws.length).map (rest t ws)) := sum_nonneg fun x hx => by
    obtain ⟨i, _, rfl⟩ := List.mem_map.1 hx
    exact h.rest0 i
  unfold left
  generalize sum ((List.range ws.length).map (quo t ws)) = q at *
  generalize sum ((List.range ws.length).map (rest t ws)) = m at *
  have h1 : m = sum ws * (t - q) := by rw [Int.mul_sub]; omega
  have h2 : 0 ≤ t - q := by
    apply Int.not_lt.1
    intro hn
    have := Int.mul_neg_of_pos_of_neg hp hn
    omega
  rw [Int.toNat_of_nonneg h2]
  exact ⟨rfl, h1⟩

theorem quo_succ (t : Int) (ws : List Int) (k : Nat) : sum ((List.range (k + 1)).map (quo t ws)) = sum ((List.range k).map (quo t ws)) + quo t ws k := by
  rw [List.range_succ, List.map_append, sum_append]; simp [sum]

theorem Right.quo_sum (h : Right t ws) (k : Nat) : 0 ≤ sum ((List.range k).map (quo t ws)) ∧ sum ((List.range k).map (quo t ws)) ≤ 1099511627776 * k := by
  refine ⟨sum_nonneg fun x hx => ?_, ?_⟩
  · obtain ⟨i, _, rfl⟩ := List.mem_map.1 hx
    exact h.quo0 i
  · have := sum_le_len (l := (List.range k).map (quo t ws)) (c := 1099511627776) fun x hx => by
      obtain ⟨i, _, rfl⟩ := List.mem_map.1 hx
      exact Int.le_trans (h.quo1 i) h.ht'
    simpa using this

theorem Right.quo_bd (h : Right t ws) (k : Nat) : 0 ≤ quo t ws k ∧ quo t ws k ≤ 1099511627776 := ⟨h.quo0 k, Int.le_trans (h.quo1 k) h.ht'⟩

theorem Right.len (h : Right t ws) : 0 < ws.length := by
  apply Nat.pos_of_ne_zero
  intro e
  exact h.hs (by rw [List.length_eq_zero_iff.1 e]; rfl)

theorem Right.left_lt (h : Right t ws) : left t ws < ws.length := by
  have hl := h.left_eq.2
  have hp := h.pos
  have h1 : sum ((List.range ws.length).map (rest t ws)) ≤ (sum ws - 1) * ((List.range ws.length).map (rest t ws)).length := sum_le_len fun x hx => by
    obtain ⟨i, _, rfl⟩ := List.mem_map.1 hx
    have := h.rest1 i
    omega
  rw [List.length_map, List.length_range] at h1
  have hn := h.len
  apply Nat.lt_of_not_le
  intro hle
  have h2 : sum ws * (ws.length : Int) ≤ sum ws * (left t ws : Int) := Int.mul_le_mul_of_nonneg_left (by omega) (by omega)
  rw [Int.sub_mul, Int.one_mul] at h1
  omega

theorem Right.total (h : Right t ws) : sum (shares t ws) = t := by
  unfold shares share
  rw [sum_map_add, top_sum (Nat.le_of_lt h.left_lt)]
  have := h.left_eq.1
  omega

theorem Right.share_bd (h : Right t ws) (i : Nat) : 0 ≤ share t ws i ∧ share t ws i ≤ t + 1 := by
  have := h.quo0 i
  have := h.quo1 i
  unfold share
  split <;> omega

theorem Right.share_zero (h : Right t ws) {i : Nat} (hi : i < ws.length) (hz : ws.getD i 0 = 0) : share t ws i = 0 := by
  have hr : rest t ws i = 0 := by unfold rest; rw [hz]; simp
  have hq : quo t ws i = 0 := by unfold quo; rw [hz]; simp
  unfold share
  rw [top_none (s := sum ws) (Nat.le_of_lt h.left_lt) (fun i _ => h.rest0 i) (fun i _ => h.rest1 i) h.left_eq.2 h.pos hi hr, hq]
  rfl

theorem Right.share_mono (h : Right t ws) {i j : Nat} (_hi : i < ws.length) (hj : j < ws.length) (hlt : ws.getD i 0 < ws.getD j 0) : share t ws i ≤ share t ws j := by
  have hp := h.pos
  have hm : t * ws.getD i 0 ≤ t * ws.getD j 0 := Int.mul_le_mul_of_nonneg_left (by omega) h.ht
  have hq : quo t ws i ≤ quo t ws j := Int.ediv_le_ediv hp hm
  unfold share
  rcases Int.lt_or_eq_of_le hq with hq | hq
  · split <;> split <;> omega
  · rw [hq]
    by_cases ht : top ws.length (rest t ws) (left t ws) i = true
    · rw [if_pos ht]
      by_cases htj : top ws.length (rest t ws) (left t ws) j = true
      · rw [if_pos htj]; omega
      · exfalso
        replace htj : top ws.length (rest t ws) (left t ws) j = false := by simpa using htj
        unfold top at ht htj
        rw [decide_eq_true_eq, List.mem_take_iff_getElem] at ht
        obtain ⟨a, ha, ea⟩ := ht
        obtain ⟨b, hb, eb⟩ := List.getElem_of_mem ((order_mem ws.length (rest t ws) j).2 hj)
        rw [decide_eq_false_iff_not, List.mem_take_iff_getElem] at htj
        have hb2 : ¬ b < left t ws := fun hlt => htj ⟨b, by omega, eb⟩
        have hbf := order_lt (n := ws.length) (r := rest t ws) (a := a) (b := b) (by omega) hb
        rw [ea, eb, before_iff] at hbf
        have e1 := Int.emod_add_ediv_mul (t * ws.getD i 0) (sum ws)
        have e2 := Int.emod_add_ediv_mul (t * ws.getD j 0) (sum ws)
        unfold quo at hq
        rw [hq] at e1
        unfold rest at hbf
        by_cases ht0 : t = 0
        · subst ht0
          have hz : sum ((List.range ws.length).map (quo 0 ws)) = 0 := by
            rw [sum_map_congr (g := fun _ => 0), sum_map_const]
            · simp
            · intro i _; unfold quo; simp
          have hl := h.left_eq.1
          rw [hz] at hl
          omega
        · have hm2 : t * ws.getD i 0 < t * ws.getD j 0 := Int.mul_lt_mul_of_pos_left hlt (by have := h.ht; omega)
          omega
    · rw [if_neg ht]; split <;> omega

end Go.Proofs.YtcghhagnibabeaaGreatDoor.Sh
