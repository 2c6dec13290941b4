/-
  PLAIN: lines that are written are read as they were, whatever blanks and comments stand between.
-/
import Derived.Test.YtcghhagnibabeaaGreatDoorWl
namespace Go.Proofs.YtcghhagnibabeaaGreatDoor
namespace Wo
open Go.Lib

/-- What stands between blanks. -/
def wrd (l : List UInt8) : List (List UInt8) := (pcs 32 [] l).filter (· ≠ [])

theorem wds_wrd (l : List UInt8) : wds l = wrd (l.takeWhile (· != 35)) := rfl

theorem wrd_nil : wrd [] = [] := by simp [wrd, pcs]

theorem wrd_blank (l : List UInt8) : wrd (32 :: l) = wrd l := by
  unfold wrd
  rw [pcs, if_pos rfl, List.filter_cons]
  simp

theorem wrd_blanks (n : Nat) (l : List UInt8) : wrd (List.replicate n 32 ++ l) = wrd l := by
  induction n with
  | zero => rfl
  | succ n ih => rw [List.replicate_succ, List.cons_append, wrd_blank, ih]

theorem wrd_word (x l : List UInt8) (hx : x ≠ []) (h : ∀ c ∈ x, c ≠ 32) : wrd (x ++ 32 :: l) = x :: wrd l := by
  unfold wrd
  rw [pcs_hit 32 x l [] h, List.filter_cons, List.nil_append, if_pos (by simpa using hx)]

theorem wrd_one (x : List UInt8) (hx : x ≠ []) (h : ∀ c ∈ x, c ≠ 32) : wrd x = [x] := by
  unfold wrd
  rw [pcs_none 32 x [] h, List.nil_append, List.filter_cons, if_pos (by simpa using hx)]
  rfl

theorem word_byte {x : List UInt8} (h : wordB x = true) : x ≠ [] ∧ ∀ c ∈ x, c ≠ 32 ∧ c ≠ 10 ∧ c ≠ 35 ∧ plainB c = true := by
  simp only [wordB, Bool.and_eq_true, Bool.not_eq_true', List.isEmpty_eq_false_iff, List.all_eq_true, decide_eq_true_eq] at h
  refine ⟨h.1, fun c hc => ?_⟩
  obtain ⟨⟨h1, h2⟩, h3⟩ := h.2 c hc
  refine ⟨?_, ?_, ?_, ?_⟩
  · rintro rfl; exact absurd h1 (by decide)
  · rintro rfl; exact absurd h1 (by decide)
  · rintro rfl; simp at h3
  · simp only [plainB, Bool.or_eq_true, Bool.and_eq_true, decide_eq_true_eq]; right; omega

theorem join_two (x y : List UInt8) (r : List (List UInt8)) (sep : List UInt8) : join (x :: y :: r) sep = x ++ sep ++ join (y :: r) sep := by
  rw [join_cons, join_cons]
  simp [joinTail, List.append_assoc]

/-- Words with some blanks between, and some behind. -/
theorem wrd_join (n m : Nat) (hn : 1 ≤ n) : ∀ ws : List (List UInt8), (∀ x ∈ ws, wordB x = true) → wrd (join ws (List.replicate n 32) ++ List.replicate m 32) = ws
  | [], _ => by
    have := wrd_blanks m []
    rw [List.append_nil] at this
    rw [join_nil, List.nil_append, this, wrd_nil]
  | [x], h => by
    have hx := word_byte (h x List.mem_cons_self)
    rw [join_one]
    cases m with
    | zero => rw [List.replicate_zero, List.append_nil, wrd_one x hx.1 fun c hc => (hx.2 c hc).1]
    | succ m =>
      have := wrd_blanks m []
      rw [List.append_nil] at this
      rw [List.replicate_succ, wrd_word x _ hx.1 (fun c hc => (hx.2 c hc).1), this, wrd_nil]
  | x :: y :: r, h => by
    have hx := word_byte (h x List.mem_cons_self)
    have ih := wrd_join n m hn (y :: r) fun z hz => h z (List.mem_cons_of_mem _ hz)
    obtain ⟨k, rfl⟩ : ∃ k, n = k + 1 := ⟨n - 1, by omega⟩
    rw [join_two, List.append_assoc, List.append_assoc]
    have e : List.replicate (k + 1) (32 : UInt8) ++ (join (y :: r) (List.replicate (k + 1) 32) ++ List.replicate m 32) = 32 :: (List.replicate k 32 ++ (join (y :: r) (List.replicate (k + 1) 32) ++ List.replicate m 32)) := rfl
    rw [e, wrd_word x _ hx.1 (fun c hc => (hx.2 c hc).1), wrd_blanks, ih]

theorem join_mem {p : UInt8 → Prop} (sep : List UInt8) (hs : ∀ c ∈ sep, p c) : ∀ ws : List (List UInt8), (∀ x ∈ ws, ∀ c ∈ x, p c) → ∀ c ∈ join ws sep, p c
  | [], _ => by rw [join_nil]; simp
  | [x], h => by rw [join_one]; exact h x List.mem_cons_self
  | x :: y :: r, h => by
    rw [join_two]
    intro c hc
    rcases List.mem_append.1 hc with hc | hc
    · rcases List.mem_append.1 hc with hc | hc
      · exact h x List.mem_cons_self c hc
      · exact hs c hc
    · exact join_mem sep hs (y :: r) (fun z hz => h z (List.mem_cons_of_mem _ hz)) c hc

theorem takeWhile_all {l : List UInt8} (h : ∀ c ∈ l, c ≠ 35) : l.takeWhile (· != 35) = l := by
  have := List.takeWhile_append_of_pos (p := (· != 35)) (l₁ := l) (l₂ := []) (fun x hx => by simpa using h x hx)
  simpa using this

theorem takeWhile_hash {l r : List UInt8} (h : ∀ c ∈ l, c ≠ 35) : (l ++ 35 :: r).takeWhile (· != 35) = l := by
  rw [List.takeWhile_append_of_pos (fun x hx => by simpa using h x hx)]
  simp

/-- A written line is read. -/
theorem wds_line {ws : List (List UInt8)} (h : ∀ x ∈ ws, wordB x = true) : wds (join ws [32]) = ws := by
  have h35 : ∀ c ∈ join ws [32], c ≠ 35 := join_mem [32] (by intro c hc; simp at hc; subst hc; decide) ws (fun x hx c hc => ((word_byte (h x hx)).2 c hc).2.2.1)
  rw [wds_wrd, takeWhile_all h35]
  have := wrd_join 1 0 (Nat.le_refl _) ws h
  simpa using this

theorem lns_text : ∀ LL : List (List UInt8), (∀ l ∈ LL, ∀ c ∈ l, c ≠ 10) → lns (LL.flatMap fun l => l ++ [10]) = LL
  | [], _ => rfl
  | l :: LL, h => by
    rw [List.flatMap_cons, List.append_assoc, List.singleton_append, lns_hit (h l List.mem_cons_self), lns_text LL fun x hx => h x (List.mem_cons_of_mem _ hx)]

theorem count_text : ∀ LL : List (List UInt8), (∀ l ∈ LL, ∀ c ∈ l, c ≠ 10) → (LL.flatMap fun l => l ++ [10]).count 10 = LL.length
  | [], _ => rfl
  | l :: LL, h => by
    rw [List.flatMap_cons, List.count_append, List.count_append, count_text LL fun x hx => h x (List.mem_cons_of_mem _ hx)]
    have : l.count 10 = 0 := List.count_eq_zero.2 fun hm => h l List.mem_cons_self 10 hm rfl
    rw [this]
    simp
    omega

/-- Whatever lines of plain bytes within the limits are a text. -/
theorem sErr_text {LL : List (List UInt8)} (h10 : ∀ l ∈ LL, ∀ c ∈ l, c ≠ 10) (hp : ∀ l ∈ LL, ∀ c ∈ l, plainB c = true) (h4 : LL.length ≤ 400) (hl : (LL.flatMap fun l => l ++ [10]).length ≤ 16384) : sErr (LL.flatMap fun l => l ++ [10]) = 0 := by
  unfold sErr
  rw [if_neg (by rw [count_text LL h10]; omega), if_neg]
  rintro (⟨h1, h2⟩ | h2)
  · apply h2
    rcases List.eq_nil_or_concat LL with e | ⟨A, l, e⟩
    · rw [e] at h1; exact absurd rfl h1
    · rw [e, List.concat_eq_append, List.flatMap_append]
      simp
  · have : (LL.flatMap fun l => l ++ [10]).all plainB = true := by
      rw [List.all_eq_true]
      intro c hc
      obtain ⟨l, hl, hc⟩ := List.mem_flatMap.1 hc
      rcases List.mem_append.1 hc with hc | hc
      · exact hp l hl c hc
      · simp at hc; subst hc; decide
    rw [this] at h2; cases h2

theorem plain_of_word {x : List UInt8} (h : wordB x = true) : ∀ c ∈ x, plainB c = true := fun c hc => ((word_byte h).2 c hc).2.2.2

/-- What was written is read as it was. -/
theorem back {LL : List (List (List UInt8))} (h : ∀ ws ∈ LL, ∀ x ∈ ws, wordB x = true) (h4 : LL.length ≤ 400) (hl : (jText LL).length ≤ 16384) : jErr LL = 0 ∧ jOut LL = jText LL ∧ sErr (jText LL) = 0 ∧ sList (jText LL) = LL := by
  have hall : (LL.all fun ws => ws.all wordB) = true := by
    rw [List.all_eq_true]; intro ws hw; rw [List.all_eq_true]; exact h ws hw
  have e0 : jErr LL = 0 := by unfold jErr; rw [if_neg (by omega), if_neg (by rw [hall]; simp), if_neg (by omega)]
  have et : jText LL = (LL.map fun ws => join ws [32]).flatMap fun l => l ++ [10] := by
    unfold jText; rw [List.flatMap_map]; rfl
  have h10 : ∀ l ∈ LL.map (fun ws => join ws [32]), ∀ c ∈ l, c ≠ 10 := by
    intro l hl
    obtain ⟨ws, hw, rfl⟩ := List.mem_map.1 hl
    exact join_mem [32] (by intro c hc; simp at hc; subst hc; decide) ws (fun x hx c hc => ((word_byte (h ws hw x hx)).2 c hc).2.1)
  have hp : ∀ l ∈ LL.map (fun ws => join ws [32]), ∀ c ∈ l, plainB c = true := by
    intro l hl
    obtain ⟨ws, hw, rfl⟩ := List.mem_map.1 hl
    exact join_mem [32] (by intro c hc; simp at hc; subst hc; decide) ws (fun x hx => plain_of_word (h ws hw x hx))
  have es : sErr (jText LL) = 0 := by
    rw [et] at hl ⊢
    exact sErr_text h10 hp (by rw [List.length_map]; exact h4) hl
  refine ⟨e0, by unfold jOut; rw [if_pos e0], es, ?_⟩
  unfold sList
  rw [if_pos es, et, lns_text _ h10, List.map_map]
  have : ∀ ws ∈ LL, (wds ∘ fun ws => join ws [32]) ws = ws := fun ws hw => wds_line (h ws hw)
  rw [List.map_congr_left this, List.map_id']

end Wo
end Go.Proofs.YtcghhagnibabeaaGreatDoor
