/-
  PLAIN: lines of words with blanks and remarks between, as WordsBack makes them.
-/
import Derived.Test.YtndikbpmhlhgfaaDoorWt
namespace Go.Proofs.YtndikbpmhlhgfaaDoor
namespace Wo
open Go.Lib

/-- A line with blanks: a ahead, b between the words, and something behind. -/
def mln (a b : Nat) (ws : List (List UInt8)) (suf : List UInt8) : List UInt8 := List.replicate a 32 ++ (join ws (List.replicate b 32) ++ suf)

/-- What WordsBack lays behind the words of a line. -/
def sufs : List (List UInt8) := [[], [32], [32, 35, 32, 97, 32, 98], [35]]
/-- The words that WordsBack writes. -/
def fiveW : List (List UInt8) := [[97], [98, 55], [45, 51], [40], [120, 46, 121]]

theorem five_word : ∀ x ∈ fiveW, wordB x = true ∧ x.length ≤ 3 := by decide

theorem join_len (sep : List UInt8) : ∀ ws : List (List UInt8), (∀ x ∈ ws, x.length ≤ 3) → (join ws sep).length ≤ ws.length * (3 + sep.length)
  | [], _ => by rw [join_nil]; simp
  | [x], h => by
    have := h x List.mem_cons_self
    rw [join_one]; simp; omega
  | x :: y :: r, h => by
    have := h x List.mem_cons_self
    have ih := join_len sep (y :: r) fun z hz => h z (List.mem_cons_of_mem _ hz)
    rw [join_two, List.length_append, List.length_append, List.length_cons, Nat.add_mul]
    omega

theorem no35_join {b : Nat} {ws : List (List UInt8)} (h : ∀ x ∈ ws, wordB x = true) : ∀ c ∈ join ws (List.replicate b 32), c ≠ 35 :=
  join_mem _ (fun c hc => by obtain rfl := List.eq_of_mem_replicate hc; decide) ws fun x hx c hc => ((word_byte (h x hx)).2 c hc).2.2.1

theorem tw_mln (a b : Nat) {ws : List (List UInt8)} (h : ∀ x ∈ ws, wordB x = true) (m : Nat) :
    (List.replicate a 32 ++ (join ws (List.replicate b 32) ++ List.replicate m 32)).takeWhile (· != 35) = List.replicate a 32 ++ (join ws (List.replicate b 32) ++ List.replicate m 32) ∧
    ∀ r, (List.replicate a 32 ++ (join ws (List.replicate b 32) ++ List.replicate m 32) ++ 35 :: r).takeWhile (· != 35) = List.replicate a 32 ++ (join ws (List.replicate b 32) ++ List.replicate m 32) := by
  have hk : ∀ c ∈ List.replicate a (32 : UInt8) ++ (join ws (List.replicate b 32) ++ List.replicate m 32), c ≠ 35 := by
    intro c hc
    rcases List.mem_append.1 hc with hc | hc
    · obtain rfl := List.eq_of_mem_replicate hc; decide
    rcases List.mem_append.1 hc with hc | hc
    · exact no35_join h c hc
    · obtain rfl := List.eq_of_mem_replicate hc; decide
  exact ⟨takeWhile_all hk, fun r => takeWhile_hash hk⟩

theorem wds_mln (a b : Nat) (hb : 1 ≤ b) {ws : List (List UInt8)} (h : ∀ x ∈ ws, wordB x = true) {suf : List UInt8} (hs : suf ∈ sufs) : wds (mln a b ws suf) = ws := by
  have t := tw_mln a b h
  have j := fun m => wrd_join b m hb ws h
  have fin : ∀ m, wrd (List.replicate a 32 ++ (join ws (List.replicate b 32) ++ List.replicate m 32)) = ws := fun m => by rw [wrd_blanks, j m]
  unfold mln
  rw [wds_wrd]
  simp only [sufs, List.mem_cons, List.not_mem_nil, or_false] at hs
  rcases hs with rfl | rfl | rfl | rfl
  · have e : List.replicate a (32 : UInt8) ++ (join ws (List.replicate b 32) ++ []) = List.replicate a 32 ++ (join ws (List.replicate b 32) ++ List.replicate 0 32) := rfl
    rw [e, (t 0).1, fin]
  · have e : List.replicate a (32 : UInt8) ++ (join ws (List.replicate b 32) ++ [32]) = List.replicate a 32 ++ (join ws (List.replicate b 32) ++ List.replicate 1 32) := rfl
    rw [e, (t 1).1, fin]
  · have e : List.replicate a (32 : UInt8) ++ (join ws (List.replicate b 32) ++ [32, 35, 32, 97, 32, 98]) = List.replicate a 32 ++ (join ws (List.replicate b 32) ++ List.replicate 1 32) ++ 35 :: [32, 97, 32, 98] := by
      simp [List.append_assoc]
    rw [e, (t 1).2, fin]
  · have e : List.replicate a (32 : UInt8) ++ (join ws (List.replicate b 32) ++ [35]) = List.replicate a 32 ++ (join ws (List.replicate b 32) ++ List.replicate 0 32) ++ 35 :: [] := by
      simp [List.append_assoc]
    rw [e, (t 0).2, fin]

theorem sufs_byte : ∀ s ∈ sufs, s.length ≤ 6 ∧ ∀ c ∈ s, c ≠ 10 ∧ plainB c = true := by decide

theorem byte_mln {a b : Nat} {ws : List (List UInt8)} (h : ∀ x ∈ ws, wordB x = true) {suf : List UInt8} (hs : suf ∈ sufs) : ∀ c ∈ mln a b ws suf, c ≠ 10 ∧ plainB c = true := by
  unfold mln
  intro c hc
  rcases List.mem_append.1 hc with hc | hc
  · obtain rfl := List.eq_of_mem_replicate hc; decide
  rcases List.mem_append.1 hc with hc | hc
  · exact join_mem (p := fun c => c ≠ 10 ∧ plainB c = true) _ (fun c hc => by obtain rfl := List.eq_of_mem_replicate hc; decide) ws (fun x hx c hc => ⟨((word_byte (h x hx)).2 c hc).2.1, ((word_byte (h x hx)).2 c hc).2.2.2⟩) c hc
  · exact (sufs_byte _ hs).2 c hc

/-- Lines that were written, and what is read from them. -/
structure Mess (ML : List (List UInt8)) (LL : List (List (List UInt8))) : Prop where
  rd : ML.map wds = LL
  by_ : ∀ l ∈ ML, ∀ c ∈ l, c ≠ 10 ∧ plainB c = true
  len : ∀ l ∈ ML, l.length ≤ 40
  good : ∀ ws ∈ LL, (∀ x ∈ ws, wordB x = true ∧ x.length ≤ 3) ∧ ws.length ≤ 3

theorem Mess.nil : Mess [] [] := ⟨rfl, (fun l h => by cases h), (fun l h => by cases h), (fun l h => by cases h)⟩

theorem Mess.snoc {ML : List (List UInt8)} {LL : List (List (List UInt8))} (h : Mess ML LL) {a b : Nat} (ha : a ≤ 2) (hb : 1 ≤ b) (hb3 : b ≤ 3) {ws : List (List UInt8)} (hw : ∀ x ∈ ws, x ∈ fiveW) (h3 : ws.length ≤ 3) {suf : List UInt8} (hs : suf ∈ sufs) :
    Mess (ML ++ [mln a b ws suf]) (LL ++ [ws]) := by
  have hw1 : ∀ x ∈ ws, wordB x = true := fun x hx => (five_word x (hw x hx)).1
  have hw2 : ∀ x ∈ ws, x.length ≤ 3 := fun x hx => (five_word x (hw x hx)).2
  refine ⟨by rw [List.map_append, h.rd, List.map_singleton, wds_mln a b hb hw1 hs], ?_, ?_, ?_⟩
  · intro l hl
    rcases List.mem_append.1 hl with hl | hl
    · exact h.by_ l hl
    · obtain rfl := List.mem_singleton.1 hl; exact byte_mln hw1 hs
  · intro l hl
    rcases List.mem_append.1 hl with hl | hl
    · exact h.len l hl
    · obtain rfl := List.mem_singleton.1 hl
      have h1 := join_len (List.replicate b 32) ws hw2
      have h2 := (sufs_byte _ hs).1
      have h4 : ws.length * (3 + (List.replicate b (32 : UInt8)).length) ≤ 3 * (3 + (List.replicate b (32 : UInt8)).length) := Nat.mul_le_mul_right _ h3
      simp only [List.length_replicate] at h1 h4
      simp only [mln, List.length_append, List.length_replicate]
      omega
  · intro x hx
    rcases List.mem_append.1 hx with hx | hx
    · exact h.good x hx
    · obtain rfl := List.mem_singleton.1 hx; exact ⟨fun y hy => ⟨hw1 y hy, hw2 y hy⟩, h3⟩

theorem jText_len : ∀ LL : List (List (List UInt8)), (∀ ws ∈ LL, (∀ x ∈ ws, wordB x = true ∧ x.length ≤ 3) ∧ ws.length ≤ 3) → (jText LL).length ≤ LL.length * 13
  | [], _ => by simp [jText]
  | ws :: LL, h => by
    have ih := jText_len LL fun x hx => h x (List.mem_cons_of_mem _ hx)
    have hw := h ws List.mem_cons_self
    have h1 := join_len [32] ws fun x hx => (hw.1 x hx).2
    unfold jText at ih ⊢
    rw [List.flatMap_cons, List.length_append, List.length_cons]
    simp only [lineT, List.length_append, List.length_cons, List.length_nil] at h1 ⊢
    have h2 := hw.2
    omega

theorem mess_len : ∀ ML : List (List UInt8), (∀ l ∈ ML, l.length ≤ 40) → (ML.flatMap fun l => l ++ [10]).length ≤ ML.length * 41
  | [], _ => by simp
  | l :: ML, h => by
    have ih := mess_len ML fun x hx => h x (List.mem_cons_of_mem _ hx)
    have hl := h l List.mem_cons_self
    rw [List.flatMap_cons, List.length_append, List.length_append, List.length_cons, List.length_cons, List.length_nil]
    omega

theorem Mess.fin {ML : List (List UInt8)} {LL : List (List (List UInt8))} (h : Mess ML LL) (h5 : ML.length ≤ 5) :
    (sErr (ML.flatMap fun l => l ++ [10]) = 0 ∧ sList (ML.flatMap fun l => l ++ [10]) = LL) ∧ (jErr LL = 0 ∧ jOut LL = jText LL ∧ sErr (jText LL) = 0 ∧ sList (jText LL) = LL) := by
  have h10 : ∀ l ∈ ML, ∀ c ∈ l, c ≠ 10 := fun l hl c hc => (h.by_ l hl c hc).1
  have hlen := mess_len ML h.len
  have hs := sErr_text h10 (fun l hl c hc => (h.by_ l hl c hc).2) (by omega) (by omega)
  have hl5 : LL.length ≤ 5 := by rw [← h.rd, List.length_map]; exact h5
  have hj := jText_len LL h.good
  refine ⟨⟨hs, ?_⟩, back (fun ws hw x hx => ((h.good ws hw).1 x hx).1) (by omega) (by omega)⟩
  unfold sList
  rw [if_pos hs, lns_text ML h10, h.rd]

end Wo
end Go.Proofs.YtndikbpmhlhgfaaDoor
