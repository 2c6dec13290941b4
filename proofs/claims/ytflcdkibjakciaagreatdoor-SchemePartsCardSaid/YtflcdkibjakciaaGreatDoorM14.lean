/-
  MERGED (mergek.py): the texts W9, Cs, Sd.
-/
import Derived.Test.YtflcdkibjakciaaGreatDoorW8
import Derived.Test.YtflcdkibjakciaaGreatDoorM13
import Derived.Test.YtflcdkibjakciaaGreatDoorM2
import Derived.Test.YtflcdkibjakciaaGreatDoorM11

namespace Go.Proofs.YtflcdkibjakciaaGreatDoor
open Go.RowKit

/-- Lines as lists of bytes. -/
def lb (LL : List (List ByteArray)) : List (List (List UInt8)) := LL.map fun ws => ws.map (·.data.toList)

def JoinGive (LL : List (List ByteArray)) (w : World) (e : Ending) (w' : World) : Prop :=
  e = .returned (.tuple #[.string ⟨(Wo.jOut (lb LL)).toArray⟩, .int .i64 (Wo.jErr (lb LL))]) ∧ Below w.heap.size w w'

theorem ret_si {a b : ByteArray} {c d : Int} (h : a = b) (k : c = d) : Ending.returned (.tuple #[.string a, .int .i64 c]) = .returned (.tuple #[.string b, .int .i64 d]) := by rw [h, k]

theorem join_bad {LL : List (List ByteArray)} {er : Int} (h : Wo.jErr (lb LL) = er) (hne : er ≠ 0) (w w' : World) (hb : Below w.heap.size w w') : JoinGive LL w (.returned (.tuple #[.string ⟨#[]⟩, .int .i64 er])) w' :=
  ⟨ret_si (by unfold Wo.jOut; rw [if_neg (by rw [h]; exact hne)]) h.symm, hb⟩

theorem lb_len (LL : List (List ByteArray)) : (lb LL).length = LL.length := by unfold lb; rw [List.length_map]
theorem lb_take (LL : List (List ByteArray)) (k : Nat) : lb (LL.take k) = (lb LL).take k := by unfold lb; rw [List.map_take]
theorem lb_snoc (LL : List (List ByteArray)) (k : Nat) (h : k < LL.length) : lb (LL.take (k + 1)) = lb (LL.take k) ++ [LL[k].map (·.data.toList)] := by
  unfold lb; rw [List.take_succ_eq_append_getElem h, List.map_append]; rfl

theorem jText_take (LL : List (List (List UInt8))) (k : Nat) : (Wo.jText (LL.take k)).length ≤ (Wo.jText LL).length := by
  conv => rhs; rw [← List.take_append_drop k LL]
  unfold Wo.jText
  rw [List.flatMap_append, List.length_append]
  omega

/-- A word that is none spoils all. -/
theorem jErr_bad {LL : List (List ByteArray)} (h4 : LL.length ≤ 400) {ws : List ByteArray} (hw : ws ∈ LL) {y : ByteArray} (hy : y ∈ ws) (h : Wo.wordB y.data.toList = false) : Wo.jErr (lb LL) = 4 := by
  unfold Wo.jErr
  rw [if_neg (by rw [lb_len]; omega), if_pos]
  rw [Bool.eq_false_iff]
  intro ha
  rw [List.all_eq_true] at ha
  have h1 := ha (ws.map (·.data.toList)) (by unfold lb; exact List.mem_map.2 ⟨ws, hw, rfl⟩)
  rw [List.all_eq_true] at h1
  have h2 := h1 y.data.toList (List.mem_map.2 ⟨y, hy, rfl⟩)
  rw [h] at h2
  cases h2

theorem jErr_long {LL : List (List ByteArray)} (h : 400 < LL.length) : Wo.jErr (lb LL) = 1 := by unfold Wo.jErr; rw [if_pos (by rw [lb_len]; exact h)]

def okB (c : UInt8) : Bool := decide (33 ≤ (c.toNat : Int)) && decide ((c.toNat : Int) ≤ 126) && !(c == 35)

theorem wordB_eq (l : List UInt8) : Wo.wordB l = (!l.isEmpty && l.all okB) := rfl

theorem ok_kinds (c : UInt8) : ((c.toNat : Int) < 33 ∧ okB c = false) ∨ (126 < (c.toNat : Int) ∧ okB c = false) ∨ (33 ≤ (c.toNat : Int) ∧ (c.toNat : Int) ≤ 126 ∧ ((c.toNat : Int) == 35) = true ∧ okB c = false) ∨ (33 ≤ (c.toNat : Int) ∧ (c.toNat : Int) ≤ 126 ∧ ((c.toNat : Int) == 35) = false ∧ okB c = true) := by
  have e : (c == 35) = decide ((c.toNat : Int) = 35) := by
    rw [Bool.eq_iff_iff, beq_iff_eq, decide_eq_true_eq]
    constructor
    · rintro rfl; rfl
    · intro h; exact UInt8.toNat_inj.1 (by rw [show c.toNat = 35 by omega]; rfl)
  simp only [okB, e, Bool.and_eq_true, Bool.and_eq_false_iff, Bool.not_eq_true', Bool.not_eq_false', decide_eq_true_eq, decide_eq_false_iff_not, beq_iff_eq, beq_eq_false_iff_ne]
  omega

def JnGive (ws : List ByteArray) (w : World) (e : Ending) (w' : World) : Prop := e = .returned (.string ⟨(Lib.join (ws.map (·.data.toList)) [32]).toArray⟩) ∧ Below w.heap.size w w'

theorem join32_any (q : Option Addr) (ws : List ByteArray) (c : Nat) (w : World) (h : Recs SB w q ws) (hc : ws.length ≤ c) (hl : (Lib.join (ws.map (·.data.toList)) [32]).length ≤ 140737488355328) (hn : ws.length ≤ 140737488355328) :
    Calls Tryz.prog 69 #[.slice q ws.length c, .string ⟨#[32]⟩] w (JnGive ws w) := by
  rcases h.2 with e | ⟨b, off, rfl, hb, hcell⟩
  · subst e
    exact (Tryz.strings_Join_none q c ⟨#[32]⟩ w).mono fun e w' ⟨he, hw⟩ => ⟨he, hw ▸ Below.refl _ _⟩
  · exact (Tryz.strings_Join b off c ws ⟨#[32]⟩ w (fun j x hx => hcell j _ (by rw [flat_str, List.getElem?_map, hx]; rfl)) hb hn hc hl).mono fun e w' ⟨he, hw⟩ => ⟨he, hw⟩


end Go.Proofs.YtflcdkibjakciaaGreatDoor

namespace Go.Proofs.YtflcdkibjakciaaGreatDoor
namespace Cr
open Go.Lib

/-- The words of a crop's line. -/
def lineW (c : Crp) : List (List UInt8) := [[99, 114, 111, 112], c.nm.data.toList, itoa c.fam, mword c.mrk.toNat]
/-- The text of a catalogue. -/
def pText (L : List Crp) : List UInt8 := Wo.jText (L.map lineW)

theorem one_ok {c : Crp} (h : cErr c = 0) : Wo.nameB c.nm.data.toList = true ∧ 0 ≤ c.fam ∧ c.fam ≤ 40 ∧ 0 ≤ c.mrk ∧ c.mrk ≤ 31 := by
  unfold cErr at h
  split at h
  · cases h
  rename_i h1
  split at h
  · cases h
  rename_i h2
  split at h
  · cases h
  rename_i h3
  exact ⟨by simpa using h1, by omega, by omega, by omega, by omega⟩

theorem one_of {c : Crp} (h1 : Wo.nameB c.nm.data.toList = true) (h2 : 0 ≤ c.fam ∧ c.fam ≤ 40) (h3 : 0 ≤ c.mrk ∧ c.mrk ≤ 31) : cErr c = 0 := by
  unfold cErr
  rw [if_neg (by rw [h1]; simp), if_neg (by omega), if_neg (by omega)]

theorem name_word {l : List UInt8} (h : Wo.nameB l = true) : Wo.wordB l = true ∧ l.length ≤ 12 := by
  unfold Wo.nameB at h
  simp only [Bool.and_eq_true, decide_eq_true_eq] at h
  obtain ⟨h1, h2, h3⟩ := h
  refine ⟨?_, h3⟩
  unfold Wo.wordB
  rw [Bool.and_eq_true, List.all_eq_true]
  have key : ∀ c ∈ l, Wo.letB c = true ∨ Wo.digB c = true := by
    cases l with
    | nil => intro c hc; cases hc
    | cons a r =>
      unfold Wo.headB at h1
      simp only [Bool.and_eq_true, List.all_eq_true, Bool.or_eq_true] at h1
      intro c hc
      rcases List.mem_cons.1 hc with rfl | hc
      · exact .inl h1.1
      · exact h1.2 c hc
  refine ⟨by cases l with | nil => simp at h2 | cons a r => rfl, fun c hc => ?_⟩
  rcases key c hc with hk | hk
  · simp only [Wo.letB, Bool.and_eq_true, decide_eq_true_eq] at hk
    have : ¬ c = 35 := by rintro rfl; revert hk; decide
    simp only [Bool.and_eq_true, decide_eq_true_eq, Bool.not_eq_true', beq_eq_false_iff_ne]
    exact ⟨⟨by omega, by omega⟩, this⟩
  · simp only [Wo.digB, Bool.and_eq_true, decide_eq_true_eq] at hk
    have : ¬ c = 35 := by rintro rfl; revert hk; decide
    simp only [Bool.and_eq_true, decide_eq_true_eq, Bool.not_eq_true', beq_eq_false_iff_ne]
    exact ⟨⟨by omega, by omega⟩, this⟩

theorem fam_word : ∀ n : Nat, n ≤ 40 → Wo.wordB (itoa (n : Int)) = true ∧ (itoa (n : Int)).length ≤ 2 := by
  have : ∀ n, n < 41 → Wo.wordB (itoa ((n : Nat) : Int)) = true ∧ (itoa ((n : Nat) : Int)).length ≤ 2 := by decide +kernel
  exact fun n h => this n (by omega)

theorem mark_word : ∀ m : Nat, m < 32 → Wo.wordB (mword m) = true ∧ (mword m).length ≤ 5 := by decide +kernel

theorem line_words {c : Crp} (h : cErr c = 0) : ∀ x ∈ lineW c, Wo.wordB x = true ∧ x.length ≤ 12 := by
  obtain ⟨h1, h2, h3, h4, h5⟩ := one_ok h
  have hf := fam_word c.fam.toNat (by omega)
  rw [Int.toNat_of_nonneg h2] at hf
  have hm := mark_word c.mrk.toNat (by omega)
  intro x hx
  simp only [lineW, List.mem_cons, List.not_mem_nil, or_false] at hx
  rcases hx with rfl | rfl | rfl | rfl
  · decide
  · exact name_word h1
  · exact ⟨hf.1, by omega⟩
  · exact ⟨hm.1, by omega⟩

theorem pText_len : ∀ L : List Crp, (∀ c ∈ L, cErr c = 0) → (pText L).length ≤ L.length * 60
  | [], _ => by simp [pText, Wo.jText]
  | c :: L, h => by
    have ih := pText_len L fun x hx => h x (List.mem_cons_of_mem _ hx)
    have hw := line_words (h c List.mem_cons_self)
    obtain ⟨a1, a2, a3, a4⟩ : ([99, 114, 111, 112] : List UInt8).length ≤ 12 ∧ c.nm.data.toList.length ≤ 12 ∧ (itoa c.fam).length ≤ 12 ∧ (mword c.mrk.toNat).length ≤ 12 :=
      ⟨by decide, (hw _ (by simp [lineW])).2, (hw _ (by simp [lineW])).2, (hw _ (by simp [lineW])).2⟩
    unfold pText Wo.jText at ih ⊢
    rw [List.map_cons, List.flatMap_cons, List.length_append, List.length_cons]
    have : (Wo.lineT (lineW c)).length ≤ 60 := by
      simp only [Wo.lineT, lineW, Wo.join_two, Lib.join_one, List.length_append, List.length_cons, List.length_nil] at a1 a2 a3 a4 ⊢
      omega
    omega

/-- A printed catalogue is a text of its lines. -/
theorem print_back {L : List Crp} (h : Right L) : Wo.jErr (L.map lineW) = 0 ∧ Wo.jOut (L.map lineW) = pText L ∧ Wo.sErr (pText L) = 0 ∧ Wo.sList (pText L) = L.map lineW :=
  Wo.back (fun ws hw x hx => by
    obtain ⟨c, hc, rfl⟩ := List.mem_map.1 hw
    exact (line_words (h.each c hc) x hx).1) (by rw [List.length_map]; have := h.len; omega) (by
    have := pText_len L h.each
    have := h.len
    unfold pText at *
    omega)

theorem num_back {n : Int} (h0 : 0 ≤ n) (h1 : n ≤ 40) : Wo.numB (itoa n) 0 40 = true ∧ Wo.numV (itoa n) 0 40 = n := by
  have hO := Wo.numO_itoa n (by omega) (by omega)
  unfold Wo.numB Wo.numV
  rw [hO]
  simp only
  rw [if_neg (by omega), if_neg (by omega)]
  exact ⟨rfl, rfl⟩

/-- The line of a crop is read as it. -/
theorem lineC_back {c : Crp} (h : cErr c = 0) : lineC ((lineW c).map bs) = some c := by
  obtain ⟨h1, h2, h3, h4, h5⟩ := one_ok h
  obtain ⟨n1, n2⟩ := num_back h2 h3
  show (if ([99, 114, 111, 112] : List UInt8) = [99, 114, 111, 112] ∧ Wo.nameB c.nm.data.toList = true ∧ Wo.numB (itoa c.fam) 0 40 = true then (unm (mword c.mrk.toNat)).map fun (k : Nat) => (⟨bs c.nm.data.toList, Wo.numV (itoa c.fam) 0 40, (k : Int)⟩ : Crp) else none) = some c
  rw [if_pos ⟨rfl, h1, n1⟩, unm_mword (by omega), n2]
  show some (⟨bs c.nm.data.toList, c.fam, (c.mrk.toNat : Int)⟩ : Crp) = some c
  have e1 : bs c.nm.data.toList = c.nm := rfl
  rw [e1, Int.toNat_of_nonneg h4]

theorem lineC_right {w : List ByteArray} {c : Crp} (h : lineC w = some c) : cErr c = 0 := by
  unfold lineC at h
  split at h
  · split at h
    · rename_i a b f m hc
      obtain ⟨hc1, hc2, hc3⟩ := hc
      cases hu : unm m.data.toList with
      | none => rw [hu] at h; cases h
      | some k =>
        rw [hu] at h
        injection h with h
        subst h
        obtain ⟨k1, -⟩ := unm_some hu
        refine one_of hc2 ?_ ⟨by simp, by show (k : Int) ≤ 31; omega⟩
        show 0 ≤ Wo.numV f.data.toList 0 40 ∧ Wo.numV f.data.toList 0 40 ≤ 40
        unfold Wo.numV
        split
        · split
          · decide
          · omega
        · decide
    · cases h
  · cases h

end Cr
end Go.Proofs.YtflcdkibjakciaaGreatDoor

namespace Go.Proofs.YtflcdkibjakciaaGreatDoor
namespace Sc
open Go.Lib Te Cr

/-- What a right scheme is. -/
theorem one_parts {s : Sch} (h : one17 s = 0) : 0 ≤ s.num ∧ s.num ≤ 15 ∧ 0 ≤ s.least ∧ s.least ≤ 268435456 ∧ chkT s.cond = 0 ∧ brB s.br = true ∧ (0 ≤ s.ex ∧ s.ex < 65536) ∧ Wo.nameB s.nm.data.toList = true := by
  unfold one17 at h
  split at h
  · cases h
  rename_i g1
  split at h
  · cases h
  rename_i g2
  split at h
  · rename_i h1; exact absurd h h1
  rename_i g3
  split at h
  · cases h
  rename_i g4
  refine ⟨by omega, by omega, by omega, by omega, by omega, ?_, ⟨by omega, by omega⟩, by simpa using g2⟩
  cases e : brB s.br
  · exact absurd (.inl e) g4
  · rfl

theorem brB_len {l : List Brk} (h : brB l = true) : 1 ≤ l.length ∧ l.length ≤ 6 := by
  unfold brB at h
  rw [Bool.and_eq_true, Bool.and_eq_true, decide_eq_true_eq, decide_eq_true_eq] at h
  exact h.2

theorem brB_all {l : List Brk} (h : brB l = true) : brAll l l.length = true := by
  unfold brB at h
  rw [Bool.and_eq_true] at h
  exact h.1

/-- What a right row of brackets says at one of them. -/
theorem br_right {l : List Brk} {k : Nat} (hk : k < l.length) (h : brAll l (k + 1) = true) : upB l k < l[k].up ∧ l[k].up ≤ 268435456 ∧ 0 ≤ l[k].rate ∧ l[k].rate ≤ 1048576 ∧ 0 ≤ upB l k := by
  have h2 := h
  rw [brAll_succ, Bool.and_eq_true] at h2
  have h3 := h2.2
  rw [brAt_some hk, Bool.and_eq_true, Bool.and_eq_true, Bool.and_eq_true, decide_eq_true_eq, decide_eq_true_eq, decide_eq_true_eq, decide_eq_true_eq] at h3
  exact ⟨h3.1, h3.2.1, h3.2.2.1, h3.2.2.2, upB_nonneg (by omega) h2.1⟩

theorem br_each {l : List Brk} (h : brB l = true) : ∀ b ∈ l, 0 ≤ b.up ∧ b.up ≤ 268435456 ∧ 0 ≤ b.rate ∧ b.rate ≤ 1048576 := by
  intro b hb
  obtain ⟨k, hk, rfl⟩ := List.mem_iff_getElem.1 hb
  obtain ⟨h1, h2, h3, h4, h5⟩ := br_right hk (brAll_mono (by omega) (brB_all h))
  exact ⟨by omega, h2, h3, h4⟩

/-! ### words -/
theorem dig_byte {c : UInt8} (h : Wo.digB c = true) : (decide (33 ≤ (c.toNat : Int)) && decide ((c.toNat : Int) ≤ 126) && !(c == 35)) = true := by
  unfold Wo.digB at h
  rw [Bool.and_eq_true, decide_eq_true_eq, decide_eq_true_eq] at h
  rw [Bool.and_eq_true, Bool.and_eq_true, decide_eq_true_eq, decide_eq_true_eq, Bool.not_eq_true', beq_eq_false_iff_ne]
  refine ⟨⟨by omega, by omega⟩, fun e => ?_⟩
  subst e
  have : ((35 : UInt8).toNat : Int) = 35 := rfl
  omega

theorem itoa_word {n : Int} (h : 0 ≤ n) : Wo.wordB (itoa n) = true := by
  obtain ⟨u, rfl⟩ := Int.eq_ofNat_of_zero_le h
  have e : itoa (u : Int) = decDigits u := by unfold itoa; simp
  rw [e]
  unfold Wo.wordB
  rw [Bool.and_eq_true, Bool.not_eq_true', List.isEmpty_eq_false_iff]
  refine ⟨Wo.decDigits_ne u, List.all_eq_true.2 fun c hc => dig_byte (List.all_eq_true.1 (Wo.decDigits_digs u) c hc)⟩

theorem opW_word : ∀ o : Int, 1 ≤ o → o ≤ 11 → Wo.wordB (opW o) = true := by
  intro o h1 h2
  have : o = 1 ∨ o = 2 ∨ o = 3 ∨ o = 4 ∨ o = 5 ∨ o = 6 ∨ o = 7 ∨ o = 8 ∨ o = 9 ∨ o = 10 ∨ o = 11 := by omega
  rcases this with rfl | rfl | rfl | rfl | rfl | rfl | rfl | rfl | rfl | rfl | rfl <;> decide

theorem mword_word {m : Int} (h : single m = true) : Wo.wordB (mword m.toNat) = true := by
  have h2 : m = 1 ∨ m = 2 ∨ m = 4 ∨ m = 8 ∨ m = 16 := by unfold single at h; simp only [Bool.or_eq_true, beq_iff_eq] at h; omega
  exact (mark_word m.toNat (by omega)).1

mutual
theorem textW_words : ∀ t : Tm, form t = true → ∀ x ∈ textW t, Wo.wordB x = true
  | .mk o n m K => fun h x hx => by
    obtain ⟨o1, o2⟩ := form_op h
    have hw := opW_word o o1 o2
    rw [form, Bool.and_eq_true] at h
    have hL := textL_words K h.2
    have hs := h.1
    rw [textW] at hx
    rcases List.mem_cons.1 hx with rfl | hx
    · exact hw
    by_cases h1 : o = 1
    · rw [if_pos h1] at hx; cases hx
    rw [if_neg h1] at hx
    by_cases h4 : o = 4
    · subst h4
      simp [selfB] at hs
      rw [if_pos rfl, List.mem_singleton] at hx
      subst hx
      exact mword_word hs.1.1
    rw [if_neg h4] at hx
    by_cases h7 : o = 7
    · subst h7
      simp [selfB] at hs
      rw [if_pos rfl, List.mem_cons, List.mem_singleton] at hx
      rcases hx with rfl | rfl
      · exact itoa_word (by omega)
      · exact mword_word hs.1.2
    rw [if_neg h7] at hx
    by_cases h11 : o = 11
    · rw [if_pos h11] at hx
      exact hL x hx
    rw [if_neg h11] at hx
    by_cases h9 : o = 9 ∨ o = 10
    · rw [if_pos h9, List.mem_cons, List.mem_append, List.mem_singleton] at hx
      rcases hx with rfl | hx | rfl
      · decide
      · exact hL x hx
      · decide
    rw [if_neg h9, List.mem_singleton] at hx
    subst hx
    have hb : 0 ≤ n := by
      unfold selfB at hs
      repeat' split at hs
      all_goals first | omega | (simp at hs) | (cases hs)
      all_goals omega
    exact itoa_word hb
theorem textL_words : ∀ K : List Tm, formL K = true → ∀ x ∈ textL K, Wo.wordB x = true
  | [], _ => fun x hx => by rw [textL] at hx; cases hx
  | k :: r, h => fun x hx => by
    rw [formL, Bool.and_eq_true] at h
    rw [textL] at hx
    rcases List.mem_append.1 hx with hx | hx
    · exact textW_words k h.1 x hx
    · exact textL_words r h.2 x hx
end

theorem head_words {s : Sch} (h : one17 s = 0) : ∀ x ∈ headW s, Wo.wordB x = true := by
  obtain ⟨h1, h2, h3, h4, -, -, -, h8⟩ := one_parts h
  intro x hx
  unfold headW at hx
  rcases List.mem_append.1 hx with hx | hx
  · simp only [List.mem_cons, List.not_mem_nil, or_false] at hx
    rcases hx with rfl | rfl | rfl | rfl
    · decide
    · exact itoa_word h1
    · exact (name_word h8).1
    · exact itoa_word h3
  · split at hx
    · rw [List.mem_singleton] at hx; subst hx; decide
    · cases hx

theorem nots_words (x : Int) (n : Nat) : ∀ ws ∈ notsTo x n, ∀ y ∈ ws, Wo.wordB y = true := by
  intro ws hws y hy
  unfold notsTo at hws
  obtain ⟨i, -, hi⟩ := List.mem_flatMap.1 hws
  split at hi
  · rw [List.mem_singleton] at hi
    subst hi
    simp only [List.mem_cons, List.not_mem_nil, or_false] at hy
    rcases hy with rfl | rfl
    · decide
    · exact itoa_word (Int.natCast_nonneg i)
  · cases hi

theorem linesS_words {s : Sch} (h : one17 s = 0) : ∀ ws ∈ linesS s, ∀ y ∈ ws, Wo.wordB y = true := by
  obtain ⟨-, -, -, -, h5, h6, -, -⟩ := one_parts h
  intro ws hws y hy
  unfold linesS at hws
  rcases List.mem_cons.1 hws with rfl | hws
  · exact head_words h y hy
  rcases List.mem_cons.1 hws with rfl | hws
  · rcases List.mem_cons.1 hy with rfl | hy
    · decide
    · exact textW_words s.cond (chkT_ok h5).2.2 y hy
  rcases List.mem_append.1 hws with hws | hws
  · obtain ⟨b, hb, rfl⟩ := List.mem_map.1 hws
    obtain ⟨b1, -, b3, -⟩ := br_each h6 b hb
    simp only [rateW, List.mem_cons, List.not_mem_nil, or_false] at hy
    rcases hy with rfl | rfl | rfl
    · decide
    · exact itoa_word b1
    · exact itoa_word b3
  · exact nots_words _ _ ws hws y hy

/-! ### how long -/
theorem jText_append (A B : List (List (List UInt8))) : Wo.jText (A ++ B) = Wo.jText A ++ Wo.jText B := List.flatMap_append
theorem jText_cons (a : List (List UInt8)) (B : List (List (List UInt8))) : Wo.jText (a :: B) = Wo.lineT a ++ Wo.jText B := rfl

theorem head_len {s : Sch} (h : one17 s = 0) : (Wo.lineT (headW s)).length ≤ 60 := by
  obtain ⟨h1, h2, h3, h4, -, -, -, h8⟩ := one_parts h
  have a1 := itoa_le (n := s.num) h1 (k := 9) (by omega) (by omega)
  have a2 := itoa_le (n := s.least) h3 (k := 9) (by omega) (by omega)
  have a3 := (name_word h8).2
  unfold headW
  cases s.needs <;> simp [Wo.lineT, Wo.join_two, Lib.join_one, wScheme, wEnt] at a3 ⊢ <;> omega

theorem cond_len {t : Tm} (h : chkT t = 0) : (Wo.lineT (wIf :: textW t)).length ≤ 490 := by
  obtain ⟨h1, -, h3⟩ := chkT_ok h
  have a := tS_len t h3
  rw [tS_join] at a
  obtain ⟨x, r, e⟩ : ∃ x r, textW t = x :: r := by cases t; exact ⟨_, _, by rw [textW]⟩
  rw [e] at a ⊢
  unfold Wo.lineT
  rw [Wo.join_two]
  simp only [List.length_append, List.length_cons, List.length_nil, wIf]
  omega

theorem rate_len {b : Brk} (h : 0 ≤ b.up ∧ b.up ≤ 268435456 ∧ 0 ≤ b.rate ∧ b.rate ≤ 1048576) : (Wo.lineT (rateW b)).length ≤ 30 := by
  have a1 := itoa_le (n := b.up) h.1 (k := 9) (by omega) (by omega)
  have a2 := itoa_le (n := b.rate) h.2.2.1 (k := 9) (by omega) (by omega)
  simp only [Wo.lineT, rateW, Wo.join_two, Lib.join_one, List.length_append, List.length_cons, List.length_nil, wRate]
  omega

theorem rates_len : ∀ l : List Brk, (∀ b ∈ l, 0 ≤ b.up ∧ b.up ≤ 268435456 ∧ 0 ≤ b.rate ∧ b.rate ≤ 1048576) → (Wo.jText (l.map rateW)).length ≤ 30 * l.length
  | [], _ => by simp [Wo.jText]
  | b :: r, h => by
    have h1 := rate_len (h b List.mem_cons_self)
    have h2 := rates_len r fun x hx => h x (List.mem_cons_of_mem _ hx)
    rw [List.map_cons, jText_cons, List.length_append, List.length_cons]
    omega

theorem nots_len (x : Int) : ∀ n : Nat, n ≤ 16 → (Wo.jText (notsTo x n)).length ≤ 7 * n ∧ (notsTo x n).length ≤ n
  | 0, _ => by simp [Wo.jText, notsTo]
  | n + 1, h => by
    obtain ⟨h1, h2⟩ := nots_len x n (by omega)
    rw [notsTo_succ, jText_append, List.length_append, List.length_append]
    have a := itoa_le (n := (n : Int)) (by omega) (k := 2) (by omega) (by omega)
    split
    · have : (Wo.jText [[wNot, itoa (n : Int)]]).length ≤ 7 := by
        simp only [Wo.jText, List.flatMap_cons, List.flatMap_nil, Wo.lineT, Wo.join_two, Lib.join_one, List.length_append, List.length_cons, List.length_nil, wNot]
        omega
      simp only [List.length_cons, List.length_nil]
      omega
    · simp [Wo.jText] at h1 ⊢
      omega

theorem linesS_len {s : Sch} (h : one17 s = 0) : (Wo.jText (linesS s)).length ≤ 850 ∧ (linesS s).length ≤ 24 := by
  obtain ⟨-, -, -, -, h5, h6, -, -⟩ := one_parts h
  have a1 := head_len h
  have a2 := cond_len h5
  have a3 := rates_len s.br (br_each h6)
  have a4 := brB_len h6
  obtain ⟨a5, a6⟩ := nots_len s.ex 16 (by omega)
  unfold linesS
  rw [jText_cons, jText_cons, jText_append]
  simp only [List.length_append, List.length_cons, List.length_map]
  omega

theorem linesL_len : ∀ L : List Sch, (∀ s ∈ L, one17 s = 0) → (Wo.jText (linesL L)).length ≤ 850 * L.length ∧ (linesL L).length ≤ 24 * L.length
  | [], _ => by simp [Wo.jText, linesL]
  | s :: L, h => by
    have h1 := linesS_len (h s List.mem_cons_self)
    have h2 := linesL_len L fun x hx => h x (List.mem_cons_of_mem _ hx)
    have e : linesL (s :: L) = linesS s ++ linesL L := rfl
    rw [e, jText_append, List.length_append, List.length_append, List.length_cons]
    omega

theorem lineS_short {s : Sch} (h : one17 s = 0) : ∀ ws ∈ linesS s, ws.length ≤ 1099511627776 := by
  obtain ⟨-, -, -, -, h5, -, -, -⟩ := one_parts h
  obtain ⟨c1, -, c3⟩ := chkT_ok h5
  have ht := textW_len c3
  intro ws hws
  unfold linesS at hws
  rcases List.mem_cons.1 hws with rfl | hws
  · unfold headW; cases s.needs <;> simp
  rcases List.mem_cons.1 hws with rfl | hws
  · rw [List.length_cons]; omega
  rcases List.mem_append.1 hws with hws | hws
  · obtain ⟨b, -, rfl⟩ := List.mem_map.1 hws
    simp [rateW]
  · unfold notsTo at hws
    obtain ⟨i, -, hi⟩ := List.mem_flatMap.1 hws
    split at hi
    · rw [List.mem_singleton] at hi; subst hi; simp
    · cases hi

/-- A right law's text is one of its lines. -/
theorem law_back {L : List Sch} (h : ∀ s ∈ L, one17 s = 0) (hl : L.length ≤ 16) : Wo.jErr (linesL L) = 0 ∧ Wo.jOut (linesL L) = Wo.jText (linesL L) ∧ Wo.sErr (Wo.jText (linesL L)) = 0 ∧ Wo.sList (Wo.jText (linesL L)) = linesL L :=
  Wo.back (fun ws hw x hx => by
    obtain ⟨s, hs, hw⟩ := List.mem_flatMap.1 hw
    exact linesS_words (h s hs) ws hw x hx) (by have := (linesL_len L h).2; omega) (by have := (linesL_len L h).1; omega)

/-! ### reading -/
/-- The state behind some lines. -/
def adv : PS → List (List (List UInt8)) → Option PS
  | st, [] => some st
  | st, w :: r => if w = [] then adv st r else match stepP st w with | .inl s2 => adv s2 r | .inr _ => none

theorem adv_append : ∀ (A B : List (List (List UInt8))) {st s2 : PS}, adv st A = some s2 → adv st (A ++ B) = adv s2 B
  | [], B, st, s2, h => by rw [adv] at h; injection h with h; rw [h]; rfl
  | w :: A, B, st, s2, h => by
    rw [adv] at h
    rw [List.cons_append, adv]
    by_cases hw : w = []
    · rw [if_pos hw] at h ⊢
      exact adv_append A B h
    · rw [if_neg hw] at h ⊢
      cases e : stepP st w with
      | inl s3 => rw [e] at h; exact adv_append A B h
      | inr x => rw [e] at h; cases h

theorem prs_adv : ∀ (W V : List (List (List UInt8))) (k : Nat) {st s2 : PS}, adv st W = some s2 → prs st k (W ++ V) = prs s2 (k + W.length) V
  | [], V, k, st, s2, h => by rw [adv] at h; injection h with h; rw [h]; rfl
  | w :: W, V, k, st, s2, h => by
    rw [adv] at h
    rw [List.cons_append, prs, List.length_cons]
    by_cases hw : w = []
    · rw [if_pos hw] at h ⊢
      rw [prs_adv W V (k + 1) h]
      congr 1
      omega
    · rw [if_neg hw] at h ⊢
      cases e : stepP st w with
      | inl s3 =>
        rw [e] at h
        show prs s3 (k + 1) (W ++ V) = _
        rw [prs_adv W V (k + 1) h]
        congr 1
        omega
      | inr x => rw [e] at h; cases h

theorem adv_filter : ∀ (W : List (List (List UInt8))) (st : PS), adv st (W.filter (· ≠ [])) = adv st W
  | [], st => rfl
  | w :: W, st => by
    rw [List.filter_cons]
    by_cases hw : w = []
    · rw [if_neg (by simpa using hw), adv_filter W st, adv, if_pos hw]
    · rw [if_pos (by simpa using hw), adv, adv, if_neg hw, if_neg hw]
      cases stepP st w with
      | inl s2 => exact adv_filter W s2
      | inr x => rfl

theorem onLast_snoc (A : List Sch) (s : Sch) (f : Sch → Sch) : onLast (A ++ [s]) f = A ++ [f s] := by
  unfold onLast; rw [List.reverse_append]; simp

theorem num0_itoa {n most : Int} (h0 : 0 ≤ n) (h1 : n ≤ most) (h2 : most ≤ 268435456) : num0 (itoa n) most = some n := by
  unfold num0
  rw [Wo.numO_itoa n (by omega) (by omega)]
  simp only
  rw [if_neg (by omega)]

def fresh (s : Sch) : Sch := ⟨s.num, s.nm, .mk 0 0 0 [], [], s.least, 0, s.needs⟩

theorem step_head {s : Sch} (h : one17 s = 0) {st : PS} (hst : st.state = 0 ∨ 3 ≤ st.state) : stepP st (headW s) = .inl ⟨st.out ++ [fresh s], 1, -1⟩ := by
  obtain ⟨h1, h2, h3, h4, -, -, -, h8⟩ := one_parts h
  have e : headW s = wScheme :: (itoa s.num :: s.nm.data.toList :: itoa s.least :: (if s.needs then [wEnt] else [])) := rfl
  rw [e, stepP.eq_def]
  dsimp only
  rw [if_pos ⟨rfl, hst⟩]
  have e2 : headR (itoa s.num :: s.nm.data.toList :: itoa s.least :: (if s.needs then [wEnt] else [])) = some (fresh s) := by
    unfold headR
    simp only
    rw [if_pos (by cases s.needs <;> simp), if_pos h8, num0_itoa h1 h2 (by omega), num0_itoa h3 h4 (by omega)]
    simp only
    unfold fresh
    cases s.needs <;> simp
  rw [e2]

theorem step_cond {t : Tm} (h : chkT t = 0) {A : List Sch} {s : Sch} {k : Int} : stepP ⟨A ++ [s], 1, k⟩ (wIf :: textW t) = .inl ⟨A ++ [{ s with cond := t }], 2, k⟩ := by
  rw [stepP.eq_def]
  dsimp only
  rw [if_neg (by rintro ⟨h, -⟩; revert h; decide), if_pos ⟨rfl, rfl⟩]
  have e : condR (textW t) = .inl t := by
    unfold condR
    have := (back (2 * (textW t).length)).1 t [] (chkT_ok h).2.2 (Nat.le_refl _)
    rw [List.append_nil] at this
    rw [this]
    simp only
    rw [if_neg (by omega), if_pos trivial]
  rw [e]
  simp only
  rw [onLast_snoc]

theorem step_rate {b : Brk} (h : 0 ≤ b.up ∧ b.up ≤ 268435456 ∧ 0 ≤ b.rate ∧ b.rate ≤ 1048576) {A : List Sch} {s : Sch} {k : Int} {q : Nat} (hq : q = 2 ∨ q = 3) : stepP ⟨A ++ [s], q, k⟩ (rateW b) = .inl ⟨A ++ [{ s with br := s.br ++ [b] }], 3, k⟩ := by
  have e0 : rateW b = wRate :: [itoa b.up, itoa b.rate] := rfl
  rw [e0, stepP.eq_def]
  dsimp only
  rw [if_neg (by rintro ⟨h, -⟩; revert h; decide), if_neg (by rintro ⟨h, -⟩; revert h; decide), if_pos ⟨rfl, hq⟩]
  have e : rateR [itoa b.up, itoa b.rate] = some b := by
    unfold rateR
    simp only
    rw [num0_itoa h.1 h.2.1 (by omega), num0_itoa h.2.2.1 (by omega) (by omega)]
  rw [e]
  simp only
  rw [onLast_snoc]

theorem step_not {n : Nat} (hn : n ≤ 15) {A : List Sch} {s : Sch} {k : Int} (hk : k < n) {q : Nat} (hq : 3 ≤ q) : stepP ⟨A ++ [s], q, k⟩ [wNot, itoa (n : Int)] = .inl ⟨A ++ [{ s with ex := s.ex + 2 ^ n }], 4, n⟩ := by
  rw [stepP.eq_def]
  dsimp only
  rw [if_neg (by rintro ⟨h, -⟩; revert h; decide), if_neg (by rintro ⟨h, -⟩; revert h; decide), if_neg (by rintro ⟨h, -⟩; revert h; decide), if_pos ⟨rfl, hq⟩]
  rw [num0_itoa (by omega) (by omega) (by omega)]
  simp only
  rw [if_neg (by omega), onLast_snoc]
  simp

theorem adv_cons {st s2 : PS} {w : List (List UInt8)} (r : List (List (List UInt8))) (hw : w ≠ []) (h : stepP st w = .inl s2) : adv st (w :: r) = adv s2 r := by
  rw [adv, if_neg hw, h]

theorem adv_rates : ∀ (l : List Brk), (∀ b ∈ l, 0 ≤ b.up ∧ b.up ≤ 268435456 ∧ 0 ≤ b.rate ∧ b.rate ≤ 1048576) → ∀ (A : List Sch) (s : Sch) (k : Int), adv ⟨A ++ [s], 3, k⟩ (l.map rateW) = some ⟨A ++ [{ s with br := s.br ++ l }], 3, k⟩
  | [], _, A, s, k => by rw [List.map_nil, adv, List.append_nil]
  | b :: r, h, A, s, k => by
    rw [List.map_cons, adv_cons _ (by simp [rateW]) (step_rate (h b List.mem_cons_self) (.inr rfl)), adv_rates r (fun x hx => h x (List.mem_cons_of_mem _ hx))]
    simp

theorem mod_succ {x : Int} (h : 0 ≤ x) (n : Nat) : x % 2 ^ (n + 1) = x % 2 ^ n + if bitB x (n : Int) then 2 ^ n else 0 := by
  obtain ⟨u, rfl⟩ := Int.eq_ofNat_of_zero_le h
  have e : ((u % 2 ^ (n + 1) : Nat) : Int) = ((u % 2 ^ n + 2 ^ n * (u / 2 ^ n % 2) : Nat) : Int) := by rw [Nat.pow_succ, Nat.mod_mul]
  unfold bitB
  rw [Int.toNat_natCast]
  have e1 : (u : Int) / 2 ^ n % 2 = ((u / 2 ^ n % 2 : Nat) : Int) := by push_cast; rfl
  rw [e1]
  push_cast at e
  rw [e]
  congr 1
  have hlt : u / 2 ^ n % 2 < 2 := Nat.mod_lt _ (by omega)
  have e2 : (u : Int) / 2 ^ n % 2 = ((u / 2 ^ n % 2 : Nat) : Int) := by push_cast; rfl
  rw [e2]
  rcases (show u / 2 ^ n % 2 = 0 ∨ u / 2 ^ n % 2 = 1 by omega) with h0 | h0
  · rw [h0]; simp
  · rw [h0]; simp

theorem adv_nots (x : Int) (hx : 0 ≤ x) (A : List Sch) (s : Sch) : ∀ n : Nat, n ≤ 16 → ∃ q k, adv ⟨A ++ [s], 3, -1⟩ (notsTo x n) = some ⟨A ++ [{ s with ex := s.ex + x % 2 ^ n }], q, k⟩ ∧ 3 ≤ q ∧ k < n
  | 0, _ => ⟨3, -1, by simp [notsTo, adv], by omega, by omega⟩
  | n + 1, h => by
    obtain ⟨q, k, h1, h2, h3⟩ := adv_nots x hx A s n (by omega)
    rw [notsTo_succ, adv_append _ _ h1, mod_succ hx]
    cases e : bitB x (n : Int)
    · refine ⟨q, k, ?_, h2, by omega⟩
      simp [adv]
    · refine ⟨4, n, ?_, by omega, by omega⟩
      simp only [if_true]
      rw [adv_cons _ (by simp) (step_not (by omega) h3 h2), adv, Int.add_assoc]

/-- A right scheme's lines are read as it. -/
theorem adv_scheme {s : Sch} (h : one17 s = 0) {st : PS} (hst : st.state = 0 ∨ 3 ≤ st.state) : ∃ q k, adv st (linesS s) = some ⟨st.out ++ [s], q, k⟩ ∧ 3 ≤ q := by
  obtain ⟨h1, h2, h3, h4, h5, h6, h7, h8⟩ := one_parts h
  obtain ⟨n1, n2⟩ := brB_len h6
  unfold linesS
  rw [adv_cons _ (by simp [headW]) (step_head h hst), adv_cons _ (by simp) (step_cond h5)]
  obtain ⟨b, r, eb⟩ : ∃ b r, s.br = b :: r := by
    cases e : s.br with
    | nil => rw [e] at n1; simp at n1
    | cons b r => exact ⟨b, r, rfl⟩
  have hb := br_each h6
  rw [eb] at hb ⊢
  rw [List.map_cons, List.cons_append, adv_cons _ (by simp [rateW]) (step_rate (hb b List.mem_cons_self) (.inl rfl))]
  have e1 := adv_rates r (fun x hx => hb x (List.mem_cons_of_mem _ hx)) st.out { fresh s with cond := s.cond, br := [] ++ [b] } (-1)
  have e0 : ({ fresh s with cond := s.cond, br := ({ fresh s with cond := s.cond } : Sch).br ++ [b] } : Sch) = { fresh s with cond := s.cond, br := [] ++ [b] } := rfl
  rw [e0, adv_append _ _ e1]
  obtain ⟨q, k, h9, h10, -⟩ := adv_nots s.ex h7.1 st.out { fresh s with cond := s.cond, br := [] ++ [b] ++ r } 16 (by omega)
  refine ⟨q, k, ?_, h10⟩
  rw [h9]
  have e3 : (0 : Int) + s.ex % 2 ^ 16 = s.ex := by rw [Int.zero_add]; exact Int.emod_eq_of_lt h7.1 (by omega)
  have e4 : ({ ({ fresh s with cond := s.cond, br := [] ++ [b] ++ r } : Sch) with ex := (0 : Int) + s.ex % 2 ^ 16 } : Sch) = s := by
    rw [e3]
    have : [] ++ [b] ++ r = s.br := by rw [eb]; rfl
    rw [this]
    rfl
  exact congrArg (fun z => some (⟨st.out ++ [z], q, k⟩ : PS)) e4

theorem adv_law : ∀ (L : List Sch), (∀ s ∈ L, one17 s = 0) → ∀ (st : PS), (st.state = 0 ∨ 3 ≤ st.state) → ∃ q k, adv st (linesL L) = some ⟨st.out ++ L, q, k⟩ ∧ (q = 0 ∨ 3 ≤ q) ∧ (L ≠ [] → 3 ≤ q)
  | [], _, st, hst => ⟨st.state, st.last, by rw [List.append_nil]; rfl, hst, fun h => absurd rfl h⟩
  | s :: L, h, st, hst => by
    obtain ⟨q, k, h1, h2⟩ := adv_scheme (h s List.mem_cons_self) hst
    have e : linesL (s :: L) = linesS s ++ linesL L := rfl
    obtain ⟨q2, k2, h3, h4, -⟩ := adv_law L (fun x hx => h x (List.mem_cons_of_mem _ hx)) ⟨st.out ++ [s], q, k⟩ (.inr h2)
    refine ⟨q2, k2, ?_, h4, fun _ => ?_⟩
    · rw [e, adv_append _ _ h1, h3, List.append_assoc]; rfl
    · rcases h4 with h4 | h4
      · exfalso
        cases L with
        | nil =>
          have : adv ⟨st.out ++ [s], q, k⟩ (linesL []) = some ⟨st.out ++ [s], q, k⟩ := rfl
          rw [this] at h3
          injection h3 with h3
          injection h3 with _ h3 _
          omega
        | cons y L =>
          obtain ⟨q3, k3, h5, -, h6⟩ := adv_law (y :: L) (fun x hx => h x (List.mem_cons_of_mem _ hx)) ⟨st.out ++ [s], q, k⟩ (.inr h2)
          rw [h5] at h3
          injection h3 with h3
          injection h3 with _ h3 _
          have := h6 (by simp)
          omega
      · exact h4

/-- Lines that are those of a right law, with blank ones between. -/
theorem prs_right {L : List Sch} (hc : chk17 L = (-1, 0)) (h : ∀ s ∈ L, one17 s = 0) {W : List (List (List UInt8))} (hW : W.filter (· ≠ []) = linesL L) : prs ps0 0 W = (L, 0, 0) := by
  obtain ⟨q, k, h1, h2, -⟩ := adv_law L h ps0 (.inl rfl)
  rw [← hW, adv_filter] at h1
  have := prs_adv W [] 0 h1
  rw [List.append_nil] at this
  rw [this]
  have e : ps0.out ++ L = L := rfl
  rw [e, prs, if_neg (by simp only; omega), if_neg (by simp only; rw [hc]; simp)]

theorem parse_right {L : List Sch} (hc : chk17 L = (-1, 0)) (h : ∀ s ∈ L, one17 s = 0) (hl : L.length ≤ 16) : parse17 (Wo.jText (linesL L)) = (L, 0, 0) := by
  obtain ⟨-, -, h3, h4⟩ := law_back h hl
  unfold parse17
  rw [if_pos h3, h4]
  refine prs_right hc h (List.filter_eq_self.2 fun w hw => ?_)
  obtain ⟨s, -, hs⟩ := List.mem_flatMap.1 hw
  have : w ≠ [] := by
    unfold linesS at hs
    rcases List.mem_cons.1 hs with rfl | hs
    · simp [headW]
    rcases List.mem_cons.1 hs with rfl | hs
    · simp
    rcases List.mem_append.1 hs with hs | hs
    · obtain ⟨b, -, rfl⟩ := List.mem_map.1 hs
      simp [rateW]
    · unfold notsTo at hs
      obtain ⟨i, -, hi⟩ := List.mem_flatMap.1 hs
      split at hi
      · rw [List.mem_singleton] at hi; subst hi; simp
      · cases hi
  simpa using this

end Sc
end Go.Proofs.YtflcdkibjakciaaGreatDoor
