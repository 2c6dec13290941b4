/-
  MERGED (mergek.py): the texts Cs, Ct.
-/
import Derived.Test.YtcghhagnibabeaaGreatDoorMA
import Derived.Test.YtcghhagnibabeaaGreatDoorWt
import Derived.Test.YtcghhagnibabeaaGreatDoorW9

namespace Go.Proofs.YtcghhagnibabeaaGreatDoor
namespace Cr
open Go.Lib

/-- The words of a crop's line. -/
def lineW (c : Crp) : List (List UInt8) := [[99, 114, 111, 112], c.nm.data.toList, itoa c.fam, mword c.mrk.toNat]
/-- The text of a catalogue. -/
def pText (L : List Crp) : List UInt8 := Wo.jText (L.map lineW)

theorem one_ok {c : Crp} (h : cErr c = 0) : Wo.nameB c.nm.data.toList = true ∧ 0 ≤ c.fam ∧ c.fam ≤ 40 ∧ 0 ≤ c.mrk ∧ c.mrk ≤ 31 := by
  unfold cErr at h
  split at h
  · cases h
  rename_i h1
  split at h
  · cases h
  rename_i h2
  split at h
  · cases h
  rename_i h3
  exact ⟨by simpa using h1, by omega, by omega, by omega, by omega⟩

theorem one_of {c : Crp} (h1 : Wo.nameB c.nm.data.toList = true) (h2 : 0 ≤ c.fam ∧ c.fam ≤ 40) (h3 : 0 ≤ c.mrk ∧ c.mrk ≤ 31) : cErr c = 0 := by
  unfold cErr
  rw [if_neg (by rw [h1]; simp), if_neg (by omega), if_neg (by omega)]

theorem name_word {l : List UInt8} (h : Wo.nameB l = true) : Wo.wordB l = true ∧ l.length ≤ 12 := by
  unfold Wo.nameB at h
  simp only [Bool.and_eq_true, decide_eq_true_eq] at h
  obtain ⟨h1, h2, h3⟩ := h
  refine ⟨?_, h3⟩
  unfold Wo.wordB
  rw [Bool.and_eq_true, List.all_eq_true]
  have key : ∀ c ∈ l, Wo.letB c = true ∨ Wo.digB c = true := by
    cases l with
    | nil => intro c hc; cases hc
    | cons a r =>
      unfold Wo.headB at h1
      simp only [Bool.and_eq_true, List.all_eq_true, Bool.or_eq_true] at h1
      intro c hc
      rcases List.mem_cons.1 hc with rfl | hc
      · exact .inl h1.1
      · exact h1.2 c hc
  refine ⟨by cases l with | nil => simp at h2 | cons a r => rfl, fun c hc => ?_⟩
  rcases key c hc with hk | hk
  · simp only [Wo.letB, Bool.and_eq_true, decide_eq_true_eq] at hk
    have : ¬ c = 35 := by rintro rfl; revert hk; decide
    simp only [Bool.and_eq_true, decide_eq_true_eq, Bool.not_eq_true', beq_eq_false_iff_ne]
    exact ⟨⟨by omega, by omega⟩, this⟩
  · simp only [Wo.digB, Bool.and_eq_true, decide_eq_true_eq] at hk
    have : ¬ c = 35 := by rintro rfl; revert hk; decide
    simp only [Bool.and_eq_true, decide_eq_true_eq, Bool.not_eq_true', beq_eq_false_iff_ne]
    exact ⟨⟨by omega, by omega⟩, this⟩

theorem fam_word : ∀ n : Nat, n ≤ 40 → Wo.wordB (itoa (n : Int)) = true ∧ (itoa (n : Int)).length ≤ 2 := by
  have : ∀ n, n < 41 → Wo.wordB (itoa ((n : Nat) : Int)) = true ∧ (itoa ((n : Nat) : Int)).length ≤ 2 := by decide +kernel
  exact fun n h => this n (by omega)

theorem mark_word : ∀ m : Nat, m < 32 → Wo.wordB (mword m) = true ∧ (mword m).length ≤ 5 := by decide +kernel

theorem line_words {c : Crp} (h : cErr c = 0) : ∀ x ∈ lineW c, Wo.wordB x = true ∧ x.length ≤ 12 := by
  obtain ⟨h1, h2, h3, h4, h5⟩ := one_ok h
  have hf := fam_word c.fam.toNat (by omega)
  rw [Int.toNat_of_nonneg h2] at hf
  have hm := mark_word c.mrk.toNat (by omega)
  intro x hx
  simp only [lineW, List.mem_cons, List.not_mem_nil, or_false] at hx
  rcases hx with rfl | rfl | rfl | rfl
  · decide
  · exact name_word h1
  · exact ⟨hf.1, by omega⟩
  · exact ⟨hm.1, by omega⟩

theorem pText_len : ∀ L : List Crp, (∀ c ∈ L, cErr c = 0) → (pText L).length ≤ L.length * 60
  | [], _ => by simp [pText, Wo.jText]
  | c :: L, h => by
    have ih := pText_len L fun x hx => h x (List.mem_cons_of_mem _ hx)
    have hw := line_words (h c List.mem_cons_self)
    obtain ⟨a1, a2, a3, a4⟩ : ([99, 114, 111, 112] : List UInt8).length ≤ 12 ∧ c.nm.data.toList.length ≤ 12 ∧ (itoa c.fam).length ≤ 12 ∧ (mword c.mrk.toNat).length ≤ 12 :=
      ⟨by decide, (hw _ (by simp [lineW])).2, (hw _ (by simp [lineW])).2, (hw _ (by simp [lineW])).2⟩
    unfold pText Wo.jText at ih ⊢
    rw [List.map_cons, List.flatMap_cons, List.length_append, List.length_cons]
    have : (Wo.lineT (lineW c)).length ≤ 60 := by
      simp only [Wo.lineT, lineW, Wo.join_two, Lib.join_one, List.length_append, List.length_cons, List.length_nil] at a1 a2 a3 a4 ⊢
      omega
    omega

/-- A printed catalogue is a text of its lines. -/
theorem print_back {L : List Crp} (h : Right L) : Wo.jErr (L.map lineW) = 0 ∧ Wo.jOut (L.map lineW) = pText L ∧ Wo.sErr (pText L) = 0 ∧ Wo.sList (pText L) = L.map lineW :=
  Wo.back (fun ws hw x hx => by
    obtain ⟨c, hc, rfl⟩ := List.mem_map.1 hw
    exact (line_words (h.each c hc) x hx).1) (by rw [List.length_map]; have := h.len; omega) (by
    have := pText_len L h.each
    have := h.len
    unfold pText at *
    omega)

theorem num_back {n : Int} (h0 : 0 ≤ n) (h1 : n ≤ 40) : Wo.numB (itoa n) 0 40 = true ∧ Wo.numV (itoa n) 0 40 = n := by
  have hO := Wo.numO_itoa n (by omega) (by omega)
  unfold Wo.numB Wo.numV
  rw [hO]
  simp only
  rw [if_neg (by omega), if_neg (by omega)]
  exact ⟨rfl, rfl⟩

/-- The line of a crop is read as it. -/
theorem lineC_back {c : Crp} (h : cErr c = 0) : lineC ((lineW c).map bs) = some c := by
  obtain ⟨h1, h2, h3, h4, h5⟩ := one_ok h
  obtain ⟨n1, n2⟩ := num_back h2 h3
  show (if ([99, 114, 111, 112] : List UInt8) = [99, 114, 111, 112] ∧ Wo.nameB c.nm.data.toList = true ∧ Wo.numB (itoa c.fam) 0 40 = true then (unm (mword c.mrk.toNat)).map fun (k : Nat) => (⟨bs c.nm.data.toList, Wo.numV (itoa c.fam) 0 40, (k : Int)⟩ : Crp) else none) = some c
  rw [if_pos ⟨rfl, h1, n1⟩, unm_mword (by omega), n2]
  show some (⟨bs c.nm.data.toList, c.fam, (c.mrk.toNat : Int)⟩ : Crp) = some c
  have e1 : bs c.nm.data.toList = c.nm := rfl
  rw [e1, Int.toNat_of_nonneg h4]

theorem lineC_right {w : List ByteArray} {c : Crp} (h : lineC w = some c) : cErr c = 0 := by
  unfold lineC at h
  split at h
  · split at h
    · rename_i a b f m hc
      obtain ⟨hc1, hc2, hc3⟩ := hc
      cases hu : unm m.data.toList with
      | none => rw [hu] at h; cases h
      | some k =>
        rw [hu] at h
        injection h with h
        subst h
        obtain ⟨k1, -⟩ := unm_some hu
        refine one_of hc2 ?_ ⟨by simp, by show (k : Int) ≤ 31; omega⟩
        show 0 ≤ Wo.numV f.data.toList 0 40 ∧ Wo.numV f.data.toList 0 40 ≤ 40
        unfold Wo.numV
        split
        · split
          · decide
          · omega
        · decide
    · cases h
  · cases h

end Cr
end Go.Proofs.YtcghhagnibabeaaGreatDoor

namespace Go.Proofs.YtcghhagnibabeaaGreatDoor
namespace Cr
open Go.Lib

def lineB (c : Crp) : List ByteArray := (lineW c).map bs

theorem lineB_ne (c : Crp) : lineB c ≠ [] := by simp [lineB, lineW]

theorem prsB_ok : ∀ (W : List (List ByteArray)) (acc C : List Crp) (i : Nat), W.filter (fun w => w ≠ []) = C.map lineB → (∀ c ∈ C, cErr c = 0) → (acc ++ C).Pairwise (fun a b => a.nm ≠ b.nm) → (acc ++ C).length ≤ 40 → prsB acc i W = (acc ++ C, 0, 0)
  | [], acc, C, i, hW, _, _, _ => by
    have : C = [] := by
      cases C with
      | nil => rfl
      | cons c r => simp at hW
    subst this
    rw [prsB, List.append_nil]
  | w :: r, acc, C, i, hW, h1, hD, h4 => by
    rw [prsB]
    by_cases h0 : w = []
    · rw [if_pos h0]
      refine prsB_ok r acc C (i + 1) ?_ h1 hD h4
      rw [← hW, List.filter_cons, if_neg (by simpa using h0)]
    · rw [if_neg h0]
      rw [List.filter_cons, if_pos (by simpa using h0)] at hW
      cases C with
      | nil => simp at hW
      | cons c C =>
        rw [List.map_cons] at hW
        injection hW with hw hr
        have hc := h1 c List.mem_cons_self
        have hl : lineC w = some c := by rw [hw]; exact lineC_back hc
        rw [hl]
        simp only
        have hn : ¬ has acc c.nm = true := by
          rw [has_iff]
          rintro ⟨x, hx, e⟩
          exact (List.pairwise_append.1 hD).2.2 x hx c List.mem_cons_self e
        rw [if_neg hn, if_neg (by simp at h4; omega)]
        have := prsB_ok r (acc ++ [c]) C (i + 1) hr (fun x hx => h1 x (List.mem_cons_of_mem _ hx)) (by simpa using hD) (by simpa using h4)
        rw [this]
        simp

theorem prsB_append : ∀ (W V : List (List ByteArray)) (acc x : List Crp) (i : Nat), prsB acc i W = (x, 0, 0) → prsB acc i (W ++ V) = prsB x (i + W.length) V
  | [], V, acc, x, i, h => by
    rw [prsB] at h
    injection h with h
    subst h
    rfl
  | w :: r, V, acc, x, i, h => by
    rw [prsB] at h
    rw [List.cons_append, prsB]
    have e : i + (w :: r).length = i + 1 + r.length := by simp; omega
    rw [e]
    by_cases h0 : w = []
    · rw [if_pos h0] at h ⊢
      exact prsB_append r V acc x (i + 1) h
    rw [if_neg h0] at h ⊢
    cases hl : lineC w with
    | none => rw [hl] at h; simp at h
    | some c =>
      rw [hl] at h
      simp only at h ⊢
      by_cases h1 : has acc c.nm = true
      · rw [if_pos h1] at h; simp at h
      rw [if_neg h1] at h ⊢
      by_cases h2 : acc.length = 40
      · rw [if_pos h2] at h; simp at h
      rw [if_neg h2] at h ⊢
      exact prsB_append r V _ x (i + 1) h

theorem Right.asc' {L : List Crp} (h : Right L) : Asc L := by
  unfold Asc
  rw [List.pairwise_iff_getElem]
  intro i j hi hj hij
  exact h.lt hij hj

theorem asc_ne {L : List Crp} (h : Asc L) : L.Pairwise (fun a b => a.nm ≠ b.nm) :=
  h.imp fun hab e => by rw [e, lt_irrefl] at hab; cases hab

/-- The catalogue of a text: what is read, the line, the error. -/
def parse (s : ByteArray) : List Crp × Int × Int := if Wo.sErr s.data.toList = 0 then prsA [] 0 (sLines s) else ([], 0, Wo.sErr s.data.toList)

/-- Lines of a right catalogue, in any order, with empty ones between: read as it is. -/
theorem parse_any {L C : List Crp} (h : Right L) (hp : C.Perm L) {W : List (List ByteArray)} (hW : W.filter (fun w => w ≠ []) = C.map lineB) : prsA [] 0 W = (L, 0, 0) := by
  have hB := prsB_ok W [] C 0 hW (fun c hc => h.each c (hp.mem_iff.1 hc)) (by
    rw [List.nil_append]
    exact (hp.pairwise_iff (fun {a b} (e : a.nm ≠ b.nm) k => e k.symm)).2 (asc_ne h.asc')) (by rw [List.nil_append, hp.length_eq]; exact h.len)
  obtain ⟨h1, h2, h3⟩ := prs_same W [] [] 0 List.Pairwise.nil (List.Perm.refl _)
  rw [hB] at h1 h3
  have e := asc_unique h2 h.asc' (h3.trans hp)
  exact Prod.ext e h1

/-- A catalogue is read as it was printed. -/
theorem parse_back {L : List Crp} (h : Right L) {s : ByteArray} (hs : s.data.toList = pText L) : parse s = (L, 0, 0) := by
  obtain ⟨-, -, p3, p4⟩ := print_back h
  unfold parse
  rw [hs, if_pos p3]
  refine parse_any h (List.Perm.refl _) ?_
  have e : sLines s = L.map lineB := by unfold sLines; rw [hs, p4, List.map_map]; rfl
  rw [e, List.filter_eq_self.2]
  intro w hw
  obtain ⟨c, -, rfl⟩ := List.mem_map.1 hw
  simpa using lineB_ne c

/-- What sorting gives. -/
theorem asc_of_sorted {L : List Crp} (h1 : L.Pairwise fun a b => lt b.nm a.nm = false) (h2 : L.Pairwise (fun a b => a.nm ≠ b.nm)) : Asc L :=
  (h1.and h2).imp fun ⟨hb, hn⟩ => by
    cases k : lt _ _ with
    | true => rfl
    | false => exact absurd (lt_total k hb) hn

end Cr
end Go.Proofs.YtcghhagnibabeaaGreatDoor
