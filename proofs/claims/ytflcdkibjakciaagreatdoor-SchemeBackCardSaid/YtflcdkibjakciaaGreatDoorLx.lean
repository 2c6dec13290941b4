/-
  PLAIN: texts of laws, with lines behind them; with blanks doubled.
-/
import Derived.Test.YtflcdkibjakciaaGreatDoorM28
import Derived.Lib.Replace
namespace Go.Proofs.YtflcdkibjakciaaGreatDoor
namespace Sc
open Go.Lib Te

/-- A line of a text: no end of line in it, plain. -/
def LnOk (l : List UInt8) : Prop := (∀ c ∈ l, c ≠ 10) ∧ ∀ c ∈ l, Wo.plainB c = true

/-- Words with so many blanks between. -/
theorem words_ln {ws : List (List UInt8)} (n : Nat) (hn : 1 ≤ n) (h : ∀ x ∈ ws, Wo.wordB x = true) : LnOk (join ws (List.replicate n 32)) ∧ Wo.wds (join ws (List.replicate n 32)) = ws := by
  have hs : ∀ c ∈ List.replicate n (32 : UInt8), c = 32 := fun c hc => (List.mem_replicate.1 hc).2
  refine ⟨⟨Wo.join_mem _ (fun c hc => by rw [hs c hc]; decide) ws (fun x hx c hc => ((Wo.word_byte (h x hx)).2 c hc).2.1), Wo.join_mem _ (fun c hc => by rw [hs c hc]; decide) ws (fun x hx c hc => ((Wo.word_byte (h x hx)).2 c hc).2.2.2)⟩, ?_⟩
  rw [Wo.wds_wrd, Wo.takeWhile_all (Wo.join_mem _ (fun c hc => by rw [hs c hc]; decide) ws fun x hx c hc => ((Wo.word_byte (h x hx)).2 c hc).2.2.1)]
  have := Wo.wrd_join n 0 hn ws h
  rwa [List.replicate_zero, List.append_nil] at this

theorem parse_lns {TL : List (List UInt8)} (h : ∀ l ∈ TL, LnOk l) (h4 : TL.length ≤ 400) {s : List UInt8} (hs : s = TL.flatMap fun l => l ++ [10]) (hl : s.length ≤ 16384) : parse17 s = prs ps0 0 (TL.map Wo.wds) := by
  have h0 : Wo.sErr s = 0 := by
    rw [hs]
    refine Wo.sErr_text (fun l hl => (h l hl).1) (fun l hl => (h l hl).2) h4 ?_
    rw [← hs]; exact hl
  unfold parse17
  rw [if_pos h0]
  unfold Wo.sList
  rw [if_pos h0, hs, Wo.lns_text TL fun l hl => (h l hl).1]

/-- The lines of a law, so many blanks between the words. -/
def lawLn (n : Nat) (L : List Sch) : List (List UInt8) := (linesL L).map fun ws => join ws (List.replicate n 32)

theorem law_ln {n : Nat} (hn : 1 ≤ n) {L : List Sch} (h : ∀ s ∈ L, one17 s = 0) : (∀ l ∈ lawLn n L, LnOk l) ∧ (lawLn n L).map Wo.wds = linesL L := by
  have hw : ∀ ws ∈ linesL L, ∀ x ∈ ws, Wo.wordB x = true := fun ws hws x hx => by
    obtain ⟨s, hs, hw⟩ := List.mem_flatMap.1 hws
    exact linesS_words (h s hs) ws hw x hx
  refine ⟨fun l hl => ?_, ?_⟩
  · obtain ⟨ws, hws, rfl⟩ := List.mem_map.1 hl
    exact (words_ln n hn (hw ws hws)).1
  · unfold lawLn
    rw [List.map_map]
    have : ∀ ws ∈ linesL L, (Wo.wds ∘ fun ws => join ws (List.replicate n 32)) ws = ws := fun ws hws => (words_ln n hn (hw ws hws)).2
    rw [List.map_congr_left this, List.map_id']

theorem law_text (L : List Sch) : Wo.jText (linesL L) = (lawLn 1 L).flatMap fun l => l ++ [10] := by
  unfold Wo.jText lawLn
  rw [List.flatMap_map]
  rfl

/-- A law's text, with lines behind it. -/
theorem parse_tail {L : List Sch} (h : LawOk L) {V : List (List UInt8)} (hV : ∀ l ∈ V, LnOk l) (hVl : V.length ≤ 10) {s : List UInt8} (hs : s = Wo.jText (linesL L) ++ V.flatMap fun l => l ++ [10]) (hl : s.length ≤ 16384) :
    ∃ q k, (q = 0 ∨ 3 ≤ q) ∧ parse17 s = prs ⟨L, q, k⟩ (linesL L).length (V.map Wo.wds) := by
  obtain ⟨a1, a2⟩ := law_ln (Nat.le_refl 1) h.one
  have hL := (linesL_len L h.one).2
  have h16 := h.len
  have e := parse_lns (TL := lawLn 1 L ++ V) (s := s) (fun l hl => by
    rcases List.mem_append.1 hl with hl | hl
    · exact a1 l hl
    · exact hV l hl) (by
    have : (lawLn 1 L).length = (linesL L).length := by unfold lawLn; rw [List.length_map]
    rw [List.length_append]; omega) (by rw [hs, law_text, List.flatMap_append]) hl
  obtain ⟨q, k, h1, h2, -⟩ := adv_law L h.one ps0 (.inl rfl)
  refine ⟨q, k, h2, ?_⟩
  rw [e, List.map_append, a2, prs_adv _ _ 0 h1, Nat.zero_add]
  rfl

def hd9 : Sch := ⟨9, ⟨#[122]⟩, .mk 0 0 0 [], [], 0, 0, false⟩
theorem hd9_ok : headR [[57], [122], [48]] = some hd9 := by kernel_rfl

theorem step9 {L : List Sch} {q : Nat} {k : Int} (hq : q = 0 ∨ 3 ≤ q) : stepP ⟨L, q, k⟩ [wScheme, [57], [122], [48]] = .inl ⟨L ++ [hd9], 1, -1⟩ := by
  rw [stepP.eq_def]
  dsimp only
  rw [if_pos ⟨rfl, hq⟩, hd9_ok]

theorem wds9 : Wo.wds [115, 99, 104, 101, 109, 101, 32, 57, 32, 122, 32, 48] = [wScheme, [57], [122], [48]] := by decide +kernel
theorem wdsT : Wo.wds [105, 102, 32, 116, 114, 117, 101] = [wIf, [116, 114, 117, 101]] := by decide +kernel
theorem wdsTT : Wo.wds [105, 102, 32, 116, 114, 117, 101, 32, 116, 114, 117, 101] = [wIf, [116, 114, 117, 101], [116, 114, 117, 101]] := by decide +kernel
theorem wdsR : Wo.wds [114, 97, 116, 101, 32, 49, 32, 49] = [wRate, [49], [49]] := by decide +kernel
theorem wdsI : Wo.wds [105, 102] = [wIf] := by decide +kernel
theorem condT : condR [[116, 114, 117, 101]] = .inl (.mk 1 0 0 []) := by rfl
theorem condTT : condR [[116, 114, 117, 101], [116, 114, 117, 101]] = .inr 4 := by rfl

theorem lnOk {l : List UInt8} (h : l.all (fun c => c != 10 && Wo.plainB c) = true) : LnOk l := by
  rw [List.all_eq_true] at h
  refine ⟨fun c hc => ?_, fun c hc => ?_⟩
  · have := h c hc; rw [Bool.and_eq_true] at this; simpa using this.1
  · have := h c hc; rw [Bool.and_eq_true] at this; exact this.2

theorem all_ok {V : List (List UInt8)} (h : (V.all fun l => l.all fun c => c != 10 && Wo.plainB c) = true) : ∀ l ∈ V, LnOk l := fun l hl => lnOk (List.all_eq_true.1 h l hl)

theorem wrong1 {L : List Sch} (h : LawOk L) {s : List UInt8} (hs : s = Wo.jText (linesL L) ++ [115, 99, 104, 101, 109, 101, 32, 57, 32, 122, 32, 48, 10, 105, 102, 32, 116, 114, 117, 101, 10]) (hl : s.length ≤ 16384) : parse17 s = ([], ((linesL L).length : Int) + 3, 4) := by
  obtain ⟨q, k, hq, e⟩ := parse_tail h (V := [[115, 99, 104, 101, 109, 101, 32, 57, 32, 122, 32, 48], [105, 102, 32, 116, 114, 117, 101]]) (all_ok (by decide)) (by decide) (by rw [hs]; rfl) hl
  rw [e, List.map_cons, List.map_cons, List.map_nil, wds9, wdsT, prs, if_neg (by simp), step9 hq]
  simp only
  rw [prs, if_neg (by simp), stepP.eq_def]
  dsimp only
  rw [if_neg (by rintro ⟨h, -⟩; exact absurd h (by decide)), if_pos ⟨rfl, rfl⟩, condT]
  simp only
  rw [prs, if_pos (.inr rfl)]
  simp; omega

theorem wrong2 {L : List Sch} (h : LawOk L) {s : List UInt8} (hs : s = Wo.jText (linesL L) ++ [115, 99, 104, 101, 109, 101, 32, 57, 32, 122, 32, 48, 10, 114, 97, 116, 101, 32, 49, 32, 49, 10]) (hl : s.length ≤ 16384) : parse17 s = ([], ((linesL L).length : Int) + 2, 4) := by
  obtain ⟨q, k, hq, e⟩ := parse_tail h (V := [[115, 99, 104, 101, 109, 101, 32, 57, 32, 122, 32, 48], [114, 97, 116, 101, 32, 49, 32, 49]]) (all_ok (by decide)) (by decide) (by rw [hs]; rfl) hl
  rw [e, List.map_cons, List.map_cons, List.map_nil, wds9, wdsR, prs, if_neg (by simp), step9 hq]
  simp only
  rw [prs, if_neg (by simp), stepP.eq_def]
  dsimp only
  rw [if_neg (by rintro ⟨h, -⟩; exact absurd h (by decide)), if_neg (by rintro ⟨h, -⟩; exact absurd h (by decide)), if_neg (by rintro ⟨-, h⟩; simp at h), if_neg (by rintro ⟨h, -⟩; exact absurd h (by decide))]
  simp; omega

theorem wrong3 {L : List Sch} (h : LawOk L) {s : List UInt8} (hs : s = Wo.jText (linesL L) ++ [115, 99, 104, 101, 109, 101, 32, 57, 32, 122, 32, 48, 10, 105, 102, 32, 116, 114, 117, 101, 32, 116, 114, 117, 101, 10, 114, 97, 116, 101, 32, 49, 32, 49, 10]) (hl : s.length ≤ 16384) : parse17 s = ([], ((linesL L).length : Int) + 2, 4) := by
  obtain ⟨q, k, hq, e⟩ := parse_tail h (V := [[115, 99, 104, 101, 109, 101, 32, 57, 32, 122, 32, 48], [105, 102, 32, 116, 114, 117, 101, 32, 116, 114, 117, 101], [114, 97, 116, 101, 32, 49, 32, 49]]) (all_ok (by decide)) (by decide) (by rw [hs]; rfl) hl
  rw [e, List.map_cons, List.map_cons, List.map_cons, List.map_nil, wds9, wdsTT, wdsR, prs, if_neg (by simp), step9 hq]
  simp only
  rw [prs, if_neg (by simp), stepP.eq_def]
  dsimp only
  rw [if_neg (by rintro ⟨h, -⟩; exact absurd h (by decide)), if_pos ⟨rfl, rfl⟩, condTT]
  simp; omega

theorem wrong4 {L : List Sch} (h : LawOk L) {s : List UInt8} (hs : s = Wo.jText (linesL L) ++ [105, 102, 10]) (hl : s.length ≤ 16384) : parse17 s = ([], ((linesL L).length : Int) + 1, 4) := by
  obtain ⟨q, k, hq, e⟩ := parse_tail h (V := [[105, 102]]) (all_ok (by decide)) (by decide) (by rw [hs]; rfl) hl
  rw [e, List.map_cons, List.map_nil, wdsI, prs, if_neg (by simp), stepP.eq_def]
  dsimp only
  rw [if_neg (by rintro ⟨h, -⟩; exact absurd h (by decide)), if_neg (by rintro ⟨-, h⟩; omega), if_neg (by rintro ⟨h, -⟩; exact absurd h (by decide)), if_neg (by rintro ⟨h, -⟩; exact absurd h (by decide))]

/-- How many ends of lines there are. -/
theorem law_count {L : List Sch} (h : LawOk L) : (Wo.jText (linesL L)).count 10 = (linesL L).length := by
  rw [law_text, Wo.count_text _ fun l hl => ((law_ln (Nat.le_refl 1) h.one).1 l hl).1]
  unfold lawLn; rw [List.length_map]

/-! ### blanks doubled -/
def dbl (l : List UInt8) : List UInt8 := l.flatMap fun c => if c = 32 then [32, 32] else [c]

theorem dbl_append (a b : List UInt8) : dbl (a ++ b) = dbl a ++ dbl b := List.flatMap_append
theorem dbl_none : ∀ {l : List UInt8}, (∀ c ∈ l, c ≠ 32) → dbl l = l
  | [], _ => rfl
  | c :: r, h => by
    unfold dbl
    rw [List.flatMap_cons, if_neg (h c List.mem_cons_self)]
    have := dbl_none (l := r) fun c hc => h c (List.mem_cons_of_mem _ hc)
    unfold dbl at this
    rw [this]; rfl

theorem dbl_join : ∀ {ws : List (List UInt8)}, (∀ x ∈ ws, ∀ c ∈ x, c ≠ 32) → dbl (join ws [32]) = join ws [32, 32]
  | [], _ => rfl
  | [x], h => by rw [join_one, join_one]; exact dbl_none (h x (by simp))
  | x :: y :: r, h => by
    rw [Wo.join_two, Wo.join_two, dbl_append, dbl_append, dbl_join (fun z hz => h z (List.mem_cons_of_mem _ hz)), dbl_none (h x List.mem_cons_self)]
    rfl

theorem dbl_law {L : List Sch} (h : LawOk L) : dbl (Wo.jText (linesL L)) = (lawLn 2 L).flatMap fun l => l ++ [10] := by
  have hw : ∀ ws ∈ linesL L, ∀ x ∈ ws, Wo.wordB x = true := fun ws hws x hx => by
    obtain ⟨s, hs, hw⟩ := List.mem_flatMap.1 hws
    exact linesS_words (h.one s hs) ws hw x hx
  unfold lawLn Wo.jText
  rw [List.flatMap_map]
  generalize linesL L = M at hw
  induction M with
  | nil => rfl
  | cons ws M ih =>
    rw [List.flatMap_cons, List.flatMap_cons, dbl_append, ih fun x hx => hw x (List.mem_cons_of_mem _ hx)]
    congr 1
    unfold Wo.lineT
    rw [dbl_append, dbl_join fun x hx c hc => ((Wo.word_byte (hw ws List.mem_cons_self x hx)).2 c hc).1]
    rfl

theorem dbl_len : ∀ l : List UInt8, (dbl l).length ≤ 2 * l.length
  | [] => Nat.le_refl _
  | c :: r => by
    have h1 := dbl_len r
    have h2 : dbl (c :: r) = (if c = 32 then [32, 32] else [c]) ++ dbl r := rfl
    rw [h2, List.length_append, List.length_cons]
    by_cases hc : c = 32
    · rw [if_pos hc]
      show 2 + _ ≤ _
      omega
    · rw [if_neg hc]
      show 1 + _ ≤ _
      omega

/-- The text with blanks doubled, and a comment ahead, is read as the law. -/
theorem parse_dbl {L : List Sch} (h : chk17 L = (-1, 0)) {s : List UInt8} (hs : s = [35, 32, 108, 97, 119, 10, 10] ++ dbl (Wo.jText (linesL L))) (hl : s.length ≤ 16384) : parse17 s = (L, 0, 0) := by
  have ok := lawOk h
  obtain ⟨a1, a2⟩ := law_ln (n := 2) (by omega) ok.one
  have hL := (linesL_len L ok.one).2
  have h16 := ok.len
  have e := parse_lns (TL := [35, 32, 108, 97, 119] :: [] :: lawLn 2 L) (s := s) (fun l hl => by
    rcases List.mem_cons.1 hl with rfl | hl
    · exact lnOk (by decide)
    rcases List.mem_cons.1 hl with rfl | hl
    · exact lnOk (by decide)
    · exact a1 l hl) (by
    have : (lawLn 2 L).length = (linesL L).length := by unfold lawLn; rw [List.length_map]
    rw [List.length_cons, List.length_cons]; omega) (by rw [hs, dbl_law ok]; rfl) hl
  rw [e, List.map_cons, List.map_cons, show Wo.wds [35, 32, 108, 97, 119] = [] by decide +kernel, show Wo.wds [] = [] by decide +kernel, a2]
  refine prs_right h ok.one ?_
  rw [List.filter_cons_of_neg (by simp), List.filter_cons_of_neg (by simp), List.filter_eq_self]
  intro ws hws
  obtain ⟨t, ht, hw⟩ := List.mem_flatMap.1 hws
  have : ws ≠ [] := by
    unfold linesS at hw
    rcases List.mem_cons.1 hw with rfl | hw
    · unfold headW; simp
    rcases List.mem_cons.1 hw with rfl | hw
    · simp
    rcases List.mem_append.1 hw with hw | hw
    · obtain ⟨b, -, rfl⟩ := List.mem_map.1 hw
      unfold rateW; simp
    · unfold notsTo at hw
      obtain ⟨i, -, hi⟩ := List.mem_flatMap.1 hw
      split at hi
      · rw [List.mem_singleton] at hi; rw [hi]; simp
      · cases hi
  simpa using this

/-- Replacing one blank by two. -/
theorem rep_key : ∀ (n : Nat) (l : List UInt8), l.length < n → replaceK [32] [32, 32] (count l [32]) l = dbl l
  | 0, _, h => by omega
  | n + 1, l, h => by
    rcases Int.lt_or_le (index l [32]) 0 with hx | hx
    · have hi : index l [32] = -1 := by have := index_ge l [32]; omega
      rw [count_miss hi, replaceK, dbl_none (Wo.none_of (indexByte_none (by rw [← Wo.index_one]; exact hi)))]
    · obtain ⟨o, ho⟩ : ∃ o : Nat, index l [32] = (o : Int) := ⟨(index l [32]).toNat, by omega⟩
      have hb : indexByte l 32 = (o : Int) := by rw [← Wo.index_one]; exact ho
      have hs := indexByte_some hb
      have hlt : o < l.length := (List.getElem?_eq_some_iff.1 hs.1).1
      obtain ⟨e1, e2⟩ := Wo.cut_at hs.1 hs.2
      rw [count_hit (by simp) ho, Nat.add_comm, replaceK_hit _ _ _ _ o ho, show o + [(32 : UInt8)].length = o + 1 from rfl, rep_key n _ (by rw [List.length_drop]; omega)]
      conv => rhs; rw [e1]
      rw [dbl_append, dbl_none e2]
      simp [dbl]

theorem rep_dbl (l : List UInt8) : replaceAll l [32] [32, 32] = dbl l := by
  unfold replaceAll replace
  rw [if_neg (by decide)]
  have : replaceNum l [32] (-1) = count l [32] := by unfold replaceNum; rw [if_pos (.inl (by decide))]
  rw [this]
  exact rep_key _ l (Nat.lt_succ_self _)

end Sc
end Go.Proofs.YtflcdkibjakciaaGreatDoor
