/-
  PLAIN: texts of lines of crops, with lines behind them.
-/
import Derived.Test.YtcghhagnibabeaaGreatDoorMF
namespace Go.Proofs.YtcghhagnibabeaaGreatDoor
namespace Cr
open Go.Lib

def lnT (c : Crp) : List UInt8 := join (lineW c) [32]

theorem pText_lns (L : List Crp) : pText L = (L.map lnT).flatMap fun l => l ++ [10] := by
  unfold pText Wo.jText
  rw [List.flatMap_map, List.flatMap_map]
  rfl

/-- A line of a text: no end of line in it, plain. -/
def LnOk (l : List UInt8) : Prop := (∀ c ∈ l, c ≠ 10) ∧ ∀ c ∈ l, Wo.plainB c = true

theorem words_line {ws : List (List UInt8)} (h : ∀ x ∈ ws, Wo.wordB x = true) : LnOk (join ws [32]) ∧ Wo.wds (join ws [32]) = ws :=
  ⟨⟨Wo.join_mem [32] (by intro c hc; simp at hc; subst hc; decide) ws (fun x hx c hc => ((Wo.word_byte (h x hx)).2 c hc).2.1), Wo.join_mem [32] (by intro c hc; simp at hc; subst hc; decide) ws (fun x hx c hc => ((Wo.word_byte (h x hx)).2 c hc).2.2.2)⟩, Wo.wds_line h⟩

theorem lnT_ok {c : Crp} (h : cErr c = 0) : LnOk (lnT c) ∧ Wo.wds (lnT c) = lineW c := words_line fun x hx => (line_words h x hx).1

theorem parse_text {TL : List (List UInt8)} (h : ∀ l ∈ TL, LnOk l) (h4 : TL.length ≤ 400) {s : ByteArray} (hs : s.data.toList = TL.flatMap fun l => l ++ [10]) (hl : s.size ≤ 16384) : parse s = prsA [] 0 (TL.map fun l => (Wo.wds l).map bs) := by
  have h0 : Wo.sErr s.data.toList = 0 := by
    rw [hs]
    refine Wo.sErr_text (fun l hl => (h l hl).1) (fun l hl => (h l hl).2) h4 ?_
    rw [← hs, size_len]
    exact hl
  unfold parse
  rw [if_pos h0]
  unfold sLines Wo.sList
  rw [if_pos h0, hs, Wo.lns_text TL fun l hl => (h l hl).1, List.map_map]
  rfl

theorem lines_map {L : List Crp} (h : ∀ c ∈ L, cErr c = 0) : (L.map lnT).map (fun l => (Wo.wds l).map bs) = L.map lineB := by
  rw [List.map_map]
  refine List.map_congr_left fun c hc => ?_
  show (Wo.wds (lnT c)).map bs = lineB c
  rw [(lnT_ok (h c hc)).2]
  rfl

/-- A catalogue's lines are read; then comes what is wrong. -/
theorem parse_tail {L : List Crp} (h : Right L) {V : List (List UInt8)} (hV : ∀ l ∈ V, LnOk l) (hVl : V.length ≤ 100) {s : ByteArray} (hs : s.data.toList = pText L ++ V.flatMap fun l => l ++ [10]) (hl : s.size ≤ 16384) {n er : Int}
    (hp : prsB L L.length (V.map fun l => (Wo.wds l).map bs) = ([], n, er)) : parse s = ([], n, er) := by
  have e := parse_text (TL := L.map lnT ++ V) (s := s) (fun l hl => by
    rcases List.mem_append.1 hl with hl | hl
    · obtain ⟨c, hc, rfl⟩ := List.mem_map.1 hl
      exact (lnT_ok (h.each c hc)).1
    · exact hV l hl) (by rw [List.length_append, List.length_map]; have := h.len; omega) (by rw [hs, pText_lns, List.flatMap_append]) hl
  rw [e, List.map_append, lines_map h.each]
  have hB : prsB [] 0 (L.map lineB) = (L, 0, 0) := by
    have := prsB_ok (L.map lineB) [] L 0 (List.filter_eq_self.2 fun w hw => by obtain ⟨c, -, rfl⟩ := List.mem_map.1 hw; simpa using lineB_ne c) h.each (by rw [List.nil_append]; exact asc_ne h.asc') (by rw [List.nil_append]; exact h.len)
    rwa [List.nil_append] at this
  have h2 := prsB_append (L.map lineB) (V.map fun l => (Wo.wds l).map bs) [] L 0 hB
  rw [Nat.zero_add, List.length_map, hp] at h2
  exact prsA_bad h2

end Cr
open Cr

theorem form_tail {L : List Crp} (h : Right L) {s : ByteArray} (hs : s.data.toList = pText L ++ [99, 114, 111, 112, 10]) (hl : s.size ≤ 16384) : parse s = ([], (L.length : Int) + 1, 4) := by
  refine parse_tail h (V := [[99, 114, 111, 112]]) (fun l hl => ?_) (by simp) (by rw [hs]; rfl) hl ?_
  · obtain rfl := List.mem_singleton.1 hl
    exact ⟨by decide, by decide⟩
  · rw [List.map_cons, List.map_nil, show Wo.wds [99, 114, 111, 112] = [[99, 114, 111, 112]] by decide +kernel, prsB, if_neg (by simp)]
    rfl

theorem twice_tail {L : List Crp} (h : Right L) {nm : ByteArray} (hn : ∃ c ∈ L, c.nm = nm) {s : ByteArray} (hs : s.data.toList = pText L ++ ([35, 32, 97, 108, 108, 10, 99, 114, 111, 112, 32] ++ nm.data.toList ++ [32, 49, 32, 45, 10])) (hl : s.size ≤ 16384) : parse s = ([], (L.length : Int) + 2, 6) := by
  obtain ⟨c0, hc0, rfl⟩ := hn
  have hc : cErr ⟨c0.nm, 1, 0⟩ = 0 := one_of (one_ok (h.each c0 hc0)).1 ⟨by show (0 : Int) ≤ 1; decide, by show (1 : Int) ≤ 40; decide⟩ ⟨by show (0 : Int) ≤ 0; decide, by show (0 : Int) ≤ 31; decide⟩
  have e1 : lnT ⟨c0.nm, 1, 0⟩ = [99, 114, 111, 112, 32] ++ c0.nm.data.toList ++ [32, 49, 32, 45] := by
    unfold lnT lineW
    have i1 : Lib.itoa 1 = [49] := by decide +kernel
    have i2 : mword 0 = [45] := by decide +kernel
    show Lib.join [[99, 114, 111, 112], c0.nm.data.toList, Lib.itoa 1, mword 0] [32] = _
    rw [i1, i2]
    simp [Wo.join_two, Lib.join_one]
  refine parse_tail h (V := [[35, 32, 97, 108, 108], lnT ⟨c0.nm, 1, 0⟩]) (fun l hl => ?_) (by simp) (by rw [hs, List.flatMap_cons, List.flatMap_cons, List.flatMap_nil, e1]; simp) hl ?_
  · simp only [List.mem_cons, List.not_mem_nil, or_false] at hl
    rcases hl with rfl | rfl
    · exact ⟨by decide, by decide⟩
    · exact (lnT_ok hc).1
  · rw [List.map_cons, List.map_cons, List.map_nil, show Wo.wds [35, 32, 97, 108, 108] = [] by decide +kernel, (lnT_ok hc).2, prsB]
    rw [List.map_nil, if_pos rfl, prsB, if_neg (by simp [lineW])]
    have hb : lineC ((lineW ⟨c0.nm, 1, 0⟩).map bs) = some ⟨c0.nm, 1, 0⟩ := lineC_back hc
    rw [hb]
    simp only
    rw [if_pos ((has_iff L c0.nm).2 ⟨c0, hc0, rfl⟩)]
    simp; omega

set_option maxRecDepth 100000 in
theorem form_alone : parse ⟨#[10, 99, 114, 111, 112, 32, 120, 32, 52, 49, 32, 45, 10]⟩ = ([], 2, 4) := by kernel_rfl

end Go.Proofs.YtcghhagnibabeaaGreatDoor
