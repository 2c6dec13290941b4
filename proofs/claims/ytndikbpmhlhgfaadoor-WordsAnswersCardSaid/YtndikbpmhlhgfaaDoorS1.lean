/-
  THE CONTRACTS that words.Split's round wants: a line's words without the empty ones.
-/
import Derived.Test.YtndikbpmhlhgfaaDoorSm
import Derived.Test.YtndikbpmhlhgfaaDoorW10
namespace Go.Proofs.YtndikbpmhlhgfaaDoor
open Go.RowKit Go.Shelf Go.Sort

set_option maxRecDepth 100000 in
theorem empty_any (s : ByteArray) (w : World) : Calls Tryd.prog 36 #[.string s] w fun e w' => e = .returned (.bool s.toList.isEmpty) ∧ w' = w := by
  by_cases h : s.toList = []
  · have h2 : s.toList.isEmpty = true := by rw [h]; rfl
    rw [h2]
    go_enter Tryd.func36, Tryd.ntmps36
    go_wp2
    go_ret
    exact ⟨rfl, rfl⟩
  · have h2 : s.toList.isEmpty = false := by cases e : s.toList with | nil => exact absurd e h | cons a b => rfl
    rw [h2]
    go_enter Tryd.func36, Tryd.ntmps36
    go_wp2
    go_ret
    exact ⟨rfl, rfl⟩

theorem keeps_putRow {α : Type} [Inhabited α] (enc : α → Value) (w : World) (q blk off : Nat) (d : Array α) (hb : ∃ c T, w.heap[blk]? = some (.cells c T)) : KeepsOthers w (putRow enc (Sort.ahead w q) blk off d) := by
  obtain ⟨c, T, hb⟩ := hb
  refine ⟨by simp [putRow, mapBlock, Sort.ahead], fun k o hk ho => ?_⟩
  by_cases e : k = blk
  · subst e; rw [hb] at hk; cases hk; cases ho
  · simp only [putRow, mapBlock, Sort.ahead, Array.getElem?_modify, if_neg (Ne.symm e)]
    exact hk

theorem below_putRow {α : Type} [Inhabited α] (enc : α → Value) (w : World) (q blk off : Nat) (d : Array α) : Below blk w (putRow enc (Sort.ahead w q) blk off d) := by
  refine ⟨rfl, rfl, rfl, by simp [putRow, mapBlock, Sort.ahead], fun k hk => ?_⟩
  simp only [putRow, mapBlock, Sort.ahead, Array.getElem?_modify, if_neg (show ¬ blk = k by omega)]

def DelGive (W : World) (B : Nat) (ws : List ByteArray) (e : Ending) (w' : World) : Prop :=
  e = .returned (.slice (some ⟨B, 0, none⟩) (ws.filter neB).length ws.length) ∧ Recs SB w' (some ⟨B, 0, none⟩) (ws.filter neB) ∧ Below B W w' ∧ KeepsOthers W w'

theorem getElem!_arr {α : Type} [Inhabited α] (l : List α) (j : Nat) (h : j < l.length) : l.toArray[j]! = l[j] := by
  rw [getElem!_pos l.toArray j (by simpa using h)]; simp

theorem delete_any (W : World) (B : Nat) (ws : List ByteArray) (hws : ws.length ≤ 16385) (hB : W.heap[B]? = some (.cells (SB.flat ws).toArray 9)) (hf : ∀ j, j < ws.length → W.frozen? ⟨B, j, none⟩ = false) :
    Calls Tryd.prog 34 #[.slice (some ⟨B, 0, none⟩) ws.length ws.length, .func (.func 36) #[] #[]] W (DelGive W B ws) := by
  have hl : (SB.flat ws).length = ws.length := by rw [flat_str, List.length_map]
  have hc : ∀ j, j < ws.length → W.cell? ⟨B, j, none⟩ = some (.string ws[j]!) := fun j hj => by
    have : ws[j]! = ws[j] := getElem!_pos ws j hj
    rw [this]
    simp only [World.cell?, hB]
    rw [flat_str]
    simp [hj]
  have hH : Holds Value.string W B 0 ws.toArray := fun j hj => by
    have hj' : j < ws.length := by simpa using hj
    refine ⟨?_, by rw [Nat.zero_add]; exact hf j hj'⟩
    rw [Nat.zero_add, hc j hj', getElem!_arr ws j hj', getElem!_pos ws j hj']
  have K := Tryd.slices_DeleteFunc (α := ByteArray) Value.string (fun _ => rfl) (fun x => x.toList.isEmpty) 36 #[] (enters_of Tryd.func36 (by kernel_rfl) rfl) ⟨#[]⟩ Tryd.zeroValue9 B 0 ws.length ws.toArray W
    (fun V x _ => (empty_any x V).mono fun e w' ⟨he, hw⟩ => ⟨he, 0, hw⟩) (fun n os dk x _ => (empty_any x _).mono fun e w' ⟨he, hw⟩ => ⟨he, 0, hw⟩) hH (by simp; omega) (by simp)
  simp only [List.size_toArray] at K
  refine K.mono fun e w' ⟨he, q, hw⟩ => ?_
  have hfl : (ws.filter neB).length ≤ ws.length := List.length_filter_le _ _
  have hsz : (((ws.filter neB) ++ List.replicate (ws.length - (ws.filter neB).length) (⟨#[]⟩ : ByteArray)).toArray).size = ws.toArray.size := by simp; omega
  refine ⟨he, ?_, by rw [hw]; exact below_putRow _ _ _ _ _ _, by rw [hw]; exact keeps_putRow _ _ _ _ _ _ ⟨_, _, hB⟩⟩
  have hlt : B < W.heap.size := (Array.getElem?_eq_some_iff.1 hB).1
  refine Recs.of_cells (by unfold maxLen; omega) (by rw [hw]; exact Nat.lt_of_lt_of_le hlt (below_putRow _ _ _ _ _ _).size) fun n u hu => ?_
  rw [flat_str] at hu
  have hn : n < (ws.filter neB).length := by
    have := (List.getElem?_eq_some_iff.1 hu).1
    simpa using this
  rw [List.getElem?_map, List.getElem?_eq_getElem hn] at hu
  have hu' : u = .string (ws.filter neB)[n] := by simpa using hu.symm
  rw [hw, hu']
  have h3 := cell?_putRow Value.string (Sort.ahead W q) B 0 ws.toArray _ (holds_ahead _ _ _ _ _ _ hH) hsz n (by rw [hsz]; simp; omega)
  refine h3.trans ?_
  rw [getElem!_arr _ _ (by simp; omega), List.getElem_append_left hn]
end Go.Proofs.YtndikbpmhlhgfaaDoor
